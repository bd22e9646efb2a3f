/- Code: whole bodies over symbolic values, and that they do what they say. -/
import Derived.Test.YtfcafajfllegaaaRXl
import Derived.LoopN
set_option linter.unusedVariables false
set_option linter.unusedSimpArgs false
namespace Go.RX
open Go Go.RowKit

theorem count_set_false : ∀ (l : List Bool) (i : Nat), l[i]? = some false → (l.set i true).count false + 1 = l.count false
  | [], i, h => by simp at h
  | b :: l, 0, h => by
    simp at h; subst h
    simp
  | b :: l, i + 1, h => by
    have := count_set_false l i (by simpa using h)
    simp only [List.set_cons_succ, List.count_cons]
    omega

section
variable {E : Env} {ops : List Oper} {steps : List Step} {σ : List SV × Mem} {lv0 : Nat → Prop} {w0 : World} {A : Anchor}

theorem any_wp (hE : EnvOK E) (hlex : LexOK E ops steps σ) (hord : drawOK ops steps = true) (hmap : steps.map (·.o) = ops) {Q : Exit → Act → World → Prop}
    (hQ : ∀ a w, SInv A lv0 w0 (· < (sat steps σ steps.length).2.length) (sat steps σ steps.length) a w → Q .normal a w) :
    ∀ (fuel : Nat) (listed : Array Bool) (a : Act) (w : World), listed.size = ops.length →
      (∀ j o, ops[j]? = some o → listed.getD j false = true → ∀ e ∈ o.after.toList, Region.binds .any e = true → listed.getD e.on false = true) →
      listed.toList.count false ≤ fuel → SInv A lv0 w0 (DL steps σ.2.length fun j => listed.getD j false) (foldL (fun j => listed.getD j false) steps 0 σ) a w →
      wpAny E.P .any ops.toArray Q fuel listed a w := by
  have hord' := hord
  unfold drawOK at hord'
  rw [Bool.and_eq_true] at hord'
  obtain ⟨hback, ho⟩ := hord'
  have hlen : steps.length = ops.length := by rw [← hmap]; simp
  -- none is ready: all are listed
  have hdone : ∀ (listed : Array Bool), listed.size = ops.length → Region.ready .any ops.toArray listed = [] → ∀ i, i < ops.length → listed.getD i false = true := by
    intro listed hsz hr i
    induction i using Nat.strongRecOn with
    | _ i ih =>
      intro hi
      cases hl : listed.getD i false
      · exfalso
        have hmem : i ∈ Region.ready .any ops.toArray listed := by
          rw [mem_ready]
          refine ⟨?_, ops[i], by simp [hi], fun e he hb => ?_⟩
          · have : i < listed.size := by omega
            simp [this] at hl ⊢
            exact hl
          · have := List.all_eq_true.1 hback (ops[i], i) (by rw [List.mem_zipIdx_iff_getElem?]; simp [hi])
            have := List.all_eq_true.1 this e (by simpa using he)
            simp only [hb, Bool.not_true, Bool.false_or] at this
            have hlt : e.on < i := by rw [← Nat.blt_eq]; exact this
            exact ih e.on hlt (by omega)
        rw [hr] at hmem; cases hmem
      · rfl
  have hfin : ∀ (listed : Array Bool) (a : Act) (w : World), listed.size = ops.length → Region.ready .any ops.toArray listed = [] →
      SInv A lv0 w0 (DL steps σ.2.length fun j => listed.getD j false) (foldL (fun j => listed.getD j false) steps 0 σ) a w → Q .normal a w := by
    intro listed a w hsz hr hi
    have hall := hdone listed hsz hr
    rw [foldL_every (L := fun j => listed.getD j false) steps 0 σ (fun k hk => by simp only [Nat.zero_add]; exact hall k (by omega))] at hi
    have e : steps.foldl (fun σ s => s.app σ) σ = sat steps σ steps.length := by unfold sat; rw [List.take_length]
    rw [e] at hi
    obtain ⟨bs, h1, h2, h3⟩ := hi
    refine hQ a w ⟨bs, h1.monoD fun x hx => ?_, h2, h3⟩
    show x < (sat steps σ steps.length).2.length
    rcases hx with hx | ⟨j, s, hs, _, h4, h5⟩
    · have := sat_mono steps σ (Nat.zero_le steps.length)
      simp only [sat, List.take_zero, List.foldl_nil] at this ⊢
      omega
    · obtain ⟨_, hl', _⟩ := lex_at steps σ hlex j s hs
      have hj : j < steps.length := by rw [List.getElem?_eq_some_iff] at hs; exact hs.1
      have := sat_mono steps σ (show j + 1 ≤ steps.length by omega)
      rw [sat_succ hs, hl'] at this
      omega
  intro fuel
  induction fuel with
  | zero =>
    intro listed a w hsz hc hcnt hi
    have hr : Region.ready .any ops.toArray listed = [] := by
      cases hr : Region.ready .any ops.toArray listed with
      | nil => rfl
      | cons i rs =>
        exfalso
        have hmem : i ∈ Region.ready .any ops.toArray listed := by rw [hr]; simp
        obtain ⟨h1, o, h2, _⟩ := mem_ready.1 hmem
        have hi' : i < ops.length := by
          have : i < ops.toArray.size := by rw [Array.getElem?_eq_some_iff] at h2; exact h2.1
          simpa using this
        have : false ∈ listed.toList := by
          have hlt : i < listed.size := by omega
          simp [hlt] at h1
          rw [← h1]; simp
        have := List.count_pos_iff.2 this
        omega
    exact ⟨hr, hfin listed a w hsz hr hi⟩
  | succ fuel ih =>
    intro listed a w hsz hc hcnt hi
    refine ⟨fun hr => hfin listed a w hsz hr hi, fun i hmem => ?_⟩
    obtain ⟨h1, o, h2, h3⟩ := mem_ready.1 hmem
    have hi' : i < ops.length := by
      have : i < ops.toArray.size := by rw [Array.getElem?_eq_some_iff] at h2; exact h2.1
      simpa using this
    have hlt : i < listed.size := by omega
    have hs : steps[i]? = some steps[i] := List.getElem?_eq_getElem (by omega)
    have hso : steps[i].o = o := by
      have : (steps.map (·.o))[i]? = some steps[i].o := by simp [hs]
      rw [hmap] at this
      have h2' : ops[i]? = some o := by simpa using h2
      rw [h2'] at this
      exact (Option.some.inj this).symm
    have hLi : listed.getD i false = false := by simp [hlt] at h1 ⊢; exact h1
    have hset : (fun j => (listed.setIfInBounds i true).getD j false) = addL (fun j => listed.getD j false) i := by
      funext j
      simp only [addL]
      by_cases hj : j = i
      · subst hj; simp [hlt]
      · simp [hj, Array.getElem?_setIfInBounds_ne (Ne.symm hj)]
    have hdir : ∀ e ∈ o.after.toList, Region.binds .any e = true → listed.getD e.on false = true := fun e he hb => h3 e (by simpa using he) hb
    have hstep := draw_step (A := A) (lv0 := lv0) (w0 := w0) (w := w) (a := a) hE hlex ho (L := fun j => listed.getD j false) hc hs hLi
      (fun k hk => by
        cases hk with
        | edge ho' he hb =>
          have : ops[i]? = some o := by simpa using h2
          rw [this] at ho'; cases ho'
          exact hdir _ he hb
        | more ho' he hb hmore =>
          have : ops[i]? = some o := by simpa using h2
          rw [this] at ho'; cases ho'
          exact anc_listed (L := fun j => listed.getD j false) hc hmore (hdir _ he hb)) (Q := Q) hi
      (K := wpAny E.P .any ops.toArray Q fuel (listed.setIfInBounds i true)) (fun a' w' h => by
        refine ih _ a' w' (by simpa using hsz) ?_ ?_ (by rw [hset]; exact h)
        · intro j o' hj hl e he hb
          have hl' : (fun j => (listed.setIfInBounds i true).getD j false) j = true := hl
          rw [hset] at hl'
          show (fun j => (listed.setIfInBounds i true).getD j false) e.on = true
          rw [hset]
          simp only [addL, Bool.or_eq_true, decide_eq_true_eq] at hl' ⊢
          rcases hl' with hl' | rfl
          · exact .inl (hc j o' hj hl' e he hb)
          · have : ops[j]? = some o := by simpa using h2
            rw [this] at hj; cases hj
            exact .inl (hdir e he hb)
        · have := count_set_false listed.toList i (by simp [hlt] at h1 ⊢; exact h1)
          rw [Array.toList_setIfInBounds]
          omega)
    unfold wpOp
    rw [h2]
    rw [hso] at hstep
    exact hstep

/-! ### Code -/
inductive Ex where
  | normal
  | exit (id : Nat)
  | ret
def Ex.out : Ex → Exit
  | .normal => .normal
  | .exit id => .exit id
  | .ret => .ret

abbrev St := List SV × Mem

def firstReg : Code → Option Nat
  | .region id _ _ => some id
  | .seq a b => match firstReg a with | some i => some i | none => firstReg b
  | .cond _ a b => match firstReg a with | some i => some i | none => firstReg b
  | .block _ c => firstReg c
  | .loop c => firstReg c
  | _ => none

def loopsIn : Code → List Code
  | .seq a b => loopsIn a ++ loopsIn b
  | .cond _ a b => loopsIn a ++ loopsIn b
  | .block _ c => loopsIn c
  | .loop c => c :: loopsIn c
  | _ => []

def refine (sl : List SV) (x : Operand) (b : Bool) : List SV :=
  match x with
  | .tmp t => sl.set t (.kb b)
  | _ => sl

/-- What is claimed of the loops of a function: by the first region of the round; how many blocks the surroundings have is handed over. -/
inductive LoopC where
  | sum (f : Nat → St → T (Ex × St))
  | un (n : Nat)
abbrev Loops := List (Nat × LoopC)

/-- Some rounds of a loop, one after the other. -/
def rounds (f : St → T (Ex × St)) : Nat → St → T (Ex × St)
  | 0, _ => .stuck 105
  | n + 1, σ => (f σ).bind fun p => match p.1 with | .normal => rounds f n p.2 | e => .ret (e, p.2)

/-- What a summary says of the blocks: all that were there count as written. -/
def bump (m m' : Mem) : Mem := (List.range m'.length).map fun b => (bif Nat.blt b m.length then m.gen b + 1 else m'.gen b, m'.fn b)
theorem bump_len (m m' : Mem) : (bump m m').length = m'.length := by simp [bump]
theorem bump_get (m m' : Mem) (b : Nat) (h : b < m'.length) : (bump m m').getD b (0, none) = (bif Nat.blt b m.length then m.gen b + 1 else m'.gen b, m'.fn b) := by
  simp [bump, List.getD_eq_getElem?_getD, h]
theorem bump_fn (m m' : Mem) : (bump m m').fn = m'.fn := by
  funext b
  by_cases h : b < m'.length
  · unfold Mem.fn; rw [bump_get m m' b h]; rfl
  · rw [fn_out (by rw [bump_len]; omega), fn_out (by omega)]
theorem le_bump {m m' : Mem} (h : m.length ≤ m'.length) : Le m (bump m m') := by
  refine ⟨by rw [bump_len]; exact h, fun b hb => .inr ?_⟩
  have hlt : Nat.blt b m.length = true := by rw [Nat.blt_eq]; exact hb
  unfold Mem.gen
  rw [bump_get m m' b (by omega), hlt]
  exact Nat.lt_succ_self _

/-- A small number worked out. -/
def fTab {β : Type} (n : Nat) (k : Nat → T β) : List Nat → T β
  | [] => k n
  | c :: cs => bif Nat.beq n c then k c else fTab n k cs
theorem fTab_eq {β : Type} (n : Nat) (k : Nat → T β) : ∀ l, fTab n k l = k n
  | [] => rfl
  | c :: cs => by
    rw [fTab]
    cases h : Nat.beq n c
    · exact fTab_eq n k cs
    · rw [Nat.eq_of_beq_eq_true h]; rfl
def fNat {β : Type} (n : Nat) (k : Nat → T β) : T β := fTab n k [0, 1, 2, 3, 4, 5, 6, 7, 8, 9, 10, 11, 12, 13, 14, 15, 16, 17, 18, 19, 20, 21, 22, 23, 24, 25, 26, 27, 28, 29, 30, 31, 32, 33, 34, 35, 36, 37, 38, 39, 40, 41, 42, 43, 44, 45, 46, 47, 48, 49, 50, 51, 52, 53, 54, 55, 56, 57, 58, 59, 60, 61, 62, 63]
theorem fNat_eq {β : Type} (n : Nat) (k : Nat → T β) : fNat n k = k n := fTab_eq n k _
def fInt {β : Type} (n : Int) (k : Int → T β) : T β :=
  match n with
  | .ofNat m => fNat m fun m => k (.ofNat m)
  | .negSucc m => k (.negSucc m)
theorem fInt_eq {β : Type} (n : Int) (k : Int → T β) : fInt n k = k n := by
  cases n
  · exact fNat_eq _ _
  · rfl
mutual
/-- A state worked out before it is used: 'f x k' is 'k x'. -/
def fSV {β : Type} : SV → (SV → T β) → T β
  | .lit v, k => match v with
    | .int i n => k (.lit (.int i n))
    | .bool b => k (.lit (.bool b))
    | v => k (.lit v)
  | .kb b, k => match b with
    | true => k (.kb true)
    | false => k (.kb false)
  | .agg cs, k => fSVs cs fun cs => k (.agg cs)
  | .tup cs, k => fSVs cs fun cs => k (.tup cs)
  | .fn f as cs, k => fSVs as fun as => fSVs cs fun cs => k (.fn f as cs)
  | .any, k => k .any
  | .ki i n, k => fInt n fun n => k (.ki i n)
  | .ptr b o, k => fNat b fun b => fNat o fun o => k (.ptr b o)
  | .own z b n, k => fNat b fun b => k (.own z b n)
  | .optr b i o n, k => fNat b fun b => k (.optr b i o n)
  | .row ss n f, k => k (.row ss n f)
  | .rptr ss n f i o, k => k (.rptr ss n f i o)
  | .csl b o n ss, k => fNat b fun b => fNat o fun o => fNat n fun n => k (.csl b o n ss)
def fSVs {β : Type} : List SV → (List SV → T β) → T β
  | [], k => k []
  | s :: ss, k => fSV s fun s => fSVs ss fun ss => k (s :: ss)
end
mutual
theorem fSV_eq {β : Type} : ∀ (s : SV) (k : SV → T β), fSV s k = k s
  | .lit v, k => by unfold fSV; split <;> rfl
  | .kb b, k => by cases b <;> rfl
  | .agg cs, k => by rw [fSV, fSVs_eq cs]
  | .tup cs, k => by rw [fSV, fSVs_eq cs]
  | .fn f as cs, k => by rw [fSV, fSVs_eq as, fSVs_eq cs]
  | .any, k => rfl
  | .ki i n, k => by rw [fSV, fInt_eq]
  | .ptr b o, k => by rw [fSV, fNat_eq, fNat_eq]
  | .own z b n, k => by rw [fSV, fNat_eq]
  | .optr b i o n, k => by rw [fSV, fNat_eq]
  | .row ss n f, k => rfl
  | .rptr ss n f i o, k => rfl
  | .csl b o n ss, k => by rw [fSV, fNat_eq, fNat_eq, fNat_eq]
theorem fSVs_eq {β : Type} : ∀ (s : List SV) (k : List SV → T β), fSVs s k = k s
  | [], k => rfl
  | s :: ss, k => by rw [fSVs, fSV_eq s, fSVs_eq ss]
end
def fMem {β : Type} : Mem → (Mem → T β) → T β
  | [], k => k []
  | (g, b) :: m, k =>
    fNat g fun g => match b with
    | none => fMem m fun m => k ((g, none) :: m)
    | some (.cells cs e) => fSVs cs fun cs => fMem m fun m => k ((g, some (.cells cs e)) :: m)
    | some (.row z n ss f e) => fMem m fun m => k ((g, some (.row z n ss f e)) :: m)
theorem fMem_eq {β : Type} : ∀ (m : Mem) (k : Mem → T β), fMem m k = k m
  | [], k => rfl
  | (g, none) :: m, k => by rw [fMem, fNat_eq]; simp only []; rw [fMem_eq m]
  | (g, some (.cells cs e)) :: m, k => by rw [fMem, fNat_eq]; simp only []; rw [fSVs_eq cs, fMem_eq m]
  | (g, some (.row z n ss f e)) :: m, k => by rw [fMem, fNat_eq]; simp only []; rw [fMem_eq m]
def fSt {β : Type} (σ : St) (k : St → T β) : T β := fSVs σ.1 fun sl => fMem σ.2 fun m => k (sl, m)
theorem fSt_eq {β : Type} (σ : St) (k : St → T β) : fSt σ k = k σ := by
  unfold fSt; rw [fSVs_eq, fMem_eq]

noncomputable def sx (E : Env) (L : Loops) (n0 : Nat) : Code → St → T (Ex × St)
  | .skip, σ => .ret (.normal, σ)
  | .region _ ops draw, σ =>
    fSt σ fun σ => (srun E ops.toList ops.toList [] σ []).bind fun p => bif !draw || drawOK ops.toList p.2 then .ret (.normal, p.1) else .stuck 100
  | .seq a b, σ => (sx E L n0 a σ).bind fun p => match p.1 with | .normal => sx E L n0 b p.2 | e => .ret (e, p.2)
  | .cond c a b, σ =>
    match ev σ.1 c with
    | .kb true => sx E L n0 a σ
    | .kb false => sx E L n0 b σ
    | .lit (.bool x) => .br x (sx E L n0 a (refine σ.1 c true, σ.2)) (sx E L n0 b (refine σ.1 c false, σ.2))
    | _ => .stuck 101
  | .block id c, σ => (sx E L n0 c σ).bind fun p => match p.1 with | .exit i => bif Nat.beq i id then .ret (.normal, p.2) else .ret (.exit i, p.2) | e => .ret (e, p.2)
  | .loop c, σ =>
    match firstReg c with
    | some k => match List.lookup k L with
      | some (.sum f) => (f n0 σ).bind fun r => bif Nat.ble σ.2.length r.2.2.length then .ret (r.1, (r.2.1, bump σ.2 r.2.2)) else .stuck 106
      | some (.un n) => rounds (sx E L n0 c) n σ
      | none => .stuck 102
    | none => .stuck 103
  | .exit id, σ => .ret (.exit id, σ)
  | .ret, σ => .ret (.ret, σ)
  | _, _ => .stuck 104

/-- What is claimed of a loop holds. -/
def LoopOK (P : Program) (c : Code) (f : Nat → St → T (Ex × St)) : Prop :=
  ∀ (n0 : Nat) (σ : St) (r : Ex × St), (f n0 σ).Is r → ∀ (A : Anchor) (lv0 : Nat → Prop) (w0 : World) (a : Act) (w : World), A.n ≤ n0 → SInv A lv0 w0 (· < σ.2.length) σ a w →
    (Code.loop c).wp P (fun e a' w' => e = r.1.out ∧ SInv A lv0 w0 (· < r.2.2.length) r.2 a' w') a w

def LoopsOK (P : Program) (L : Loops) (c : Code) : Prop := ∀ l ∈ loopsIn c, ∀ k f, firstReg l = some k → List.lookup k L = some (.sum f) → LoopOK P l f

theorem refine_inv {D : Nat → Prop} {x : Operand} {b : Bool} {a : Act} {w : World} (h : SInv A lv0 w0 D σ a w) (hx : a.eval x = .bool b) : SInv A lv0 w0 D (refine σ.1 x b, σ.2) a w := by
  obtain ⟨bs, h1, h2, h3⟩ := h
  refine ⟨bs, h1, ?_, h3⟩
  unfold refine
  split
  · rename_i t
    refine ⟨?_, h2.defers⟩
    by_cases ht : t < a.tmps.size
    · have hset := h2.rep.set t (s := .kb b) (v := a.tmps[t]) (by
        have : a.eval (.tmp t) = a.tmps[t] := by simp [Act.eval, ht]
        rw [this] at hx
        exact hx)
      have : a.tmps.toList.set t a.tmps[t] = a.tmps.toList := by
        apply List.ext_getElem?
        intro j
        rw [List.getElem?_set]
        by_cases hj : t = j
        · subst hj; simp [ht]
        · simp [hj]
      rw [this] at hset
      exact hset
    · have hlen : a.tmps.size = σ.1.length := by have := h2.rep.length; rwa [Array.length_toList] at this
      have : σ.1.set t (.kb b) = σ.1 := List.set_eq_of_length_le (by rw [← hlen]; exact Nat.le_of_not_lt ht)
      show RepL _ _ _ (σ.1.set t (.kb b)) _
      rw [this]; exact h2.rep
  · exact h2

theorem region_wp (hm : E.P.follows .mixedOrders = true) (hE : EnvOK E) {id : Nat} {opa : Array Oper} {draw : Bool} {σ' : St} {steps : List Step} {a : Act} {w : World}
    (h : (srun E opa.toList opa.toList [] σ []).Is (σ', steps)) (hd : (!draw || drawOK opa.toList steps) = true) (hi : SInv A lv0 w0 (· < σ.2.length) σ a w) :
    (Code.region id opa draw).wp E.P (fun e a' w' => e = .normal ∧ SInv A lv0 w0 (· < σ'.2.length) σ' a' w') a w := by
  obtain ⟨new, e1, e2, hlex, rfl⟩ := srun_sound _ _ _ _ _ _ h (fun t b hb => by simp [Dec.get] at hb)
  obtain rfl : steps = new := by simpa using e1
  cases draw
  · refine wp_region_list ?_
    rw [← e2]
    have := seq_wp (A := A) (lv0 := lv0) (w0 := w0) (ops := opa.toList) hE (Q := fun e a' w' => e = .normal ∧ SInv A lv0 w0 (· < (steps.foldl (fun σ s => s.app σ) σ).2.length) (steps.foldl (fun σ s => s.app σ) σ) a' w') steps σ a w hlex hi (fun a' w' h => ⟨rfl, h⟩)
    simpa using this
  · simp only [Bool.not_true, Bool.false_or] at hd
    refine wp_region_any hm ?_
    have hsat : steps.foldl (fun σ s => s.app σ) σ = sat steps σ steps.length := by unfold sat; rw [List.take_length]
    have hi' : SInv A lv0 w0 (· < σ.2.length) σ a { w with drawn := w.drawn + 1 } := by
      obtain ⟨bs, h1, h2, h3⟩ := hi
      have hb : Below w.heap.size w { w with drawn := w.drawn + 1 } := (Below.refl _ w).drew
      exact ⟨bs, h1.grow hb, ⟨(ext_grow bs _ hb).repL h2.rep, h2.defers⟩, h3.trans (ext_grow bs _ hb)⟩
    have := any_wp (A := A) (lv0 := lv0) (w0 := w0) (Q := fun e a' w' => e = .normal ∧ SInv A lv0 w0 (· < (steps.foldl (fun σ s => s.app σ) σ).2.length) (steps.foldl (fun σ s => s.app σ) σ) a' w')
      hE hlex hd e2 (fun a w h => ⟨rfl, by rw [hsat]; exact h⟩) opa.size (Array.replicate opa.size false) a { w with drawn := w.drawn + 1 } (by simp)
      (fun j o _ hl => by simp [Array.getElem?_replicate] at hl; split at hl <;> simp at hl) (by simp [List.count_replicate]) (by
        rw [foldL_none]
        · obtain ⟨bs, h1, h2, h3⟩ := hi'
          exact ⟨bs, h1.monoD fun x hx => .inl hx, h2, h3⟩
        · intro k _; simp [Array.getElem?_replicate]; split <;> rfl)
    simpa using this

theorem sx_sound (hm : E.P.follows .mixedOrders = true) (hE : EnvOK E) {L : Loops} {n0 : Nat} : ∀ (c : Code) (σ : St) (r : Ex × St), (sx E L n0 c σ).Is r → LoopsOK E.P L c → ∀ (A : Anchor) (lv0 : Nat → Prop) (w0 : World) (a : Act) (w : World), A.n ≤ n0 → SInv A lv0 w0 (· < σ.2.length) σ a w →
    c.wp E.P (fun e a' w' => e = r.1.out ∧ SInv A lv0 w0 (· < r.2.2.length) r.2 a' w') a w
  | .skip, σ, r, h, _, A, lv0, w0, a, w, hA, hi => by obtain rfl : _ = r := h; exact wp_skip ⟨rfl, hi⟩
  | .region id ops draw, σ, r, h, _, A, lv0, w0, a, w, hA, hi => by
    rw [sx, fSt_eq] at h
    obtain ⟨p, h1, h2⟩ := T.is_bind h
    cases hd : (!draw || drawOK ops.toList p.2)
    · rw [hd] at h2; exact h2.elim
    · rw [hd] at h2
      obtain rfl : _ = r := h2
      exact region_wp hm hE h1 hd hi
  | .seq x y, σ, r, h, hL, A, lv0, w0, a, w, hA, hi => by
    obtain ⟨p, h1, h2⟩ := T.is_bind h
    refine wp_seq ?_
    refine wp_mono (sx_sound hm hE x σ p h1 (fun l hl => hL l (by simp [loopsIn, hl])) A lv0 w0 a w hA hi) ?_
    rintro e a' w' ⟨rfl, h3⟩
    obtain ⟨ex, σ'⟩ := p
    cases ex with
    | normal => exact sx_sound hm hE y σ' r h2 (fun l hl => hL l (by simp [loopsIn, hl])) A lv0 w0 a' w' hA h3
    | exit id => obtain rfl : _ = r := h2; exact ⟨rfl, h3⟩
    | ret => obtain rfl : _ = r := h2; exact ⟨rfl, h3⟩
  | .cond c x y, σ, r, h, hL, A, lv0, w0, a, w, hA, hi => by
    have hev : ∃ bs lv, Rep bs lv w (ev σ.1 c) (a.eval c) := by obtain ⟨bs, _, h2, _⟩ := hi; exact ⟨bs, _, h2.ev c⟩
    obtain ⟨bs, lv, hev⟩ := hev
    unfold sx at h
    split at h
    · rename_i hc
      rw [hc] at hev
      exact wp_cond_true hev (sx_sound hm hE x σ r h (fun l hl => hL l (by simp [loopsIn, hl])) A lv0 w0 a w hA hi)
    · rename_i hc
      rw [hc] at hev
      exact wp_cond_false hev (sx_sound hm hE y σ r h (fun l hl => hL l (by simp [loopsIn, hl])) A lv0 w0 a w hA hi)
    · rename_i b hc
      rw [hc] at hev
      rcases h with ⟨rfl, h⟩ | ⟨rfl, h⟩
      · exact wp_cond_true hev (sx_sound hm hE x _ r h (fun l hl => hL l (by simp [loopsIn, hl])) A lv0 w0 a w hA (refine_inv hi hev))
      · exact wp_cond_false hev (sx_sound hm hE y _ r h (fun l hl => hL l (by simp [loopsIn, hl])) A lv0 w0 a w hA (refine_inv hi hev))
    · exact h.elim
  | .block id c, σ, r, h, hL, A, lv0, w0, a, w, hA, hi => by
    obtain ⟨p, h1, h2⟩ := T.is_bind h
    refine wp_block ?_
    refine wp_mono (sx_sound hm hE c σ p h1 (fun l hl => hL l (by simpa [loopsIn] using hl)) A lv0 w0 a w hA hi) ?_
    rintro e a' w' ⟨rfl, h3⟩
    obtain ⟨ex, σ'⟩ := p
    cases ex with
    | normal => obtain rfl : _ = r := h2; exact ⟨rfl, h3⟩
    | ret => obtain rfl : _ = r := h2; exact ⟨rfl, h3⟩
    | exit i =>
      simp only [Ex.out, Exit.inBlock]
      simp only [] at h2
      cases hb : Nat.beq i id
      · rw [hb] at h2
        obtain rfl : _ = r := h2
        rw [if_neg (fun e => by subst e; simp at hb)]
        exact ⟨rfl, h3⟩
      · rw [hb] at h2
        obtain rfl : _ = r := h2
        rw [if_pos (Nat.eq_of_beq_eq_true hb)]
        exact ⟨rfl, h3⟩
  | .loop c, σ, r, h, hL, A, lv0, w0, a, w, hA, hi => by
    unfold sx at h
    split at h
    · rename_i k hk
      split at h
      · rename_i f hf
        obtain ⟨r0, h1, h2⟩ := T.is_bind h
        cases hb : Nat.ble σ.2.length r0.2.2.length
        · rw [hb] at h2; exact h2.elim
        rw [hb] at h2
        obtain rfl : _ = r := h2
        refine wp_mono (hL c (by simp [loopsIn]) k f hk hf n0 σ r0 h1 A lv0 w0 a w hA hi) ?_
        rintro e a' w' ⟨rfl, h3⟩
        refine ⟨rfl, ?_⟩
        show SInv A lv0 w0 (· < (bump σ.2 r0.2.2).length) (r0.2.1, bump σ.2 r0.2.2) a' w'
        unfold SInv at h3 ⊢
        simp only [bump_fn, bump_len]
        exact h3
      · rename_i n hn
        have key : ∀ (n : Nat) (σ : St), (rounds (sx E L n0 c) n σ).Is r → ∀ (a : Act) (w : World), SInv A lv0 w0 (· < σ.2.length) σ a w →
            Code.rounds E.P c (fun e a' w' => e = r.1.out ∧ SInv A lv0 w0 (· < r.2.2.length) r.2 a' w') n a w := by
          intro n
          induction n with
          | zero => intro σ h; exact h.elim
          | succ n ih =>
            intro σ h a w hi
            rw [rounds] at h
            obtain ⟨p, h1, h2⟩ := T.is_bind h
            have hb := sx_sound hm hE c σ p h1 (fun l hl => hL l (by simp [loopsIn, hl])) A lv0 w0 a w hA hi
            obtain ⟨ex, σ'⟩ := p
            refine wp_mono hb ?_
            rintro e a' w' ⟨rfl, h3⟩
            cases ex with
            | normal => exact ih σ' h2 a' w' h3
            | exit id => obtain rfl : _ = r := h2; exact ⟨rfl, h3⟩
            | ret => obtain rfl : _ = r := h2; exact ⟨rfl, h3⟩
        exact wp_loop_rounds n (key n σ h a w hi)
      · exact h.elim
    · exact h.elim
  | .exit id, σ, r, h, _, A, lv0, w0, a, w, hA, hi => by obtain rfl : _ = r := h; exact wp_exit ⟨rfl, hi⟩
  | .ret, σ, r, h, _, A, lv0, w0, a, w, hA, hi => by obtain rfl : _ = r := h; exact wp_ret ⟨rfl, hi⟩
  | .scope _, σ, r, h, _, _, _, _, _, _, _, _ => by exact h.elim
  | .label _, σ, r, h, _, _, _, _, _, _, _, _ => by exact h.elim
  | .goto _, σ, r, h, _, _, _, _, _, _, _, _ => by exact h.elim
  | .refuse _, σ, r, h, _, _, _, _, _, _, _, _ => by exact h.elim
  | .rangeFunc _ _ _ _, σ, r, h, _, _, _, _, _, _, _, _ => by exact h.elim

theorem le_steps : ∀ (l : List Step) (σ : St), Le σ.2 (l.foldl (fun σ s => s.app σ) σ).2
  | [], σ => .refl _
  | s :: l, σ => (le_msets s.out.wr σ.2).trans (le_steps l (s.app σ))
theorem srun_le {E : Env} {ops : List Oper} {σ : St} {p : St × List Step} (h : (srun E ops ops [] σ []).Is p) : Le σ.2 p.1.2 := by
  obtain ⟨σ', steps⟩ := p
  obtain ⟨new, _, _, _, rfl⟩ := srun_sound _ _ _ _ _ _ h (fun t b hb => by simp [Dec.get] at hb)
  exact le_steps new σ

theorem sx_le {E : Env} (hE : ∀ f args m m' r, (E.inl f args m).Is (r, m') → Le m m') {L : Loops} {n0 : Nat} : ∀ (c : Code) (σ : St) (r : Ex × St), (sx E L n0 c σ).Is r → Le σ.2 r.2.2
  | .skip, σ, r, h => by obtain rfl : _ = r := h; exact .refl _
  | .region id ops draw, σ, r, h => by
    rw [sx, fSt_eq] at h
    obtain ⟨p, h1, h2⟩ := T.is_bind h
    cases hd : (!draw || drawOK ops.toList p.2)
    · rw [hd] at h2; exact h2.elim
    · rw [hd] at h2
      obtain rfl : _ = r := h2
      exact srun_le h1
  | .seq x y, σ, r, h => by
    obtain ⟨p, h1, h2⟩ := T.is_bind h
    have g := sx_le hE x σ p h1
    obtain ⟨ex, σ'⟩ := p
    cases ex with
    | normal => exact g.trans (sx_le hE y σ' r h2)
    | exit id => obtain rfl : _ = r := h2; exact g
    | ret => obtain rfl : _ = r := h2; exact g
  | .cond c x y, σ, r, h => by
    unfold sx at h
    split at h
    · exact sx_le hE x σ r h
    · exact sx_le hE y σ r h
    · rcases h with ⟨_, h⟩ | ⟨_, h⟩
      · have g := sx_le hE x _ r h
        exact g
      · have g := sx_le hE y _ r h
        exact g
    · exact h.elim
  | .block id c, σ, r, h => by
    obtain ⟨p, h1, h2⟩ := T.is_bind h
    have g := sx_le hE c σ p h1
    obtain ⟨ex, σ'⟩ := p
    cases ex with
    | normal => obtain rfl : _ = r := h2; exact g
    | ret => obtain rfl : _ = r := h2; exact g
    | exit i =>
      simp only [] at h2
      cases hb : Nat.beq i id
      · rw [hb] at h2; obtain rfl : _ = r := h2; exact g
      · rw [hb] at h2; obtain rfl : _ = r := h2; exact g
  | .loop c, σ, r, h => by
    unfold sx at h
    split at h
    · split at h
      · obtain ⟨r0, h1, h2⟩ := T.is_bind h
        cases hb : Nat.ble σ.2.length r0.2.2.length
        · rw [hb] at h2; exact h2.elim
        rw [hb] at h2
        obtain rfl : _ = r := h2
        exact le_bump (Nat.le_of_ble_eq_true hb)
      · rename_i n hn
        have key : ∀ (n : Nat) (σ : St), (rounds (sx E L n0 c) n σ).Is r → Le σ.2 r.2.2 := by
          intro n
          induction n with
          | zero => intro σ h; exact h.elim
          | succ n ih =>
            intro σ h
            rw [rounds] at h
            obtain ⟨p, h1, h2⟩ := T.is_bind h
            have g := sx_le hE c σ p h1
            obtain ⟨ex, σ'⟩ := p
            cases ex with
            | normal => exact g.trans (ih σ' h2)
            | exit id => obtain rfl : _ = r := h2; exact g
            | ret => obtain rfl : _ = r := h2; exact g
        exact key n σ h
      · exact h.elim
    · exact h.elim
  | .exit id, σ, r, h => by obtain rfl : _ = r := h; exact .refl _
  | .ret, σ, r, h => by obtain rfl : _ = r := h; exact .refl _
  | .scope _, σ, r, h => by exact h.elim
  | .label _, σ, r, h => by exact h.elim
  | .goto _, σ, r, h => by exact h.elim
  | .refuse _, σ, r, h => by exact h.elim
  | .rangeFunc _ _ _ _, σ, r, h => by exact h.elim
end
end Go.RX
