/- Code: whole bodies over symbolic values, and that they do what they say. -/
import Derived.Test.YtfcafajfllegaaaRXl
set_option linter.unusedVariables false
set_option linter.unusedSimpArgs false
namespace Go.RX
open Go Go.RowKit

theorem count_set_false : ∀ (l : List Bool) (i : Nat), l[i]? = some false → (l.set i true).count false + 1 = l.count false
  | [], i, h => by simp at h
  | b :: l, 0, h => by
    simp at h; subst h
    simp
  | b :: l, i + 1, h => by
    have := count_set_false l i (by simpa using h)
    simp only [List.set_cons_succ, List.count_cons]
    omega

section
variable {E : Env} {ops : List Oper} {steps : List Step} {σ : List SV × Mem} {lv0 : Nat → Prop} {w0 : World} {A : Anchor}

theorem any_wp (hE : EnvOK E) (hlex : LexOK E ops steps σ) (hord : drawOK ops steps = true) (hmap : steps.map (·.o) = ops) {Q : Exit → Act → World → Prop}
    (hQ : ∀ a w, SInv A lv0 w0 (· < (sat steps σ steps.length).2.length) (sat steps σ steps.length) a w → Q .normal a w) :
    ∀ (fuel : Nat) (listed : Array Bool) (a : Act) (w : World), listed.size = ops.length →
      (∀ j o, ops[j]? = some o → listed.getD j false = true → ∀ e ∈ o.after.toList, Region.binds .any e = true → listed.getD e.on false = true) →
      listed.toList.count false ≤ fuel → SInv A lv0 w0 (DL steps σ.2.length fun j => listed.getD j false) (foldL (fun j => listed.getD j false) steps 0 σ) a w →
      wpAny E.P .any ops.toArray Q fuel listed a w := by
  have hord' := hord
  unfold drawOK at hord'
  rw [Bool.and_eq_true] at hord'
  obtain ⟨hback, ho⟩ := hord'
  have hlen : steps.length = ops.length := by rw [← hmap]; simp
  -- none is ready: all are listed
  have hdone : ∀ (listed : Array Bool), listed.size = ops.length → Region.ready .any ops.toArray listed = [] → ∀ i, i < ops.length → listed.getD i false = true := by
    intro listed hsz hr i
    induction i using Nat.strongRecOn with
    | _ i ih =>
      intro hi
      cases hl : listed.getD i false
      · exfalso
        have hmem : i ∈ Region.ready .any ops.toArray listed := by
          rw [mem_ready]
          refine ⟨?_, ops[i], by simp [hi], fun e he hb => ?_⟩
          · have : i < listed.size := by omega
            simp [this] at hl ⊢
            exact hl
          · have := List.all_eq_true.1 hback (ops[i], i) (by rw [List.mem_zipIdx_iff_getElem?]; simp [hi])
            have := List.all_eq_true.1 this e (by simpa using he)
            simp only [hb, Bool.not_true, Bool.false_or] at this
            have hlt : e.on < i := by rw [← Nat.blt_eq]; exact this
            exact ih e.on hlt (by omega)
        rw [hr] at hmem; cases hmem
      · rfl
  have hfin : ∀ (listed : Array Bool) (a : Act) (w : World), listed.size = ops.length → Region.ready .any ops.toArray listed = [] →
      SInv A lv0 w0 (DL steps σ.2.length fun j => listed.getD j false) (foldL (fun j => listed.getD j false) steps 0 σ) a w → Q .normal a w := by
    intro listed a w hsz hr hi
    have hall := hdone listed hsz hr
    rw [foldL_every (L := fun j => listed.getD j false) steps 0 σ (fun k hk => by simp only [Nat.zero_add]; exact hall k (by omega))] at hi
    have e : steps.foldl (fun σ s => s.app σ) σ = sat steps σ steps.length := by unfold sat; rw [List.take_length]
    rw [e] at hi
    obtain ⟨bs, h1, h2, h3⟩ := hi
    refine hQ a w ⟨bs, h1.monoD fun x hx => ?_, h2, h3⟩
    show x < (sat steps σ steps.length).2.length
    rcases hx with hx | ⟨j, s, hs, _, h4, h5⟩
    · have := sat_mono steps σ (Nat.zero_le steps.length)
      simp only [sat, List.take_zero, List.foldl_nil] at this ⊢
      omega
    · obtain ⟨_, hl', _⟩ := lex_at steps σ hlex j s hs
      have hj : j < steps.length := by rw [List.getElem?_eq_some_iff] at hs; exact hs.1
      have := sat_mono steps σ (show j + 1 ≤ steps.length by omega)
      rw [sat_succ hs, hl'] at this
      omega
  intro fuel
  induction fuel with
  | zero =>
    intro listed a w hsz hc hcnt hi
    have hr : Region.ready .any ops.toArray listed = [] := by
      cases hr : Region.ready .any ops.toArray listed with
      | nil => rfl
      | cons i rs =>
        exfalso
        have hmem : i ∈ Region.ready .any ops.toArray listed := by rw [hr]; simp
        obtain ⟨h1, o, h2, _⟩ := mem_ready.1 hmem
        have hi' : i < ops.length := by
          have : i < ops.toArray.size := by rw [Array.getElem?_eq_some_iff] at h2; exact h2.1
          simpa using this
        have : false ∈ listed.toList := by
          have hlt : i < listed.size := by omega
          simp [hlt] at h1
          rw [← h1]; simp
        have := List.count_pos_iff.2 this
        omega
    exact ⟨hr, hfin listed a w hsz hr hi⟩
  | succ fuel ih =>
    intro listed a w hsz hc hcnt hi
    refine ⟨fun hr => hfin listed a w hsz hr hi, fun i hmem => ?_⟩
    obtain ⟨h1, o, h2, h3⟩ := mem_ready.1 hmem
    have hi' : i < ops.length := by
      have : i < ops.toArray.size := by rw [Array.getElem?_eq_some_iff] at h2; exact h2.1
      simpa using this
    have hlt : i < listed.size := by omega
    have hs : steps[i]? = some steps[i] := List.getElem?_eq_getElem (by omega)
    have hso : steps[i].o = o := by
      have : (steps.map (·.o))[i]? = some steps[i].o := by simp [hs]
      rw [hmap] at this
      have h2' : ops[i]? = some o := by simpa using h2
      rw [h2'] at this
      exact (Option.some.inj this).symm
    have hLi : listed.getD i false = false := by simp [hlt] at h1 ⊢; exact h1
    have hset : (fun j => (listed.setIfInBounds i true).getD j false) = addL (fun j => listed.getD j false) i := by
      funext j
      simp only [addL]
      by_cases hj : j = i
      · subst hj; simp [hlt]
      · simp [hj, Array.getElem?_setIfInBounds_ne (Ne.symm hj)]
    have hdir : ∀ e ∈ o.after.toList, Region.binds .any e = true → listed.getD e.on false = true := fun e he hb => h3 e (by simpa using he) hb
    have hstep := draw_step (A := A) (lv0 := lv0) (w0 := w0) (w := w) (a := a) hE hlex ho (L := fun j => listed.getD j false) hc hs hLi
      (fun k hk => by
        cases hk with
        | edge ho' he hb =>
          have : ops[i]? = some o := by simpa using h2
          rw [this] at ho'; cases ho'
          exact hdir _ he hb
        | more ho' he hb hmore =>
          have : ops[i]? = some o := by simpa using h2
          rw [this] at ho'; cases ho'
          exact anc_listed (L := fun j => listed.getD j false) hc hmore (hdir _ he hb)) (Q := Q) hi
      (K := wpAny E.P .any ops.toArray Q fuel (listed.setIfInBounds i true)) (fun a' w' h => by
        refine ih _ a' w' (by simpa using hsz) ?_ ?_ (by rw [hset]; exact h)
        · intro j o' hj hl e he hb
          have hl' : (fun j => (listed.setIfInBounds i true).getD j false) j = true := hl
          rw [hset] at hl'
          show (fun j => (listed.setIfInBounds i true).getD j false) e.on = true
          rw [hset]
          simp only [addL, Bool.or_eq_true, decide_eq_true_eq] at hl' ⊢
          rcases hl' with hl' | rfl
          · exact .inl (hc j o' hj hl' e he hb)
          · have : ops[j]? = some o := by simpa using h2
            rw [this] at hj; cases hj
            exact .inl (hdir e he hb)
        · have := count_set_false listed.toList i (by simp [hlt] at h1 ⊢; exact h1)
          rw [Array.toList_setIfInBounds]
          omega)
    unfold wpOp
    rw [h2]
    rw [hso] at hstep
    exact hstep

/-! ### Code -/
inductive Ex where
  | normal
  | exit (id : Nat)
  | ret
def Ex.out : Ex → Exit
  | .normal => .normal
  | .exit id => .exit id
  | .ret => .ret

abbrev St := List SV × Mem

def firstReg : Code → Option Nat
  | .region id _ _ => some id
  | .seq a b => match firstReg a with | some i => some i | none => firstReg b
  | .cond _ a b => match firstReg a with | some i => some i | none => firstReg b
  | .block _ c => firstReg c
  | .loop c => firstReg c
  | _ => none

def loopsIn : Code → List Code
  | .seq a b => loopsIn a ++ loopsIn b
  | .cond _ a b => loopsIn a ++ loopsIn b
  | .block _ c => loopsIn c
  | .loop c => [c]
  | _ => []

def refine (sl : List SV) (x : Operand) (b : Bool) : List SV :=
  match x with
  | .tmp t => sl.set t (.kb b)
  | _ => sl

/-- What is claimed of the loops of a function: by the first region of the round. -/
abbrev Loops := List (Nat × (St → T (Ex × St)))

noncomputable def sx (E : Env) (L : Loops) : Code → St → T (Ex × St)
  | .skip, σ => .ret (.normal, σ)
  | .region _ ops draw, σ =>
    (srun E ops.toList ops.toList [] σ []).bind fun p => bif !draw || drawOK ops.toList p.2 then .ret (.normal, p.1) else .stuck 100
  | .seq a b, σ => (sx E L a σ).bind fun p => match p.1 with | .normal => sx E L b p.2 | e => .ret (e, p.2)
  | .cond c a b, σ =>
    match ev σ.1 c with
    | .kb true => sx E L a σ
    | .kb false => sx E L b σ
    | .lit (.bool x) => .br x (sx E L a (refine σ.1 c true, σ.2)) (sx E L b (refine σ.1 c false, σ.2))
    | _ => .stuck 101
  | .block id c, σ => (sx E L c σ).bind fun p => match p.1 with | .exit i => bif Nat.beq i id then .ret (.normal, p.2) else .ret (.exit i, p.2) | e => .ret (e, p.2)
  | .loop c, σ =>
    match firstReg c with
    | some k => match List.lookup k L with
      | some f => f σ
      | none => .stuck 102
    | none => .stuck 103
  | .exit id, σ => .ret (.exit id, σ)
  | .ret, σ => .ret (.ret, σ)
  | _, _ => .stuck 104

/-- What is claimed of a loop holds. -/
def LoopOK (P : Program) (c : Code) (f : St → T (Ex × St)) : Prop :=
  ∀ (σ : St) (r : Ex × St), (f σ).Is r → ∀ (A : Anchor) (lv0 : Nat → Prop) (w0 : World) (a : Act) (w : World), SInv A lv0 w0 (· < σ.2.length) σ a w →
    (Code.loop c).wp P (fun e a' w' => e = r.1.out ∧ SInv A lv0 w0 (· < r.2.2.length) r.2 a' w') a w

def LoopsOK (P : Program) (L : Loops) (c : Code) : Prop := ∀ l ∈ loopsIn c, ∀ k f, firstReg l = some k → List.lookup k L = some f → LoopOK P l f

theorem refine_inv {D : Nat → Prop} {x : Operand} {b : Bool} {a : Act} {w : World} (h : SInv A lv0 w0 D σ a w) (hx : a.eval x = .bool b) : SInv A lv0 w0 D (refine σ.1 x b, σ.2) a w := by
  obtain ⟨bs, h1, h2, h3⟩ := h
  refine ⟨bs, h1, ?_, h3⟩
  unfold refine
  split
  · rename_i t
    refine ⟨?_, h2.defers⟩
    by_cases ht : t < a.tmps.size
    · have hset := h2.rep.set t (s := .kb b) (v := a.tmps[t]) (by
        have : a.eval (.tmp t) = a.tmps[t] := by simp [Act.eval, ht]
        rw [this] at hx
        exact hx)
      have : a.tmps.toList.set t a.tmps[t] = a.tmps.toList := by
        apply List.ext_getElem?
        intro j
        rw [List.getElem?_set]
        by_cases hj : t = j
        · subst hj; simp [ht]
        · simp [hj]
      rw [this] at hset
      exact hset
    · have hlen : a.tmps.size = σ.1.length := by have := h2.rep.length; rwa [Array.length_toList] at this
      have : σ.1.set t (.kb b) = σ.1 := List.set_eq_of_length_le (by rw [← hlen]; exact Nat.le_of_not_lt ht)
      show RepL _ _ _ (σ.1.set t (.kb b)) _
      rw [this]; exact h2.rep
  · exact h2

theorem region_wp (hm : E.P.follows .mixedOrders = true) (hE : EnvOK E) {id : Nat} {opa : Array Oper} {draw : Bool} {σ' : St} {steps : List Step} {a : Act} {w : World}
    (h : (srun E opa.toList opa.toList [] σ []).Is (σ', steps)) (hd : (!draw || drawOK opa.toList steps) = true) (hi : SInv A lv0 w0 (· < σ.2.length) σ a w) :
    (Code.region id opa draw).wp E.P (fun e a' w' => e = .normal ∧ SInv A lv0 w0 (· < σ'.2.length) σ' a' w') a w := by
  obtain ⟨new, e1, e2, hlex, rfl⟩ := srun_sound _ _ _ _ _ _ h (fun t b hb => by simp [Dec.get] at hb)
  obtain rfl : steps = new := by simpa using e1
  cases draw
  · refine wp_region_list ?_
    rw [← e2]
    have := seq_wp (A := A) (lv0 := lv0) (w0 := w0) (ops := opa.toList) hE (Q := fun e a' w' => e = .normal ∧ SInv A lv0 w0 (· < (steps.foldl (fun σ s => s.app σ) σ).2.length) (steps.foldl (fun σ s => s.app σ) σ) a' w') steps σ a w hlex hi (fun a' w' h => ⟨rfl, h⟩)
    simpa using this
  · simp only [Bool.not_true, Bool.false_or] at hd
    refine wp_region_any hm ?_
    have hsat : steps.foldl (fun σ s => s.app σ) σ = sat steps σ steps.length := by unfold sat; rw [List.take_length]
    have hi' : SInv A lv0 w0 (· < σ.2.length) σ a { w with drawn := w.drawn + 1 } := by
      obtain ⟨bs, h1, h2, h3⟩ := hi
      have hb : Below w.heap.size w { w with drawn := w.drawn + 1 } := (Below.refl _ w).drew
      exact ⟨bs, h1.grow hb, ⟨(ext_grow bs _ hb).repL h2.rep, h2.defers⟩, h3.trans (ext_grow bs _ hb)⟩
    have := any_wp (A := A) (lv0 := lv0) (w0 := w0) (Q := fun e a' w' => e = .normal ∧ SInv A lv0 w0 (· < (steps.foldl (fun σ s => s.app σ) σ).2.length) (steps.foldl (fun σ s => s.app σ) σ) a' w')
      hE hlex hd e2 (fun a w h => ⟨rfl, by rw [hsat]; exact h⟩) opa.size (Array.replicate opa.size false) a { w with drawn := w.drawn + 1 } (by simp)
      (fun j o _ hl => by simp [Array.getElem?_replicate] at hl; split at hl <;> simp at hl) (by simp [List.count_replicate]) (by
        rw [foldL_none]
        · obtain ⟨bs, h1, h2, h3⟩ := hi'
          exact ⟨bs, h1.monoD fun x hx => .inl hx, h2, h3⟩
        · intro k _; simp [Array.getElem?_replicate]; split <;> rfl)
    simpa using this

theorem sx_sound (hm : E.P.follows .mixedOrders = true) (hE : EnvOK E) {L : Loops} : ∀ (c : Code) (σ : St) (r : Ex × St), (sx E L c σ).Is r → LoopsOK E.P L c → ∀ (A : Anchor) (lv0 : Nat → Prop) (w0 : World) (a : Act) (w : World), SInv A lv0 w0 (· < σ.2.length) σ a w →
    c.wp E.P (fun e a' w' => e = r.1.out ∧ SInv A lv0 w0 (· < r.2.2.length) r.2 a' w') a w
  | .skip, σ, r, h, _, A, lv0, w0, a, w, hi => by obtain rfl : _ = r := h; exact wp_skip ⟨rfl, hi⟩
  | .region id ops draw, σ, r, h, _, A, lv0, w0, a, w, hi => by
    obtain ⟨p, h1, h2⟩ := T.is_bind h
    cases hd : (!draw || drawOK ops.toList p.2)
    · rw [hd] at h2; exact h2.elim
    · rw [hd] at h2
      obtain rfl : _ = r := h2
      exact region_wp hm hE h1 hd hi
  | .seq x y, σ, r, h, hL, A, lv0, w0, a, w, hi => by
    obtain ⟨p, h1, h2⟩ := T.is_bind h
    refine wp_seq ?_
    refine wp_mono (sx_sound hm hE x σ p h1 (fun l hl => hL l (by simp [loopsIn, hl])) A lv0 w0 a w hi) ?_
    rintro e a' w' ⟨rfl, h3⟩
    obtain ⟨ex, σ'⟩ := p
    cases ex with
    | normal => exact sx_sound hm hE y σ' r h2 (fun l hl => hL l (by simp [loopsIn, hl])) A lv0 w0 a' w' h3
    | exit id => obtain rfl : _ = r := h2; exact ⟨rfl, h3⟩
    | ret => obtain rfl : _ = r := h2; exact ⟨rfl, h3⟩
  | .cond c x y, σ, r, h, hL, A, lv0, w0, a, w, hi => by
    have hev : ∃ bs lv, Rep bs lv w (ev σ.1 c) (a.eval c) := by obtain ⟨bs, _, h2, _⟩ := hi; exact ⟨bs, _, h2.ev c⟩
    obtain ⟨bs, lv, hev⟩ := hev
    unfold sx at h
    split at h
    · rename_i hc
      rw [hc] at hev
      exact wp_cond_true hev (sx_sound hm hE x σ r h (fun l hl => hL l (by simp [loopsIn, hl])) A lv0 w0 a w hi)
    · rename_i hc
      rw [hc] at hev
      exact wp_cond_false hev (sx_sound hm hE y σ r h (fun l hl => hL l (by simp [loopsIn, hl])) A lv0 w0 a w hi)
    · rename_i b hc
      rw [hc] at hev
      rcases h with ⟨rfl, h⟩ | ⟨rfl, h⟩
      · exact wp_cond_true hev (sx_sound hm hE x _ r h (fun l hl => hL l (by simp [loopsIn, hl])) A lv0 w0 a w (refine_inv hi hev))
      · exact wp_cond_false hev (sx_sound hm hE y _ r h (fun l hl => hL l (by simp [loopsIn, hl])) A lv0 w0 a w (refine_inv hi hev))
    · exact h.elim
  | .block id c, σ, r, h, hL, A, lv0, w0, a, w, hi => by
    obtain ⟨p, h1, h2⟩ := T.is_bind h
    refine wp_block ?_
    refine wp_mono (sx_sound hm hE c σ p h1 (fun l hl => hL l (by simpa [loopsIn] using hl)) A lv0 w0 a w hi) ?_
    rintro e a' w' ⟨rfl, h3⟩
    obtain ⟨ex, σ'⟩ := p
    cases ex with
    | normal => obtain rfl : _ = r := h2; exact ⟨rfl, h3⟩
    | ret => obtain rfl : _ = r := h2; exact ⟨rfl, h3⟩
    | exit i =>
      simp only [Ex.out, Exit.inBlock]
      simp only [] at h2
      cases hb : Nat.beq i id
      · rw [hb] at h2
        obtain rfl : _ = r := h2
        rw [if_neg (fun e => by subst e; simp at hb)]
        exact ⟨rfl, h3⟩
      · rw [hb] at h2
        obtain rfl : _ = r := h2
        rw [if_pos (Nat.eq_of_beq_eq_true hb)]
        exact ⟨rfl, h3⟩
  | .loop c, σ, r, h, hL, A, lv0, w0, a, w, hi => by
    unfold sx at h
    split at h
    · rename_i k hk
      split at h
      · rename_i f hf
        exact hL c (by simp [loopsIn]) k f hk hf σ r h A lv0 w0 a w hi
      · exact h.elim
    · exact h.elim
  | .exit id, σ, r, h, _, A, lv0, w0, a, w, hi => by obtain rfl : _ = r := h; exact wp_exit ⟨rfl, hi⟩
  | .ret, σ, r, h, _, A, lv0, w0, a, w, hi => by obtain rfl : _ = r := h; exact wp_ret ⟨rfl, hi⟩
  | .scope _, σ, r, h, _, _, _, _, _, _, _ => by exact h.elim
  | .label _, σ, r, h, _, _, _, _, _, _, _ => by exact h.elim
  | .goto _, σ, r, h, _, _, _, _, _, _, _ => by exact h.elim
  | .refuse _, σ, r, h, _, _, _, _, _, _, _ => by exact h.elim
  | .rangeFunc _ _ _ _, σ, r, h, _, _, _, _, _, _, _ => by exact h.elim
end
end Go.RX
