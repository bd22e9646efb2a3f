/- A contract by what its results say: rows by their elements, a nil slice as an empty row. -/
import Derived.Test.YtdmocmiidcfhlaaGreatPPb
import Derived.Deep.Slices
import Derived.ChangeArms
set_option linter.unusedVariables false
set_option linter.unusedSimpArgs false
namespace Go.RX
open Go Go.RowKit

mutual
/-- The second result says no more than the first. -/
def Cl : SV → SV → Prop
  | .agg cs, s' => match s' with | .agg cs' => ClL cs cs' | _ => False
  | .tup cs, s' => match s' with | .tup cs' => ClL cs cs' | _ => False
  | .row ss n f, s' => match s' with | .row ss' n' f' => n = n' ∧ sameRow n f f' | _ => False
  | .lit v, s' => s' = .lit v ∨ match s' with | .row ss n f => v = .slice none 0 0 ∧ n = 0 | _ => False
  | .fn f as cs, s' => match s' with | .fn f' as' cs' => f = f' ∧ ClL as as' ∧ ClL cs cs' | _ => False
  | .rptr ss n f i o, s' => match s' with | .rptr ss' n' f' i' o' => n = n' ∧ i = i' ∧ o = o' ∧ sameRow n f f' | _ => False
  | .kb b, s' => s' = .kb b ∨ s' = .lit (.bool b)
  | .ki k n, s' => s' = .ki k n ∨ s' = .lit (.int k n)
  | s, s' => s = s'
def ClL : List SV → List SV → Prop
  | [], l => l = []
  | s :: ss, l => match l with | s' :: ss' => Cl s s' ∧ ClL ss ss' | [] => False
end
mutual
theorem Cl.rep {bs : Bs} {lv : Nat → Prop} {w : World} : ∀ (s s' : SV) (v : Value), Cl s s' → Rep bs lv w s v → Rep bs lv w s' v
  | .agg cs, s', v, h, ⟨us, h1, h2⟩ => by
    cases s' <;> simp only [Cl] at h
    exact ⟨us, h1, ClL.rep cs _ us h h2⟩
  | .tup cs, s', v, h, ⟨us, h1, h2⟩ => by
    cases s' <;> simp only [Cl] at h
    exact ⟨us, h1, ClL.rep cs _ us h h2⟩
  | .row ss n f, s', v, h, hr => by
    cases s' <;> simp only [Cl] at h
    obtain ⟨rfl, h1⟩ := h
    obtain ⟨rfl, h2⟩ := sameRow_rep h1
    exact (RepE.ext (fun x _ hx => hx) (fun _ _ _ => rfl) (Nat.le_refl _) (.sl ss) (n, f) v hr).row_congr (fun i hi => eq_of_heq (h2 i hi))
  | .lit u, s', v, h, hr => by
    simp only [Cl] at h
    rcases h with rfl | h
    · exact hr
    · cases s' <;> simp only [] at h
      obtain ⟨rfl, rfl⟩ := h
      exact ⟨none, 0, hr, Nat.le_refl _, Nat.zero_le _, fun h => absurd h (by simp)⟩
  | .kb b, s', v, h, hr => by simp only [Cl] at h; rcases h with rfl | rfl <;> exact hr
  | .ki k n, s', v, h, hr => by simp only [Cl] at h; rcases h with rfl | rfl <;> exact hr
  | .any, s', v, h, hr => by simp only [Cl] at h; subst h; exact hr
  | .ptr _ _, s', v, h, hr => by simp only [Cl] at h; subst h; exact hr
  | .fn f as cs, s', v, h, ⟨us, ts, h1, h2, h3⟩ => by
    cases s' <;> simp only [Cl] at h
    obtain ⟨rfl, g1, g2⟩ := h
    exact ⟨us, ts, h1, ClL.rep as _ us g1 h2, ClL.rep cs _ ts g2 h3⟩
  | .own _ _ _, s', v, h, hr => by simp only [Cl] at h; subst h; exact hr
  | .optr _ _ _ _, s', v, h, hr => by simp only [Cl] at h; subst h; exact hr
  | .csl _ _ _ _, s', v, h, hr => by simp only [Cl] at h; subst h; exact hr
  | .mp _, s', v, h, hr => by simp only [Cl] at h; subst h; exact hr
  | .rptr ss n f i o, s', v, h, hr => by
    cases s' <;> simp only [Cl] at h
    obtain ⟨rfl, rfl, rfl, h1⟩ := h
    obtain ⟨rfl, h2⟩ := sameRow_rep h1
    obtain ⟨x, off, g1, g0, g2, g3, g4⟩ := hr
    refine ⟨x, off, g1, g0, g2, g3, fun j hj => ?_⟩
    rw [← eq_of_heq (h2 j hj)]
    exact g4 j hj
theorem ClL.rep {bs : Bs} {lv : Nat → Prop} {w : World} : ∀ (s s' : List SV) (v : List Value), ClL s s' → RepL bs lv w s v → RepL bs lv w s' v
  | [], l, v, h, hr => by simp only [ClL] at h; subst h; exact hr
  | s :: ss, l, v, h, ⟨u, us, h1, h2, h3⟩ => by
    cases l <;> simp only [ClL] at h
    exact ⟨u, us, h1, Cl.rep s _ u h.1 h2, ClL.rep ss _ us h.2 h3⟩
end

theorem con_cl {P : Program} {con : FuncId → Option Con} {LL : FuncId → Loops} (hA : AllOK P con LL) (n : Nat) (f : FuncId) {c : Con} (h : ∀ args r, (c args).Is r → T.All (fun a => Cl a r) (conB P con LL n f args)) : ConOK P f c := by
  intro args r hc lv w vals hlv hr
  obtain ⟨r', h1, h2⟩ := T.is_of_all (h args r hc)
  refine (conB_ok hA n f args _ h1 lv w vals hlv hr).mono ?_
  rintro e w' ⟨v, g1, g2, g3⟩
  exact ⟨v, g1, g2, Cl.rep r' r v h2 g3⟩
theorem cl_nil {ss : List Sh} {f : Nat → Els ss} : Cl (.lit (.slice none 0 0)) (.row ss 0 f) := .inr ⟨rfl, rfl⟩
end Go.RX

/- One way of a tree alone. -/
set_option linter.unusedVariables false
namespace Go.RX
open Go Go.RowKit

/-- The way that these tests take. -/
def T.force {α : Type} : T α → List Bool → T α
  | .ret a, _ => .ret a
  | .stuck n, _ => .stuck n
  | .ask p t, l => .ask p (force t l)
  | .br c x y, [] => .br c x y
  | .br c x y, true :: l => .ask (c = true) (force x l)
  | .br c x y, false :: l => .ask (c = false) (force y l)
end Go.RX

/- Loops over functions: an iterator out of its body; the rule of the loop. -/
set_option linter.unusedVariables false
set_option linter.unusedSimpArgs false
namespace Go.RX
open Go Go.RowKit

/-! ### An iterator out of its body -/
/-- How an iterator's walk ends: all elements came, or it was stopped. -/
def SeqEnd (K : Cons) (m : Mem) : Prop := m.fn 0 = some (.seq true K K.n) ∨ ∃ i, m.fn 0 = some (.seq false K i)
/-- The yield function, as the iterator is given it. -/
def yieldV (K : Cons) : SV := .lit (.func (.yield K.l) #[] #[])

/-- Pointers to the boxes with the numbers from o on. -/
def ptrsOf : Nat → Nat → List SV
  | _, 0 => []
  | o, n + 1 => .ptr o 0 :: ptrsOf (o + 1) n
theorem ptrsOf_rep {bs : Bs} {lv : Nat → Prop} {W : World} : ∀ (xs : List Nat) (o : Nat), (∀ j x, xs[j]? = some x → bs (o + j) = some (x, 0, 0)) → RepL bs lv W (ptrsOf o xs.length) (xs.map ptrV)
  | [], _, _ => .nil
  | x :: xs, o, h => .cons ⟨x, (0, 0), h 0 x rfl, rfl⟩ (ptrsOf_rep xs (o + 1) fun j y hy => by
      rw [show o + 1 + j = o + (j + 1) by omega]; exact h (j + 1) y (by simpa using hy))
theorem nodup_get : ∀ {xs : List Nat} {i j x : Nat}, xs.Nodup → xs[i]? = some x → xs[j]? = some x → i = j
  | [], _, _, _, _, h, _ => by simp at h
  | y :: xs, 0, 0, _, _, _, _ => rfl
  | y :: xs, 0, j + 1, x, hn, h1, h2 => by
    obtain rfl : y = x := by simpa using h1
    exact absurd (List.mem_of_getElem? (by simpa using h2)) (List.nodup_cons.1 hn).1
  | y :: xs, i + 1, 0, x, hn, h1, h2 => by
    obtain rfl : y = x := by simpa using h2
    exact absurd (List.mem_of_getElem? (by simpa using h1)) (List.nodup_cons.1 hn).1
  | y :: xs, i + 1, j + 1, x, hn, h1, h2 => congrArg (· + 1) (nodup_get (List.nodup_cons.1 hn).2 (by simpa using h1) (by simpa using h2))
theorem GivRep.get {lv : Nat → Prop} {W : World} : ∀ {as : List (List SV × TypeId)} {xs : List Nat}, GivRep lv W as xs → as.length = xs.length ∧ ∀ (j : Nat) (a : List SV × TypeId), as[j]? = some a → ∃ (x : Nat) (us : List Value), xs[j]? = some x ∧ W.heap[x]? = some (Obj.cells us.toArray a.2 (0, 0)) ∧ RepL Bs.none lv W a.1 us
  | [], [], _ => ⟨rfl, fun j a h => by simp at h⟩
  | (cs, e) :: as, x :: xs, ⟨⟨us, h1, h2⟩, h3⟩ => by
    obtain ⟨g1, g2⟩ := GivRep.get h3
    refine ⟨by simp [g1], fun j a h => ?_⟩
    cases j with
    | zero => simp at h; subst h; exact ⟨x, us, rfl, h1, h2⟩
    | succ j => simpa using g2 j a (by simpa using h)
  | [], _ :: _, h => h.elim
  | _ :: _, [], h => h.elim
/-- An iterator that may write boxes that are given to it. -/
theorem scon_ofG {P : Program} {con : FuncId → Option Con} {LL : FuncId → Loops} (hA : AllOK P con LL) (n : Nat) (gf : FuncId) {sc : SConG}
    (h : ∀ args q, (sc args).Is q → ∀ K : Cons, K.P = P → K.n = q.1 → K.el = q.2 → T.All (fun p => SeqEnd K p.2) (scall P con LL n gf (yieldV K :: ptrsOf 1 args.length) ((0, some (.seq true K 0)) :: args.map fun a => (0, some (.cells a.1 a.2))))) : SConGOK P gf sc := by
  intro args q hq lv W xs hlv hnd hnx hg K hK c1 c2 c3 c4 c5 c6
  obtain ⟨⟨sv, m'⟩, h1, h2⟩ := T.is_of_all (h args q hq K c1 c2 c3)
  obtain ⟨hlen, hget⟩ := hg.get
  obtain ⟨bs, hbs⟩ : ∃ bs : Bs, bs = ⟨fun b => match b with | 0 => none | j + 1 => (xs[j]?).map fun x => (x, 0, 0), fun _ _ => False⟩ := ⟨_, rfl⟩
  obtain ⟨m0, hm0⟩ : ∃ m0 : Mem, m0 = (0, some (.seq true K 0)) :: args.map fun a => (0, some (.cells a.1 a.2)) := ⟨_, rfl⟩
  rw [← hm0] at h1
  obtain ⟨am, ham⟩ : ∃ am : Am, am = ⟨lv, fun x => K.lv x ∨ x ∈ xs, fun _ => none, K.B⟩ := ⟨_, rfl⟩
  have hb0 : bs 0 = none := by rw [hbs]
  have hbj : ∀ j, bs (j + 1) = (xs[j]?).map fun x => (x, 0, 0) := fun j => by rw [hbs]
  have hinn : ∀ b x, ¬ bs.inn b x := fun b x hx => by rw [hbs] at hx; exact hx
  have howns : ∀ b x, bs.owns b x → ∃ j, b = j + 1 ∧ xs[j]? = some x := fun b x hx => by
    rcases hx with ⟨c, hx⟩ | hx
    · cases b with
      | zero => rw [show bs.at_ 0 = none from hb0] at hx; cases hx
      | succ j =>
        rw [show bs.at_ (j + 1) = _ from hbj j] at hx
        cases hj : xs[j]? with
        | none => rw [hj] at hx; cases hx
        | some y => rw [hj] at hx; cases hx; exact ⟨j, rfl, hj⟩
    · exact absurd hx (hinn b x)
  have hfn : ∀ b k, m0.fn b = some k → (b = 0 ∧ k = .seq true K 0) ∨ ∃ j a, b = j + 1 ∧ args[j]? = some a ∧ k = .cells a.1 a.2 := fun b k hk => by
    rw [hm0] at hk
    cases b with
    | zero => simp [Mem.fn] at hk; exact .inl ⟨rfl, hk.symm⟩
    | succ j =>
      simp only [Mem.fn, List.getD_eq_getElem?_getD, List.getElem?_cons_succ, List.getElem?_map] at hk
      cases hj : args[j]? with
      | none => rw [hj] at hk; cases hk
      | some a => rw [hj] at hk; simp at hk; exact .inr ⟨j, a, rfl, hj, hk.symm⟩
  have hxs : ∀ j x, xs[j]? = some x → x < W.heap.size := fun j x hx => by
    have hj : j < args.length := by
      rw [hlen]; exact (List.getElem?_eq_some_iff.1 hx).1
    obtain ⟨y, us, g1, g2, _⟩ := hget j _ (List.getElem?_eq_getElem hj)
    rw [hx] at g1; cases g1
    exact (Array.getElem?_eq_some_iff.1 g2).1
  have hlive : ∀ x, live am bs m0.fn x → lv x ∨ x ∈ xs := fun x hx => by
    rcases hx with hx | ⟨b, k, _, hx⟩
    · rw [ham] at hx; exact .inl hx
    · obtain ⟨j, _, hj⟩ := howns b x hx
      exact .inr (List.mem_of_getElem? hj)
  have hi : MInv am W bs (· < m0.length) m0.fn W :=
    { below := Turn.refl _ _
      base := by
        rw [ham]
        refine ⟨fun x hx => ((c4 x).1 hx).1, fun x hx => ?_⟩
        by_cases hm : x ∈ xs
        · exact .inr (.inr hm)
        · exact .inl ((c4 x).2 ⟨hx, hm⟩)
      amb := fun x hx => by rw [ham] at hx; exact hlv x hx
      fixed := fun x o h => by rw [ham] at h; cases h
      sepO := fun b k x _ hb hx => by
        rw [ham] at hx
        obtain ⟨j, _, hj⟩ := howns b x hb
        exact hnx x (List.mem_of_getElem? hj) hx
      one := fun b k hk hs => by
        rcases hfn b k hk with ⟨h, _⟩ | ⟨j, a, _, _, rfl⟩
        · exact h
        · cases hs
      rngO := fun b x hb => by
        obtain ⟨j, _, hj⟩ := howns b x hb
        refine ⟨fun hB => ?_, hxs j x hj⟩
        rw [ham] at hB
        exact ((c4 x).1 hB).2 (List.mem_of_getElem? hj)
      injO := fun b b' k k' x _ _ h1 h2 => by
        obtain ⟨i, rfl, hi⟩ := howns b x h1
        obtain ⟨j, rfl, hj⟩ := howns b' x h2
        rw [nodup_get hnd hi hj]
      nst := fun b k x _ h => absurd h (hinn b x)
      blk := fun b k hk => by
        rcases hfn b k hk with ⟨rfl, rfl⟩ | ⟨j, a, rfl, ha, rfl⟩
        · rw [ham]
          exact ⟨hK, rfl, fun _ h => .inl h, ⟨Nat.zero_le _, fun j hj => absurd hj (by omega)⟩, K.lv, c6, fun x hx => ⟨c5 x hx, rfl⟩⟩
        · obtain ⟨x, us, g1, g2, g3⟩ := hget j a ha
          exact ⟨x, (0, 0), us, by rw [hbj, g1]; rfl, g2, RepL.ext (bs := Bs.none) (bs' := bs) (fun _ _ h => by cases h) (fun y _ hy => hlive y hy) (fun _ _ _ => rfl) (Nat.le_refl _) _ _ g3⟩
      domO := fun b hb => by
        have hb : m0.length ≤ b := Nat.le_of_not_lt hb
        refine ⟨?_, hinn b, fn_out hb⟩
        rw [hm0] at hb
        simp only [List.length_cons, List.length_map] at hb
        cases b with
        | zero => omega
        | succ j => rw [hbj, List.getElem?_eq_none (by omega)]; rfl }
  have hr' : RepL bs (live am bs m0.fn) W (yieldV K :: ptrsOf 1 args.length) (.func (.yield K.l) #[] #[] :: xs.map ptrV) := by
    rw [hlen]
    exact .cons rfl (ptrsOf_rep xs 1 fun j x hx => by rw [Nat.add_comm 1 j, hbj, hx]; rfl)
  refine ((scall_ok hA n gf).2 _ _ m' sv h1 am W W bs _ hi hr').mono ?_
  rintro e W' ⟨v, bs', lv1, rfl, hg', g1, g2, g3⟩
  have hb := g1.below
  rw [hg'.vol, ham] at hb
  have fin : ∀ go i, m'.fn 0 = some (.seq go K i) → (go = true → i = K.n) → ∃ go i V, SeqAt K go i ∧ (go = true → i = K.n) ∧ K.C i V W' ∧ Turn (fun x => K.lv x ∨ x ∈ xs) W W' := fun go i hk hn => by
    obtain ⟨d1, d2, d3, d4, V, d5, d6⟩ := g1.blk 0 _ hk
    exact ⟨go, i, V, d4, hn, d5, hb⟩
  refine ⟨⟨v, rfl⟩, ?_⟩
  rcases h2 with h2 | ⟨i, h2⟩
  · exact fin true K.n h2 (fun _ => rfl)
  · exact fin false i h2 (fun h => by cases h)

/-! ### The rule of a loop over a function -/
/-- An element's value, as a loop variable has it. -/
noncomputable def ofArg : Value → SV
  | .agg cs => .agg (cs.toList.map .lit)
  | .tuple us => .row [.int .i64] (U.asz us) (specF us)
  | v => .lit v
theorem rep_ofArg {bs : Bs} {lv : Nat → Prop} {w : World} {u v : Value} (h : ElRep lv w u v) : Rep bs lv w (ofArg u) v := by
  cases u <;> first | exact h | (obtain rfl : v = _ := h; exact ⟨_, by simp, .map_lit _⟩)
noncomputable def setPs : List Tmp → List Value → List SV → List SV
  | t :: ts, v :: vs, sl => setPs ts vs (sl.set t (ofArg v))
  | _, _, sl => sl
theorem setPs_rep {bs : Bs} {lv : Nat → Prop} {w : World} : ∀ (ps : List Tmp) (els vals : List Value) (sl : List SV) (tm : Array Value), ElsRep lv w els vals → RepL bs lv w sl tm.toList →
    RepL bs lv w (setPs ps els sl) ((ps.zip vals).foldl (fun tm (p : Tmp × Value) => tm.setIfInBounds p.1 p.2) tm).toList
  | [], els, vals, sl, tm, he, h => by
    cases els <;> simpa [setPs] using h
  | t :: ts, [], vals, sl, tm, he, h => by
    obtain rfl : vals = [] := he
    simpa [setPs] using h
  | t :: ts, u :: us, _, sl, tm, ⟨v, vs, rfl, h1, h2⟩, h => by
    rw [List.zip_cons_cons, List.foldl_cons, setPs]
    refine setPs_rep ts us vs _ _ h2 ?_
    rw [Array.toList_setIfInBounds]
    exact h.set t (rep_ofArg h1)

/-- A round: the loop's variables are set, the assignments, the body. -/
noncomputable def sxR (E : Env) (L : Loops) (N : Nat) (ps : Array Tmp) (assign body : Code) (vals : List Value) (σ : St) : T (Ex × St) :=
  (sx E L N assign (setPs ps.toList vals σ.1, σ.2)).bind fun p => match p.1 with | .normal => sx E L N body p.2 | _ => .stuck 124

/-- The surroundings in a round: what the iterator has, and the loop's own record, lie fixed. Bd: what was there at the start, and is not the iterator's. -/
noncomputable def amT (a : Am) (Bd : Nat → Prop) (V : Nat → Prop) (l : Nat) (o : Obj) (W : World) : Am where
  lv := fun x => a x ∨ (¬ Bd x ∧ x < W.heap.size ∧ ¬ V x) ∨ x = l
  vol := a.vol
  fix := open Classical in fun x => if x = l then some o else if ¬ Bd x ∧ x < W.heap.size ∧ ¬ V x then W.heap[x]? else a.fix x
  B := a.B
theorem amT_fix_l {a : Am} {B : Nat → Prop} {V : Nat → Prop} {l : Nat} {o : Obj} {W : World} : (amT a B V l o W).fix l = some o := by simp [amT]
theorem amT_fix_T {a : Am} {B : Nat → Prop} {V : Nat → Prop} {l : Nat} {o : Obj} {W : World} {x : Nat} (hl : x ≠ l) (h : ¬ B x ∧ x < W.heap.size ∧ ¬ V x) : (amT a B V l o W).fix x = W.heap[x]? := by
  unfold amT; simp only [if_neg hl, if_pos h]
theorem amT_fix_o {a : Am} {B : Nat → Prop} {V : Nat → Prop} {l : Nat} {o : Obj} {W : World} {x : Nat} (hl : x ≠ l) (h : ¬ (¬ B x ∧ x < W.heap.size ∧ ¬ V x)) : (amT a B V l o W).fix x = a.fix x := by
  unfold amT; simp only [if_neg hl, if_neg h]
theorem heap_some {W : World} {x : Nat} (h : x < W.heap.size) : ∃ o, W.heap[x]? = some o := ⟨W.heap[x], by simp [h]⟩

/-- The surroundings are told anew, by no more. -/
theorem MInv.less {a a' : Am} {w0 w : World} {bs : Bs} {D : Nat → Prop} {mf : Nat → Option Blk} (h : MInv a w0 bs D mf w)
    (hl : ∀ x, a' x → a x) (hv : a'.vol = a.vol) (hB : a'.B = a.B) (hf : ∀ x o, a'.fix x = some o → a' x ∧ a.fix x = some o) (hn : ∀ x, a x → a.fix x = none → a' x ∧ a'.fix x = none) :
    MInv a' w0 bs D mf w ∧ ∀ sl vs, RepL bs (live a bs mf) w sl vs → RepL bs (live a' bs mf) w sl vs := by
  have hlv : ∀ x, x < w.heap.size → live a' bs mf x → live a bs mf x := fun x hx h => h.imp (hl x) id
  refine ⟨?_, fun sl vs hr => RepL.ext (fun _ _ h => h) hlv (fun _ _ _ => rfl) (Nat.le_refl _) sl vs hr⟩
  exact {
    below := by rw [hv]; exact h.below
    base := by rw [hB, hv]; exact h.base
    amb := fun x hx => h.amb x (hl x hx)
    fixed := fun x o hx => ⟨(hf x o hx).1, (h.fixed x o (hf x o hx).2).2⟩
    sepO := fun b k x hk hb hx => h.sepO b k x hk hb (hl x hx)
    one := h.one
    rngO := fun b x hb => ⟨by rw [hB]; exact (h.rngO b x hb).1, (h.rngO b x hb).2⟩
    injO := h.injO
    nst := h.nst
    blk := fun b k hk => by
      have := h.blk b k hk
      cases hq : k.isSeq
      · exact blkRep_other hq this (fun _ _ h => h) hlv (fun _ _ _ => rfl) (Nat.le_refl _) (fun _ _ => rfl) id (fun _ => .rfl)
      · cases k with
        | cells cs e => cases hq
        | row z n ss f e => cases hq
        | nest n ss F foc e e2 => cases hq
        | mp tw s l => cases hq
        | seq go K i =>
          obtain ⟨c1, c2, c3, c4, V, c5, c6⟩ := this
          exact ⟨c1, c2.trans hB.symm, fun x hx => by rw [hv]; exact c3 x hx, c4, V, c5, fun x hx => hn x (c6 x hx).1 (c6 x hx).2⟩
    domO := h.domO }

mutual
/-- Whether no row of others is spoken of. -/
def noRowS : SV → Bool
  | .row _ _ _ => false
  | .rptr _ _ _ _ _ => false
  | .agg cs => noRowL cs
  | .tup cs => noRowL cs
  | .fn _ as cs => noRowL as && noRowL cs
  | _ => true
def noRowL : List SV → Bool
  | [] => true
  | s :: ss => noRowS s && noRowL ss
end
def flatSh : List Sh → Bool
  | [] => true
  | .sl _ :: _ => false
  | _ :: ss => flatSh ss
def noRowB : Blk → Bool
  | .cells cs _ => noRowL cs
  | .row _ _ ss _ _ => flatSh ss
  | .mp _ s _ => flatSh [s]
  | _ => false
def noRowM (m : Mem) : Bool := m.all fun p => match p.2 with | some k => noRowB k | none => true
theorem noRowM_get {m : Mem} (h : noRowM m = true) : ∀ b k, m.fn b = some k → noRowB k = true := fun b k hb => by
  unfold Mem.fn at hb
  rw [List.getD_eq_getElem?_getD] at hb
  cases hg : m[b]? with
  | none => rw [hg] at hb; cases hb
  | some p =>
    rw [hg] at hb
    have hb : p.2 = some k := hb
    have := List.all_eq_true.1 h p (List.mem_of_getElem? hg)
    rw [hb] at this; exact this
theorem repC_flat {lv lv' : Nat → Prop} {w : World} {g : Nat → Option Value} : ∀ (ss : List Sh) (d : Els ss) (o : Nat), flatSh ss = true → RepC lv w g ss d o → RepC lv' w g ss d o
  | [], _, _, _, _ => trivial
  | .int _ :: ss, d, o, hf, ⟨⟨u, h1, h2⟩, h3⟩ => ⟨⟨u, h1, h2⟩, repC_flat ss d.2 (o + 1) hf h3⟩
  | .bool :: ss, d, o, hf, ⟨⟨u, h1, h2⟩, h3⟩ => ⟨⟨u, h1, h2⟩, repC_flat ss d.2 (o + 1) hf h3⟩
  | .str :: ss, d, o, hf, ⟨⟨u, h1, h2⟩, h3⟩ => ⟨⟨u, h1, h2⟩, repC_flat ss d.2 (o + 1) hf h3⟩
  | .sl _ :: _, _, _, hf, _ => by cases hf
theorem repE_flat {lv lv' : Nat → Prop} {w : World} : ∀ (s : Sh) (d : El s) (v : Value), flatSh [s] = true → RepE lv w s d v → RepE lv' w s d v
  | .int _, _, _, _, h => h
  | .bool, _, _, _, h => h
  | .str, _, _, _, h => h
  | .sl _, _, _, hf, _ => by cases hf
theorem entRep_flat {lv lv' : Nat → Prop} {w : World} {tw : Bool} {s : Sh} (hf : flatSh [s] = true) : ∀ (l : List ((Int × Int) × El s)) (es : List MapEntry), EntRep lv w tw s l es → EntRep lv' w tw s l es
  | [], _, h => h
  | (k, d) :: l, _, ⟨e, es', h1, h2, h3, h4, h5⟩ => ⟨e, es', h1, h2, h3, repE_flat s d e.val hf h4, entRep_flat hf l es' h5⟩
mutual
theorem noRow_rep {bs : Bs} {lv lv' : Nat → Prop} {w : World} : ∀ (s : SV) (v : Value), noRowS s = true → Rep bs lv w s v → Rep bs lv' w s v
  | .any, _, _, _ => trivial
  | .lit _, _, _, h => h
  | .kb _, _, _, h => h
  | .ki _ _, _, _, h => h
  | .ptr _ _, _, _, h => h
  | .agg cs, _, hf, ⟨us, h1, h2⟩ => ⟨us, h1, noRow_repL cs us (by simpa [noRowS] using hf) h2⟩
  | .tup cs, _, hf, ⟨us, h1, h2⟩ => ⟨us, h1, noRow_repL cs us (by simpa [noRowS] using hf) h2⟩
  | .fn _ as cs, _, hf, ⟨us, ts, h1, h2, h3⟩ => by
    simp only [noRowS, Bool.and_eq_true] at hf
    exact ⟨us, ts, h1, noRow_repL as us hf.1 h2, noRow_repL cs ts hf.2 h3⟩
  | .own _ _ _, _, _, h => h
  | .optr _ _ _ _, _, _, h => h
  | .csl _ _ _ _, _, _, h => h
  | .mp _, _, _, h => h
  | .row _ _ _, _, hf, _ => by simp [noRowS] at hf
  | .rptr _ _ _ _ _, _, hf, _ => by simp [noRowS] at hf
theorem noRow_repL {bs : Bs} {lv lv' : Nat → Prop} {w : World} : ∀ (s : List SV) (v : List Value), noRowL s = true → RepL bs lv w s v → RepL bs lv' w s v
  | [], _, _, h => h
  | s :: ss, _, hf, ⟨u, us, h1, h2, h3⟩ => by
    simp only [noRowL, Bool.and_eq_true] at hf
    exact ⟨u, us, h1, noRow_rep s u hf.1 h2, noRow_repL ss us hf.2 h3⟩
end
theorem noRow_blk {a a' : Am} {bs : Bs} {lv lv' : Nat → Prop} {w : World} {b : Nat} {k : Blk} (hf : noRowB k = true) (h : BlkRep a bs lv w b k) : BlkRep a' bs lv' w b k := by
  cases k with
  | cells cs e =>
    obtain ⟨x, c, us, h1, h2, h3⟩ := h
    exact ⟨x, c, us, h1, h2, noRow_repL cs us hf h3⟩
  | row z n ss f e =>
    rcases h with h | ⟨h0, x, cap, us, h1, h2, h3, h4, h5⟩
    · exact .inl h
    · exact .inr ⟨h0, x, cap, us, h1, h2, h3, h4, fun i hi => repC_flat ss (f i) _ hf (h5 i hi)⟩
  | seq go K i => cases hf
  | nest n ss F foc e e2 => cases hf
  | mp tw s l =>
    obtain ⟨x, c, es, clock, h1, h2, h3⟩ := h
    exact ⟨x, c, es, clock, h1, h2, entRep_flat hf l _ h3⟩
/-- The surroundings are told anew, by more, where no row of others is spoken of. -/
theorem MInv.add {a a' : Am} {w0 w : World} {bs : Bs} {D : Nat → Prop} {mf : Nat → Option Blk} (h : MInv a w0 bs D mf w)
    (hl : ∀ x, a x → a' x) (hnr : ∀ b k, mf b = some k → noRowB k = true) (hs : ∀ x, a' x → x < w.heap.size) (hv : a'.vol = a.vol) (hB : a'.B = a.B) (hf : ∀ x o, a'.fix x = some o → a' x ∧ w.heap[x]? = some o)
    (hsep : ∀ b k x, mf b = some k → bs.owns b x → ¬ a' x) : MInv a' w0 bs D mf w where
  below := by rw [hv]; exact h.below
  base := by rw [hB, hv]; exact h.base
  amb := hs
  fixed := hf
  sepO := hsep
  one := h.one
  rngO := fun b x hb => ⟨by rw [hB]; exact (h.rngO b x hb).1, (h.rngO b x hb).2⟩
  injO := h.injO
  nst := h.nst
  blk := fun b k hk => noRow_blk (hnr b k hk) (h.blk b k hk)
  domO := h.domO
mutual
/-- Rows as they were known, all else as it is known now. -/
theorem Rep.merge {bs bs' : Bs} {lv lv2 lv' : Nat → Prop} {w w' : World} (hl : ∀ x, x < w.heap.size → lv' x → lv x) (hw : ∀ x, x < w.heap.size → ¬ lv x → w'.heap[x]? = w.heap[x]?) (hs : w.heap.size ≤ w'.heap.size) :
    ∀ (s : SV) (v : Value), Rep bs lv w s v → Rep bs' lv2 w' s v → Rep bs' lv' w' s v
  | .any, _, _, _ => trivial
  | .lit _, _, _, h => h
  | .kb _, _, _, h => h
  | .ki _ _, _, _, h => h
  | .ptr _ _, _, _, h => h
  | .agg cs, _, ⟨us, h1, h2⟩, ⟨us', h1', h2'⟩ => by
    rw [h1] at h1'
    have e : us = us' := by simpa using h1'
    subst e
    exact ⟨us, h1, RepL.merge hl hw hs cs us h2 h2'⟩
  | .tup cs, _, ⟨us, h1, h2⟩, ⟨us', h1', h2'⟩ => by
    rw [h1] at h1'
    have e : us = us' := by simpa using h1'
    subst e
    exact ⟨us, h1, RepL.merge hl hw hs cs us h2 h2'⟩
  | .fn _ as cs, _, ⟨us, ts, h1, h2, h3⟩, ⟨us', ts', h1', h2', h3'⟩ => by
    rw [h1] at h1'
    obtain ⟨e1, e2⟩ : us = us' ∧ ts = ts' := by simpa using h1'
    subst e1 e2
    exact ⟨us, ts, h1, RepL.merge hl hw hs as us h2 h2', RepL.merge hl hw hs cs ts h3 h3'⟩
  | .own _ _ _, _, _, h => h
  | .optr _ _ _ _, _, _, h => h
  | .csl _ _ _ _, _, _, h => h
  | .mp _, _, _, h => h
  | .row ss n f, v, h, _ => RepE.ext hl hw hs (.sl ss) (n, f) v h
  | .rptr ss n f i o, _, ⟨x, off, g1, g0, g2, g3, g4⟩, _ => ⟨x, off, g1, g0, Nat.lt_of_lt_of_le g2 hs, fun hx => g3 (hl x g2 hx), fun i hi =>
      RepC.ext hl hw hs ss (f i) _ _ _ (fun j hj u hu => (cell?_of_heap (hw x g2 g3) _).trans hu) (g4 i hi)⟩
theorem RepL.merge {bs bs' : Bs} {lv lv2 lv' : Nat → Prop} {w w' : World} (hl : ∀ x, x < w.heap.size → lv' x → lv x) (hw : ∀ x, x < w.heap.size → ¬ lv x → w'.heap[x]? = w.heap[x]?) (hs : w.heap.size ≤ w'.heap.size) :
    ∀ (s : List SV) (v : List Value), RepL bs lv w s v → RepL bs' lv2 w' s v → RepL bs' lv' w' s v
  | [], _, h, _ => h
  | s :: ss, _, ⟨u, us, h1, h2, h3⟩, ⟨u', us', h1', h2', h3'⟩ => by
    rw [h1] at h1'
    obtain ⟨e1, e2⟩ := List.cons.inj h1'
    subst e1 e2
    exact ⟨u, us, h1, Rep.merge hl hw hs s u h2 h2', RepL.merge hl hw hs ss us h3 h3'⟩
end

/-- Where the blocks with small numbers lie. -/
def cut (n0 : Nat) (bs : Bs) : Bs := ⟨fun b => if b < n0 then bs b else none, fun _ _ => False⟩
theorem cut_some {n0 : Nat} {bs : Bs} {b : Nat} {x : Nat × Nat × Nat} (h : cut n0 bs b = some x) : b < n0 ∧ bs b = some x := by
  have h : (if b < n0 then bs.at_ b else none) = some x := h
  split at h
  · rename_i hb; exact ⟨hb, h⟩
  · cases h
theorem cut_lt {n0 : Nat} {bs : Bs} {b : Nat} (h : b < n0) : cut n0 bs b = bs b := if_pos h
theorem cut_dom (n0 : Nat) (bs : Bs) : ∀ b, n0 ≤ b → cut n0 bs b = none := fun b h => if_neg (by omega)

/-- What a consumer has between two rounds. -/
structure CInv (n0 : Nat) (lv1 : Am) (w0 : World) (bs1 : Bs) (L1 : Nat → Prop) (W1 : World) (Bd : Nat → Prop) (l : Nat) (KL : Nat → Prop) (sl : List SV) (tmps : List Value) (m : Mem) (o : Obj) (V : Nat → Prop) (W : World) : Prop where
  vlt : ∀ x, V x → x < W.heap.size ∧ (KL x ∨ ¬ Bd x)
  kl : ∀ x, KL x → V x
  ex : ∃ bs lvi, Grow lv1 lvi ∧ (∀ x, lvi x → V x) ∧ (∀ b k x, m.fn b = some k → bs.owns b x → Bd x ∨ V x) ∧ MInv (amT lvi Bd V l o W) w0 bs (· < m.length) m.fn W ∧
    RepL bs (live (amT lvi Bd V l o W) bs m.fn) W sl tmps ∧ Ext (cut n0 bs1) L1 W1 bs (live (amT lvi Bd V l o W) bs m.fn) W
/-- What is asked of the boundary. -/
structure BdOK (lv1 : Am) (W1 : World) (Bd : Nat → Prop) (l : Nat) (L1 : Nat → Prop) : Prop where
  lt : ∀ x, Bd x → x < W1.heap.size
  bb : ∀ x, ¬ Bd x → ¬ lv1.B x
  at_l : Bd l
  out : ∀ x, x < W1.heap.size → ¬ L1 x → Bd x
  lv : ∀ x, lv1 x → Bd x

section
variable {n0 : Nat} {lv1 : Am} {w0 : World} {bs1 : Bs} {L1 : Nat → Prop} {W1 : World} {Bd : Nat → Prop} {l : Nat} {KL : Nat → Prop} {sl : List SV} {tmps : List Value} {m : Mem} {o : Obj} {V : Nat → Prop} {W : World}

/-- A fixed block of the surroundings is told anew. -/
def Am.refix (a : Am) (l : Nat) (o : Obj) : Am := { a with fix := fun x => if x = l then some o else a.fix x }
theorem Am.refix_l {a : Am} {l : Nat} {o : Obj} : (a.refix l o).fix l = some o := by simp [Am.refix]
theorem Am.refix_o {a : Am} {l x : Nat} {o : Obj} (h : x ≠ l) : (a.refix l o).fix x = a.fix x := by simp [Am.refix, h]
theorem Grow.refix {a a' : Am} (h : Grow a a') (l : Nat) (o : Obj) : Grow (a.refix l o) (a'.refix l o) := ⟨h.lv, h.vol, by unfold Am.refix; simp only [h.fix], h.B⟩
theorem MInv.refix {a : Am} {w : World} {bs : Bs} {D : Nat → Prop} {mf : Nat → Option Blk} (h : MInv a w0 bs D mf w) {l : Nat} {o0 : Obj} (hf : a.fix l = some o0) (h0 : w0.heap.size ≤ l) (o : Obj) :
    MInv (a.refix l o) w0 bs D mf (w.putObj l o) ∧ ∀ sl vs, RepL bs (live a bs mf) w sl vs → RepL bs (live (a.refix l o) bs mf) (w.putObj l o) sl vs := by
  have hl := (h.fixed l o0 hf).1
  refine h.shift (a' := a.refix l o) (X := fun x => x = l) ⟨rfl, rfl, rfl, by simp, fun x hx hn => World.putObj_heap_other hn⟩ (fun x e hB => by subst e; have := h.base.1 _ hB; omega) (fun x e _ => by subst e; exact .inl hl) (fun x e _ => by subst e; rw [hf]; simp)
    (fun x hx => hx) (fun x _ hx => hx) (fun x hx => by simpa using h.amb x hx) rfl rfl (fun x o' hx => ?_) (fun x hx hn => ?_)
  · by_cases e : x = l
    · subst e
      rw [Am.refix_l] at hx; cases hx
      exact ⟨hl, World.putObj_heap_same (h.amb x hl)⟩
    · rw [Am.refix_o e] at hx
      exact ⟨(h.fixed x o' hx).1, (World.putObj_heap_other e).trans (h.fixed x o' hx).2⟩
  · have e : x ≠ l := fun e => by rw [e, hf] at hn; cases hn
    rw [Am.refix_o e]; exact hn
theorem Ext.putObj {bs bs' : Bs} {lv lv' : Nat → Prop} {w w' : World} (h : Ext bs lv w bs' lv' w') {l : Nat} (hl : lv l ∨ w.heap.size ≤ l) (o : Obj) : Ext bs lv w bs' lv' (w'.putObj l o) :=
  ⟨h.hbs, h.hlv, fun x hx hn => (World.putObj_heap_other (fun e => by subst e; rcases hl with hl | hl; exact hn hl; omega)).trans (h.heap x hx hn), by simpa using h.size⟩
theorem Ext.cut {n0 : Nat} {bs bs' : Bs} {lv lv' : Nat → Prop} {w w' : World} (h : Ext bs lv w bs' lv' w') : Ext (cut n0 bs) lv w bs' lv' w' :=
  ⟨fun b x hx => h.hbs b x (cut_some hx).2, h.hlv, h.heap, h.size⟩
theorem Ext.cutTrans {n0 : Nat} {bs bs' bs'' : Bs} {lv lv' lv'' : Nat → Prop} {w w' w'' : World} (h : Ext (RX.cut n0 bs) lv w bs' lv' w') (h' : Ext (RX.cut n0 bs') lv' w' bs'' lv'' w'') : Ext (RX.cut n0 bs) lv w bs'' lv'' w'' :=
  ⟨fun b x hx => h'.hbs b x (by rw [cut_lt (cut_some hx).1]; exact h.hbs b x hx), fun x hx hl => h.hlv x hx (h'.hlv x (Nat.lt_of_lt_of_le hx h.size) hl), fun x hx hl => (h'.heap x (Nat.lt_of_lt_of_le hx h.size) fun h2 => hl (h.hlv x hx h2)).trans (h.heap x hx hl), Nat.le_trans h.size h'.size⟩

theorem CInv.stab (h : CInv n0 lv1 w0 bs1 L1 W1 Bd l KL sl tmps m o V W) (hl : l < W1.heap.size) (hbd : BdOK lv1 W1 Bd l L1) {W' : World} (ht : Turn (fun x => ¬ (V x ∨ Bd x)) W W') : CInv n0 lv1 w0 bs1 L1 W1 Bd l KL sl tmps m o V W' := by
  obtain ⟨h1, h2, bs, lvi, h3, h4, h5, h6, h7, h8⟩ := h
  have same : ∀ x, x < W.heap.size → (V x ∨ Bd x) → W'.heap[x]? = W.heap[x]? := fun x hx h => ht.heap x hx (fun hn => hn h)
  have hWs : W1.heap.size ≤ W.heap.size := h8.size
  have hT : ∀ x, ¬ (V x ∨ Bd x) → x < W.heap.size → (¬ Bd x ∧ x < W.heap.size ∧ ¬ V x) := fun x hx hs => ⟨fun h => hx (.inr h), hs, fun h => hx (.inl h)⟩
  obtain ⟨g1, g2⟩ := h6.shift (a' := amT lvi Bd V l o W') ht
    (fun x hx => by show ¬ lvi.B x; rw [h3.B]; exact hbd.bb x fun h => hx (.inr h))
    (fun x hx hs => .inl (.inr (.inl (hT x hx hs))))
    (fun x hx ha => by
      have hs := h6.amb x ha
      have hne : x ≠ l := fun e => hx (.inr (by rw [e]; exact hbd.at_l))
      obtain ⟨o', ho'⟩ := heap_some hs
      rw [amT_fix_T hne (hT x hx hs), ho']; simp)
    (fun x hx => hx.imp id (fun h => h.imp (fun h => ⟨h.1, Nat.lt_of_lt_of_le h.2.1 ht.size, h.2.2⟩) id))
    (fun x hs hx => hx.imp id (fun h => h.imp (fun h => ⟨h.1, hs, h.2.2⟩) id))
    (fun x hx => by
      rcases hx with hx | hx | rfl
      · exact Nat.lt_of_lt_of_le (h1 x (h4 x hx)).1 ht.size
      · exact hx.2.1
      · exact Nat.lt_of_lt_of_le (Nat.lt_of_lt_of_le hl hWs) ht.size)
    rfl rfl
    (fun x o' hx => by
      by_cases hne : x = l
      · subst hne
        rw [amT_fix_l] at hx; cases hx
        exact ⟨.inr (.inr rfl), (same x (Nat.lt_of_lt_of_le hl hWs) (.inr hbd.at_l)).trans (h6.fixed x o amT_fix_l).2⟩
      · by_cases hTx : ¬ Bd x ∧ x < W'.heap.size ∧ ¬ V x
        · rw [amT_fix_T hne hTx] at hx
          exact ⟨.inr (.inl hTx), hx⟩
        · rw [amT_fix_o hne hTx] at hx
          have hTx' : ¬ (¬ Bd x ∧ x < W.heap.size ∧ ¬ V x) := fun h => hTx ⟨h.1, Nat.lt_of_lt_of_le h.2.1 ht.size, h.2.2⟩
          obtain ⟨ha, hh⟩ := h6.fixed x o' (by rw [amT_fix_o hne hTx']; exact hx)
          have hlx : lvi x := by
            rcases ha with ha | ha | ha
            · exact ha
            · exact absurd ha hTx'
            · exact absurd ha hne
          exact ⟨.inl hlx, (same x (h1 x (h4 x hlx)).1 (.inl (h4 x hlx))).trans hh⟩)
    (fun x hx hf => by
      have hne : x ≠ l := fun e => by rw [e, amT_fix_l] at hf; cases hf
      have hTx : ¬ (¬ Bd x ∧ x < W.heap.size ∧ ¬ V x) := fun h => by
        rw [amT_fix_T hne h] at hf
        obtain ⟨o', ho'⟩ := heap_some h.2.1
        rw [ho'] at hf; cases hf
      have hlx : lvi x := by
        rcases hx with ha | ha | ha
        · exact ha
        · exact absurd ha hTx
        · exact absurd ha hne
      rw [amT_fix_o hne hTx] at hf
      rw [amT_fix_o hne (fun h => h.2.2 (h4 x hlx))]
      exact hf)
  refine ⟨fun x hx => ⟨Nat.lt_of_lt_of_le (h1 x hx).1 ht.size, (h1 x hx).2⟩, h2, bs, lvi, h3, h4, h5, g1, g2 _ _ h7, ⟨h8.hbs, fun x hx hlx => h8.hlv x hx (hlx.imp (fun ha => ?_) id), fun x hx hlx => (same x (Nat.lt_of_lt_of_le hx hWs) (.inr (hbd.out x hx hlx))).trans (h8.heap x hx hlx), Nat.le_trans h8.size ht.size⟩⟩
  rcases ha with ha | ha | ha
  · exact .inl ha
  · exact .inr (.inl ⟨ha.1, Nat.lt_of_lt_of_le hx hWs, ha.2.2⟩)
  · exact .inr (.inr ha)

def isN : Ex → Bool
  | .normal => true
  | _ => false
def jumpOf : Ex → Option Code
  | .normal => none
  | .exit id => some (.exit id)
  | .ret => some .ret
theorem jumpOf_none (e : Ex) : (jumpOf e).isNone = isN e := by cases e <;> rfl

set_option maxHeartbeats 1000000 in
/-- One round. -/
theorem CInv.round {E : Env} {L : Loops} (hm : E.P.follows .mixedOrders = true) (hE : EnvOK E) {ps : Array Tmp} {assign body : Code} (hLa : LoopsOK E.P L assign) (hLb : LoopsOK E.P L body) {vals : List Value} {m' : Mem} {r : Ex × St} {fn : FuncId} {tm : Array Value} {df : Nat} {rec : LoopState → Option Code → Loop}
    (hrec : rec = fun st pe => { state := st, pending := pe, fn, tmps := tm, params := ps, assign, body, defers := df })
    (hr : (sxR E L m.length ps assign body vals (sl, m)).Is r) (hwk : match r.1 with | .normal => Weak n0 (sl, r.2.2) (sl, m') | _ => m' = r.2.2) (hn0 : n0 ≤ m.length) (hvs : vals.length = ps.size) (hnt : hasT vals = false)
    (h : CInv n0 lv1 w0 bs1 L1 W1 Bd l KL sl tm.toList m (.loop (rec .ready none)) V W) (hl : l < W1.heap.size) (hbd : BdOK lv1 W1 Bd l L1) (hw : w0.heap.size ≤ l) (hKl : KL l) (hL1 : ∀ x, Bd x → L1 x → KL x) (hlv1 : ∀ x, lv1 x → x < W1.heap.size ∧ x ≠ l) :
    YieldAt Fence.wide 2 E.P l vals.toArray W fun e W' => e = .returned (.bool (isN r.1)) ∧ ∃ V', CInv n0 lv1 w0 bs1 L1 W1 Bd l KL sl tm.toList m' (.loop (rec (if (jumpOf r.1).isNone then .ready else .done) (jumpOf r.1))) V' W' ∧
      (∀ x, V x → V' x) ∧ (∀ x, V' x → V x ∨ W.heap.size ≤ x) ∧ Turn V W W' := by
  obtain ⟨h1, h2, bs, lvi, h3, h4, h5, h6, h7, h8⟩ := h
  have hWs : W1.heap.size ≤ W.heap.size := h8.size
  obtain ⟨a, ha⟩ : ∃ a, a = amT lvi Bd V l (.loop (rec .ready none)) W := ⟨_, rfl⟩
  have hal : a l := by rw [ha]; exact .inr (.inr rfl)
  have hafix : a.fix l = some (.loop (rec .ready none)) := by rw [ha]; exact amT_fix_l
  rw [← ha] at h6 h7 h8
  have hfix := (h6.fixed l _ hafix).2
  obtain ⟨⟨exa, σa⟩, hsa, hsb⟩ := T.is_bind hr
  cases exa with
  | exit id => exact hsb.elim
  | ret => exact hsb.elim
  | normal => ?_
  have hy := run_yield (P := E.P) (args := vals.toArray) hfix (by rw [hrec]; simpa using hvs)
  rw [hrec] at hy
  refine ⟨fn, _, assign, body, hy, roundIn_of_wpIn trivial ?_⟩
  clear hy
  obtain ⟨Ai, hAi⟩ : ∃ Ai : Anchor, Ai = ⟨bs, live a bs m.fn, W, m.length, fun b hb => (h6.dom b (Nat.not_lt.2 hb)).1, some l⟩ := ⟨_, rfl⟩
  have hAl : Ai.lv l := by rw [hAi]; exact .inl hal
  have hS : SInv Ai a w0 (· < m.length) (setPs ps.toList vals sl, m) { tmps := (ps.zip vals.toArray).foldl (fun tmps (x : Tmp × Value) => tmps.setIfInBounds x.1 x.2) tm, defers := [] } W := by
    refine ⟨bs, a, .refl _, h6, ⟨?_⟩, by rw [hAi]; exact Ext.refl _ _ _, ⟨List.nodup_nil, fun d hd => by cases hd⟩, fun l' e => ?_⟩
    · have := setPs_rep ps.toList vals vals sl tm ((elsRep_self _ _ hnt).2 rfl) h7
      have e : (ps.zip vals.toArray).foldl (fun (tmps : Array Value) (x : Tmp × Value) => tmps.setIfInBounds x.1 x.2) tm = (ps.toList.zip vals).foldl (fun tm (p : Tmp × Value) => tm.setIfInBounds p.1 p.2) tm := by
        rw [← Array.foldl_toList, Array.toList_zip]
      rw [e]; exact this
    · rw [hAi] at e; cases e; exact ⟨_, hafix⟩
  have hAn : Ai.n ≤ m.length := by rw [hAi]; exact Nat.le_refl _
  have hro : Ai.ro = some l := by rw [hAi]
  have hwa := sx_sound hm hE assign _ _ hsa hLa Ai a w0 _ W hAn hS
  rw [hro] at hwa
  refine fr_any (m := 2) (wpIn_mono hwa ?_)
  rintro e a1 Wa ⟨rfl, bsa, lva, ga, ma, fa, xa, sa⟩
  have hla := ma.fixed l _ (by rw [ga.fix]; exact hafix)
  refine ⟨_, run_beginRound hla.2 (by rw [hrec]), ?_⟩
  obtain ⟨busy, hbusy⟩ : ∃ busy : Loop, busy = { rec .ready none with state := .busy } := ⟨_, rfl⟩
  obtain ⟨mb, tb⟩ := ma.refix (by rw [ga.fix]; exact hafix) hw (.loop busy)
  have hput : ∀ (w : World) (x : Nat) (o : Obj), x ≠ l → (w.putObj l o).heap[x]? = w.heap[x]? := fun w x o hx => World.putObj_heap_other hx
  have hSb : SInv Ai (a.refix l (.loop busy)) w0 (· < σa.2.length) σa a1 (Wa.putObj l (.loop busy)) := by
    refine ⟨bsa, lva.refix l (.loop busy), ga.refix _ _, mb, ⟨tb _ _ fa.rep⟩, xa.putObj (.inl hAl) _, ⟨sa.1.1, fun d hd => ?_⟩, fun l' e => ?_⟩
    · obtain ⟨x, g1, g2, g3, g4, g5⟩ := sa.1.2 d hd
      exact ⟨x, g1, g2, by simpa using g3, g4, (hput _ x _ fun e => g4 (.inl (by rw [e]; exact hla.1))).trans g5⟩
    · rw [hro] at e; cases e; exact ⟨_, Am.refix_l⟩
  have hwb := sx_sound hm hE body _ _ hsb hLb Ai (a.refix l (.loop busy)) w0 _ _ hAn hSb
  rw [hro] at hwb
  rw [← hbusy]
  refine fr_any (m := 2) (wpIn_mono hwb ?_)
  rintro e a3 W3 ⟨rfl, bs3, lv3, g3, m3, f3, x3, s3⟩
  have hb3 : lv3.fix l = some (.loop busy) := by rw [g3.fix]; exact Am.refix_l
  have hl3 := m3.fixed l _ hb3
  obtain ⟨re, hre⟩ : ∃ re : Loop, re = rec (if (jumpOf r.1).isNone then .ready else .done) (jumpOf r.1) := ⟨_, rfl⟩
  have hend : (Instr.endRound l (jumpOf r.1)).run E.P W3 = .ok (.bool (jumpOf r.1).isNone) (W3.putObj l (.loop re)) := by
    have := run_endRound (P := E.P) (jumpOf r.1) hl3.2
    rw [this, hre, hbusy, hrec]
  have key : ∃ V', CInv n0 lv1 w0 bs1 L1 W1 Bd l KL sl tm.toList m' (.loop re) V' (W3.putObj l (.loop re)) ∧ (∀ x, V x → V' x) ∧ (∀ x, V' x → V x ∨ W.heap.size ≤ x) ∧ Turn V W (W3.putObj l (.loop re)) := by
    obtain ⟨m4, t4⟩ := m3.refix hb3 hw (.loop re)
    obtain ⟨lv4, hlv4⟩ : ∃ lv4, lv4 = lv3.refix l (.loop re) := ⟨_, rfl⟩
    obtain ⟨W4, hW4⟩ : ∃ W4, W4 = W3.putObj l (.loop re) := ⟨_, rfl⟩
    have x3' : Ext bs (live a bs m.fn) W bs3 (live lv3 bs3 r.2.2.fn) W3 := by rw [hAi] at x3; exact x3
    have hla : live a bs m.fn l := .inl hal
    have x4 := x3'.putObj (.inl hla) (.loop re)
    have r4 := t4 _ _ (x3'.repL h7)
    rw [← hW4, ← hlv4] at m4 r4
    rw [← hW4] at x4 ⊢
    have x4 : Ext bs (live a bs m.fn) W bs3 (live lv4 bs3 r.2.2.fn) W4 := by rw [hlv4]; exact x4
    obtain ⟨bsf, lvf, gf, mf, rf, xf⟩ : ∃ bsf lvf, Grow lv4 lvf ∧ MInv lvf w0 bsf (· < m'.length) m'.fn W4 ∧ RepL bsf (live lvf bsf m'.fn) W4 sl tm.toList ∧ Ext (cut n0 bs) (live a bs m.fn) W bsf (live lvf bsf m'.fn) W4 := by
      have other : m' = r.2.2 → ∃ bsf lvf, Grow lv4 lvf ∧ MInv lvf w0 bsf (· < m'.length) m'.fn W4 ∧ RepL bsf (live lvf bsf m'.fn) W4 sl tm.toList ∧ Ext (cut n0 bs) (live a bs m.fn) W bsf (live lvf bsf m'.fn) W4 := fun e => by
        rw [e]; exact ⟨bs3, lv4, .refl _, m4, r4, x4.cut⟩
      cases hex : r.1 with
      | normal =>
        rw [hex] at hwk
        obtain ⟨bsf, lvf, k1, k2, k3, k4, k5⟩ := hwk ⟨cut n0 bs, live a bs m.fn, W, n0, cut_dom n0 bs, none⟩ lv4 w0 { tmps := tm, defers := [] } W4 (Nat.le_refl _) ⟨bs3, lv4, .refl _, m4, ⟨r4⟩, x4.cut, side_nil⟩
        exact ⟨bsf, lvf, k1, k2, k3.rep, k4⟩
      | exit id => rw [hex] at hwk; exact other hwk
      | ret => rw [hex] at hwk; exact other hwk
    have hfl : lvf.fix l = some (.loop re) := by rw [gf.fix, hlv4]; exact Am.refix_l
    have hfo : ∀ x, x ≠ l → lvf.fix x = a.fix x := fun x hx => by rw [gf.fix, hlv4, Am.refix_o hx, g3.fix, Am.refix_o hx]
    have haf : ∀ x, a x → lvf x := fun x hx => gf.lv x (by rw [hlv4]; exact g3.lv x hx)
    have hWW : W.heap.size ≤ W4.heap.size := x4.size
    have hT : ∀ x, ¬ Bd x → x < W.heap.size → ¬ V x → a x := fun x g1 g2 g3 => by rw [ha]; exact .inr (.inl ⟨g1, g2, g3⟩)
    have hlive1 : ∀ x, Bd x → live a bs m.fn x → V x := fun x hx hlx => h2 x (hL1 x hx (h8.hlv x (hbd.lt x hx) hlx))
    have hVl : ∀ x, V x ∨ (W.heap.size ≤ x ∧ x < W4.heap.size) → x < W4.heap.size ∧ (KL x ∨ ¬ Bd x) := fun x hx => hx.elim (fun hx => ⟨Nat.lt_of_lt_of_le (h1 x hx).1 hWW, (h1 x hx).2⟩) (fun hx => ⟨hx.2, .inr fun h => by have := hbd.lt x h; omega⟩)
    have turn : Turn V W W4 := by
      have b1 := h6.below
      have b2 := mf.below
      refine ⟨b2.os.trans b1.os.symm, b2.tape.trans b1.tape.symm, b2.output.trans b1.output.symm, hWW, fun x hx hnV => ?_⟩
      have hne : x ≠ l := fun e => hnV (h2 x (by rw [e]; exact hKl))
      by_cases hB : Bd x
      · exact x4.heap x hx fun hlx => hnV (hlive1 x hB hlx)
      · have hTx : ¬ Bd x ∧ x < W.heap.size ∧ ¬ V x := ⟨hB, hx, hnV⟩
        obtain ⟨o', ho'⟩ := heap_some hx
        have hfx : lvf.fix x = some o' := by rw [hfo x hne, ha, amT_fix_T hne hTx]; exact ho'
        exact (mf.fixed x o' hfx).2.trans ho'.symm
    obtain ⟨V', hV'⟩ : ∃ V' : Nat → Prop, V' = fun x => V x ∨ (W.heap.size ≤ x ∧ x < W4.heap.size) := ⟨_, rfl⟩
    obtain ⟨lvi', hlvi'⟩ : ∃ lvi' : Am, lvi' = { lvi with lv := fun x => lvf x ∧ (Bd x ∨ V' x) ∧ x ≠ l } := ⟨_, rfl⟩
    have hT' : ∀ x, (¬ Bd x ∧ x < W4.heap.size ∧ ¬ V' x) ↔ (¬ Bd x ∧ x < W.heap.size ∧ ¬ V x) := fun x => by
      rw [hV']
      constructor
      · rintro ⟨g1, g2, g3⟩
        exact ⟨g1, Nat.lt_of_not_le fun h => g3 (.inr ⟨h, g2⟩), fun h => g3 (.inl h)⟩
      · rintro ⟨g1, g2, g3⟩
        exact ⟨g1, by omega, fun h => h.elim g3 (fun h => by omega)⟩
    have conv : ∀ x, amT lvi' Bd V' l (.loop re) W4 x ↔ lvf x := fun x => by
      constructor
      · rintro (hx | hx | hx)
        · rw [hlvi'] at hx; exact hx.1
        · obtain ⟨g1, g2, g3⟩ := (hT' x).1 hx
          exact haf x (hT x g1 g2 g3)
        · rw [hx]; exact haf l hal
      · intro hx
        by_cases hne : x = l
        · exact .inr (.inr hne)
        · by_cases hc : Bd x ∨ V' x
          · exact .inl (by rw [hlvi']; exact ⟨hx, hc, hne⟩)
          · exact .inr (.inl ⟨fun h => hc (.inl h), mf.amb x hx, fun h => hc (.inr h)⟩)
    have hvol : lvf.vol = lvi.vol := by rw [gf.vol, hlv4]; show lv3.vol = _; rw [g3.vol]; show a.vol = _; rw [ha]; rfl
    have hBB : lvf.B = lvi.B := by rw [gf.B, hlv4]; show lv3.B = _; rw [g3.B]; show a.B = _; rw [ha]; rfl
    obtain ⟨k1, k2⟩ := mf.shift (a' := amT lvi' Bd V' l (.loop re) W4) (X := fun _ => False) (Turn.refl _ _) (fun x hx => hx.elim) (fun x hx => hx.elim) (fun x hx => hx.elim)
      (fun x hx => (conv x).2 hx) (fun x _ hx => (conv x).1 hx) (fun x hx => mf.amb x ((conv x).1 hx)) (by rw [hvol, hlvi']; rfl) (by rw [hBB, hlvi']; rfl)
      (fun x o' hx => by
        refine ⟨?_, ?_⟩ <;> by_cases hne : x = l
        · exact .inr (.inr hne)
        · by_cases hTx : ¬ Bd x ∧ x < W4.heap.size ∧ ¬ V' x
          · exact .inr (.inl hTx)
          · rw [amT_fix_o hne hTx, hlvi'] at hx
            have hx' : lvf.fix x = some o' := by rw [hfo x hne, ha, amT_fix_o hne (fun h => hTx ((hT' x).2 h))]; exact hx
            exact (conv x).2 (mf.fixed x o' hx').1
        · rw [hne, amT_fix_l] at hx; cases hx
          rw [hne]; exact (mf.fixed l _ hfl).2
        · by_cases hTx : ¬ Bd x ∧ x < W4.heap.size ∧ ¬ V' x
          · rw [amT_fix_T hne hTx] at hx; exact hx
          · rw [amT_fix_o hne hTx, hlvi'] at hx
            have hx' : lvf.fix x = some o' := by rw [hfo x hne, ha, amT_fix_o hne (fun h => hTx ((hT' x).2 h))]; exact hx
            exact (mf.fixed x o' hx').2)
      (fun x hx hn => by
        have hne : x ≠ l := fun e => by rw [e, hfl] at hn; cases hn
        have hTx : ¬ (¬ Bd x ∧ x < W.heap.size ∧ ¬ V x) := fun h => by
          rw [hfo x hne, ha, amT_fix_T hne h] at hn
          obtain ⟨o', ho'⟩ := heap_some h.2.1
          rw [ho'] at hn; cases hn
        rw [amT_fix_o hne (fun h => hTx ((hT' x).1 h)), hlvi']
        rw [hfo x hne, ha, amT_fix_o hne hTx] at hn
        exact hn)
    have hlvV : ∀ x, lvi' x → V' x := fun x hx => by
      rw [hlvi'] at hx
      obtain ⟨g1, g2, g3⟩ := hx
      rcases g2 with g2 | g2
      · rw [hV']; exact .inl (hlive1 x g2 (xf.hlv x (by have := hbd.lt x g2; omega) (.inl g1)))
      · exact g2
    refine ⟨V', ⟨fun x hx => hVl x (by rw [hV'] at hx; exact hx), fun x hx => by rw [hV']; exact .inl (h2 x hx), bsf, lvi', ⟨fun x hx => ?_, by rw [hlvi']; exact h3.vol, by rw [hlvi']; exact h3.fix, by rw [hlvi']; exact h3.B⟩, hlvV, fun b k x hk hb => ?_, k1, k2 _ _ rf, ?_⟩, fun x hx => by rw [hV']; exact .inl hx, fun x hx => by rw [hV'] at hx; exact hx.imp id (fun h => h.1), turn⟩
    · rw [hlvi']
      exact ⟨haf x (by rw [ha]; exact .inl (h3.lv x hx)), .inl (hbd.lv x hx), (hlv1 x hx).2⟩
    · refine Classical.byContradiction fun hc => ?_
      have hc1 : ¬ Bd x := fun h => hc (.inl h)
      have hc2 : ¬ V' x := fun h => hc (.inr h)
      have hTx := (hT' x).1 ⟨hc1, (mf.rngO b x hb).2, hc2⟩
      exact mf.sepO b k x hk hb (haf x (hT x hTx.1 hTx.2.1 hTx.2.2))
    · refine h8.cutTrans ⟨xf.hbs, fun x hx hlx => xf.hlv x hx (hlx.imp (fun h => (conv x).1 h) id), xf.heap, xf.size⟩
  rw [← hre]
  obtain ⟨V', k1, k2, k3, k4⟩ := key
  have hfin : (fun e W' => e = Ending.returned (.bool (isN r.1)) ∧ ∃ V', CInv n0 lv1 w0 bs1 L1 W1 Bd l KL sl tm.toList m' (.loop re) V' W' ∧ (∀ x, V x → V' x) ∧ (∀ x, V' x → V x ∨ W.heap.size ≤ x) ∧ Turn V W W') (.returned (.bool (jumpOf r.1).isNone)) (W3.putObj l (.loop re)) :=
    ⟨by rw [jumpOf_none], V', k1, k2, k3, k4⟩
  cases hex : r.1 with
  | normal => rw [hex] at hend hfin; exact ⟨_, _, hend, hfin⟩
  | exit id => rw [hex] at hend hfin; exact ⟨_, _, hend, hfin⟩
  | ret => rw [hex] at hend hfin; exact ⟨_, _, hend, hfin⟩
set_option maxHeartbeats 1000000 in
/-- One round, where slices are handed over. -/
theorem CInv.roundT {E : Env} {L : Loops} (hm : E.P.follows .mixedOrders = true) (hE : EnvOK E) {ps : Array Tmp} {assign body : Code} (hLa : LoopsOK E.P L assign) (hLb : LoopsOK E.P L body) {els vals : List Value} {m' : Mem} {r : Ex × St} {fn : FuncId} {tm : Array Value} {df : Nat} {rec : LoopState → Option Code → Loop}
    (hrec : rec = fun st pe => { state := st, pending := pe, fn, tmps := tm, params := ps, assign, body, defers := df })
    (hr : (sxR E L m.length ps assign body els (sl, m)).Is r) (hnorm : r.1 = .normal) (hwk : Weak n0 (sl, r.2.2) (sl, m')) (hnr : noRowM m' = true) (hn0 : n0 ≤ m.length) (hvs : vals.length = ps.size) (hel : ElsRep V W els vals) (hf1 : ∀ x o, lv1.fix x = some o → lv1 x)
    (h : CInv n0 lv1 w0 bs1 L1 W1 Bd l KL sl tm.toList m (.loop (rec .ready none)) V W) (hl : l < W1.heap.size) (hbd : BdOK lv1 W1 Bd l L1) (hw : w0.heap.size ≤ l) (hKl : KL l) (hL1 : ∀ x, Bd x → L1 x → KL x) (hlv1 : ∀ x, lv1 x → x < W1.heap.size ∧ x ≠ l) :
    YieldAt Fence.wide 2 E.P l vals.toArray W fun e W' => e = .returned (.bool (isN r.1)) ∧ ∃ V', CInv n0 lv1 w0 bs1 L1 W1 Bd l KL sl tm.toList m' (.loop (rec (if (jumpOf r.1).isNone then .ready else .done) (jumpOf r.1))) V' W' ∧
      (∀ x, V x → V' x) ∧ (∀ x, V' x → V x ∨ W.heap.size ≤ x) ∧ Turn V W W' := by
  obtain ⟨h1, h2, bs, lvi, h3, h4, h5, h6, h7, h8⟩ := h
  have hWs : W1.heap.size ≤ W.heap.size := h8.size
  obtain ⟨A1, hA1⟩ : ∃ A1, A1 = amT lvi Bd V l (.loop (rec .ready none)) W := ⟨_, rfl⟩
  rw [← hA1] at h6 h7 h8
  have hA1l : A1 l := by rw [hA1]; exact .inr (.inr rfl)
  obtain ⟨a, ha⟩ : ∃ a, a = amT lvi (fun x => x < W.heap.size) V l (.loop (rec .ready none)) W := ⟨_, rfl⟩
  have hal : a l := by rw [ha]; exact .inr (.inr rfl)
  have hafix : a.fix l = some (.loop (rec .ready none)) := by rw [ha]; exact amT_fix_l
  have hacc : ∀ x, a x ↔ lvi x ∨ x = l := fun x => by
    rw [ha]
    constructor
    · rintro (h | h | h)
      · exact .inl h
      · exact absurd h.2.1 h.1
      · exact .inr h
    · rintro (h | h)
      · exact .inl h
      · exact .inr (.inr h)
  have hafo : ∀ x, x ≠ l → a.fix x = lvi.fix x := fun x hx => by rw [ha]; exact amT_fix_o hx (fun h => h.1 h.2.1)
  have hsubA : ∀ x, a x → A1 x := fun x hx => by
    rw [hA1]
    exact ((hacc x).1 hx).imp id .inr
  have hTA : ∀ x, ¬ Bd x → x < W.heap.size → ¬ V x → A1 x := fun x g1 g2 g3 => by rw [hA1]; exact .inr (.inl ⟨g1, g2, g3⟩)
  obtain ⟨n6, n7⟩ := h6.less (a' := a) hsubA (by rw [ha, hA1]; rfl) (by rw [ha, hA1]; rfl) (fun x o'' hx => by
      by_cases hne : x = l
      · rw [hne] at hx ⊢
        rw [hafix] at hx; cases hx
        exact ⟨hal, by rw [hA1]; exact amT_fix_l⟩
      · rw [hafo x hne] at hx
        have hx1 : lv1 x := hf1 x o'' (by rw [← h3.fix]; exact hx)
        refine ⟨(hacc x).2 (.inl (h3.lv x hx1)), ?_⟩
        rw [hA1, amT_fix_o hne (fun h => h.1 (hbd.lv x hx1))]; exact hx)
    (fun x hx hn => by
      have hne : x ≠ l := fun e => by rw [e, hA1, amT_fix_l] at hn; cases hn
      have hTx : ¬ (¬ Bd x ∧ x < W.heap.size ∧ ¬ V x) := fun h => by
        rw [hA1, amT_fix_T hne h] at hn
        obtain ⟨o', ho'⟩ := heap_some h.2.1
        rw [ho'] at hn; cases hn
      rw [hA1, amT_fix_o hne hTx] at hn
      refine ⟨(hacc x).2 ?_, by rw [hafo x hne]; exact hn⟩
      rw [hA1] at hx
      rcases hx with hx | hx | hx
      · exact .inl hx
      · exact absurd hx hTx
      · exact .inr hx)
  have hVl0 : V l := h2 l hKl
  have hlive : ∀ x, x < W.heap.size → live a bs m.fn x → V x := fun x hx hlx => by
    rcases hlx with hlx | ⟨b, k, g1, g2⟩
    · rcases (hacc x).1 hlx with hlx | rfl
      · exact h4 x hlx
      · exact hVl0
    · rcases h5 b k x g1 g2 with g3 | g3
      · exact h2 x (hL1 x g3 (h8.hlv x (hbd.lt x g3) (.inr ⟨b, k, g1, g2⟩)))
      · exact g3
  have h70 := h7
  have h6 := n6
  have h7 := n7 _ _ h7
  have hfix := (h6.fixed l _ hafix).2
  obtain ⟨⟨exa, σa⟩, hsa, hsb⟩ := T.is_bind hr
  cases exa with
  | exit id => exact hsb.elim
  | ret => exact hsb.elim
  | normal => ?_
  have hy := run_yield (P := E.P) (args := vals.toArray) hfix (by rw [hrec]; simpa using hvs)
  rw [hrec] at hy
  refine ⟨fn, _, assign, body, hy, roundIn_of_wpIn trivial ?_⟩
  clear hy
  obtain ⟨Ai, hAi⟩ : ∃ Ai : Anchor, Ai = ⟨bs, live a bs m.fn, W, m.length, fun b hb => (h6.dom b (Nat.not_lt.2 hb)).1, some l⟩ := ⟨_, rfl⟩
  have hAl : Ai.lv l := by rw [hAi]; exact .inl hal
  have hS : SInv Ai a w0 (· < m.length) (setPs ps.toList els sl, m) { tmps := (ps.zip vals.toArray).foldl (fun tmps (x : Tmp × Value) => tmps.setIfInBounds x.1 x.2) tm, defers := [] } W := by
    refine ⟨bs, a, .refl _, h6, ⟨?_⟩, by rw [hAi]; exact Ext.refl _ _ _, ⟨List.nodup_nil, fun d hd => by cases hd⟩, fun l' e => ?_⟩
    · have := setPs_rep ps.toList els vals sl tm (ElsRep.mono hlive _ _ hel) h7
      have e : (ps.zip vals.toArray).foldl (fun (tmps : Array Value) (x : Tmp × Value) => tmps.setIfInBounds x.1 x.2) tm = (ps.toList.zip vals).foldl (fun tm (p : Tmp × Value) => tm.setIfInBounds p.1 p.2) tm := by
        rw [← Array.foldl_toList, Array.toList_zip]
      rw [e]; exact this
    · rw [hAi] at e; cases e; exact ⟨_, hafix⟩
  have hAn : Ai.n ≤ m.length := by rw [hAi]; exact Nat.le_refl _
  have hro : Ai.ro = some l := by rw [hAi]
  have hwa := sx_sound hm hE assign _ _ hsa hLa Ai a w0 _ W hAn hS
  rw [hro] at hwa
  refine fr_any (m := 2) (wpIn_mono hwa ?_)
  rintro e a1 Wa ⟨rfl, bsa, lva, ga, ma, fa, xa, sa⟩
  have hla := ma.fixed l _ (by rw [ga.fix]; exact hafix)
  refine ⟨_, run_beginRound hla.2 (by rw [hrec]), ?_⟩
  obtain ⟨busy, hbusy⟩ : ∃ busy : Loop, busy = { rec .ready none with state := .busy } := ⟨_, rfl⟩
  obtain ⟨mb, tb⟩ := ma.refix (by rw [ga.fix]; exact hafix) hw (.loop busy)
  have hput : ∀ (w : World) (x : Nat) (o : Obj), x ≠ l → (w.putObj l o).heap[x]? = w.heap[x]? := fun w x o hx => World.putObj_heap_other hx
  have hSb : SInv Ai (a.refix l (.loop busy)) w0 (· < σa.2.length) σa a1 (Wa.putObj l (.loop busy)) := by
    refine ⟨bsa, lva.refix l (.loop busy), ga.refix _ _, mb, ⟨tb _ _ fa.rep⟩, xa.putObj (.inl hAl) _, ⟨sa.1.1, fun d hd => ?_⟩, fun l' e => ?_⟩
    · obtain ⟨x, g1, g2, g3, g4, g5⟩ := sa.1.2 d hd
      exact ⟨x, g1, g2, by simpa using g3, g4, (hput _ x _ fun e => g4 (.inl (by rw [e]; exact hla.1))).trans g5⟩
    · rw [hro] at e; cases e; exact ⟨_, Am.refix_l⟩
  have hwb := sx_sound hm hE body _ _ hsb hLb Ai (a.refix l (.loop busy)) w0 _ _ hAn hSb
  rw [hro] at hwb
  rw [← hbusy]
  refine fr_any (m := 2) (wpIn_mono hwb ?_)
  rintro e a3 W3 ⟨rfl, bs3, lv3, g3, m3, f3, x3, s3⟩
  have hb3 : lv3.fix l = some (.loop busy) := by rw [g3.fix]; exact Am.refix_l
  have hl3 := m3.fixed l _ hb3
  obtain ⟨re, hre⟩ : ∃ re : Loop, re = rec (if (jumpOf r.1).isNone then .ready else .done) (jumpOf r.1) := ⟨_, rfl⟩
  have hend : (Instr.endRound l (jumpOf r.1)).run E.P W3 = .ok (.bool (jumpOf r.1).isNone) (W3.putObj l (.loop re)) := by
    have := run_endRound (P := E.P) (jumpOf r.1) hl3.2
    rw [this, hre, hbusy, hrec]
  have key : ∃ V', CInv n0 lv1 w0 bs1 L1 W1 Bd l KL sl tm.toList m' (.loop re) V' (W3.putObj l (.loop re)) ∧ (∀ x, V x → V' x) ∧ (∀ x, V' x → V x ∨ W.heap.size ≤ x) ∧ Turn V W (W3.putObj l (.loop re)) := by
    obtain ⟨m4, t4⟩ := m3.refix hb3 hw (.loop re)
    obtain ⟨lv4, hlv4⟩ : ∃ lv4, lv4 = lv3.refix l (.loop re) := ⟨_, rfl⟩
    obtain ⟨W4, hW4⟩ : ∃ W4, W4 = W3.putObj l (.loop re) := ⟨_, rfl⟩
    have x3' : Ext bs (live a bs m.fn) W bs3 (live lv3 bs3 r.2.2.fn) W3 := by rw [hAi] at x3; exact x3
    have hla : live a bs m.fn l := .inl hal
    have x4 := x3'.putObj (.inl hla) (.loop re)
    have r4 := t4 _ _ (x3'.repL h7)
    rw [← hW4, ← hlv4] at m4 r4
    rw [← hW4] at x4 ⊢
    have x4 : Ext bs (live a bs m.fn) W bs3 (live lv4 bs3 r.2.2.fn) W4 := by rw [hlv4]; exact x4
    obtain ⟨bsf, lvf, gf, mf, rf, xf⟩ : ∃ bsf lvf, Grow lv4 lvf ∧ MInv lvf w0 bsf (· < m'.length) m'.fn W4 ∧ RepL bsf (live lvf bsf m'.fn) W4 sl tm.toList ∧ Ext (cut n0 bs) (live a bs m.fn) W bsf (live lvf bsf m'.fn) W4 := by
      obtain ⟨bsf, lvf, k1, k2, k3, k4, k5⟩ := hwk ⟨cut n0 bs, live a bs m.fn, W, n0, cut_dom n0 bs, none⟩ lv4 w0 { tmps := tm, defers := [] } W4 (Nat.le_refl _) ⟨bs3, lv4, .refl _, m4, ⟨r4⟩, x4.cut, side_nil⟩
      exact ⟨bsf, lvf, k1, k2, k3.rep, k4⟩
    have hfl : lvf.fix l = some (.loop re) := by rw [gf.fix, hlv4]; exact Am.refix_l
    have hfo : ∀ x, x ≠ l → lvf.fix x = a.fix x := fun x hx => by rw [gf.fix, hlv4, Am.refix_o hx, g3.fix, Am.refix_o hx]
    have haf : ∀ x, a x → lvf x := fun x hx => gf.lv x (by rw [hlv4]; exact g3.lv x hx)
    have hWW : W.heap.size ≤ W4.heap.size := x4.size
    have hVl : ∀ x, V x ∨ (W.heap.size ≤ x ∧ x < W4.heap.size) → x < W4.heap.size ∧ (KL x ∨ ¬ Bd x) := fun x hx => hx.elim (fun hx => ⟨Nat.lt_of_lt_of_le (h1 x hx).1 hWW, (h1 x hx).2⟩) (fun hx => ⟨hx.2, .inr fun h => by have := hbd.lt x h; omega⟩)
    have turn : Turn V W W4 := by
      have b1 := h6.below
      have b2 := mf.below
      exact ⟨b2.os.trans b1.os.symm, b2.tape.trans b1.tape.symm, b2.output.trans b1.output.symm, hWW, fun x hx hnV => x4.heap x hx fun hlx => hnV (hlive x hx hlx)⟩
    obtain ⟨V', hV'⟩ : ∃ V' : Nat → Prop, V' = fun x => V x ∨ (W.heap.size ≤ x ∧ x < W4.heap.size) := ⟨_, rfl⟩
    obtain ⟨lvi', hlvi'⟩ : ∃ lvi' : Am, lvi' = { lvi with lv := fun x => lvf x ∧ (Bd x ∨ V' x) ∧ x ≠ l } := ⟨_, rfl⟩
    have hT' : ∀ x, (¬ Bd x ∧ x < W4.heap.size ∧ ¬ V' x) ↔ (¬ Bd x ∧ x < W.heap.size ∧ ¬ V x) := fun x => by
      rw [hV']
      constructor
      · rintro ⟨g1, g2, g3⟩
        exact ⟨g1, Nat.lt_of_not_le fun h => g3 (.inr ⟨h, g2⟩), fun h => g3 (.inl h)⟩
      · rintro ⟨g1, g2, g3⟩
        exact ⟨g1, by omega, fun h => h.elim g3 (fun h => by omega)⟩
    have hTl : ∀ x, lvf x → x < W.heap.size → V x := fun x hx hs => hlive x hs (xf.hlv x hs (.inl hx))
    have conv : ∀ x, amT lvi' Bd V' l (.loop re) W4 x ↔ lvf x ∨ (¬ Bd x ∧ x < W.heap.size ∧ ¬ V x) := fun x => by
      constructor
      · rintro (hx | hx | hx)
        · rw [hlvi'] at hx; exact .inl hx.1
        · exact .inr ((hT' x).1 hx)
        · rw [hx]; exact .inl (haf l hal)
      · intro hx
        rcases hx with hx | hx
        · by_cases hne : x = l
          · exact .inr (.inr hne)
          · by_cases hc : Bd x ∨ V' x
            · exact .inl (by rw [hlvi']; exact ⟨hx, hc, hne⟩)
            · exact .inr (.inl ⟨fun h => hc (.inl h), mf.amb x hx, fun h => hc (.inr h)⟩)
        · exact .inr (.inl ((hT' x).2 hx))
    have hvol : lvf.vol = lvi.vol := by rw [gf.vol, hlv4]; show lv3.vol = _; rw [g3.vol]; show a.vol = _; rw [ha]; rfl
    have hBB : lvf.B = lvi.B := by rw [gf.B, hlv4]; show lv3.B = _; rw [g3.B]; show a.B = _; rw [ha]; rfl
    have hown : ∀ b k x, m'.fn b = some k → bsf.owns b x → x < W.heap.size → V x := fun b k x hk hb hs => hlive x hs (xf.hlv x hs (.inr ⟨b, k, hk, hb⟩))
    have k1 : MInv (amT lvi' Bd V' l (.loop re) W4) w0 bsf (· < m'.length) m'.fn W4 := mf.add (fun x hx => (conv x).2 (.inl hx)) (noRowM_get hnr)
      (fun x hx => ((conv x).1 hx).elim (mf.amb x) (fun h => by omega)) (by rw [hvol, hlvi']; rfl) (by rw [hBB, hlvi']; rfl)
      (fun x o' hx => by
        by_cases hne : x = l
        · rw [hne] at hx ⊢
          rw [amT_fix_l] at hx; cases hx
          exact ⟨.inr (.inr rfl), (mf.fixed l _ hfl).2⟩
        · by_cases hTx : ¬ Bd x ∧ x < W4.heap.size ∧ ¬ V' x
          · rw [amT_fix_T hne hTx] at hx
            exact ⟨.inr (.inl hTx), hx⟩
          · rw [amT_fix_o hne hTx, hlvi'] at hx
            have hx' : lvf.fix x = some o' := by rw [hfo x hne, hafo x hne]; exact hx
            exact ⟨(conv x).2 (.inl (mf.fixed x o' hx').1), (mf.fixed x o' hx').2⟩)
      (fun b k x hk hb hx => by
        rcases (conv x).1 hx with hx | hx
        · exact mf.sepO b k x hk hb hx
        · exact hx.2.2 (hown b k x hk hb hx.2.1))
    have hlv2 : ∀ x, x < W.heap.size → live (amT lvi' Bd V' l (.loop re) W4) bsf m'.fn x → live A1 bs m.fn x := fun x hs hx => by
      have back : live a bs m.fn x → live A1 bs m.fn x := fun h => h.imp (hsubA x) id
      rcases hx with hx | hx
      · rcases (conv x).1 hx with hx | hx
        · exact back (xf.hlv x hs (.inl hx))
        · exact .inl (hTA x hx.1 hx.2.1 hx.2.2)
      · exact back (xf.hlv x hs (.inr hx))
    have hhp : ∀ x, x < W.heap.size → ¬ live A1 bs m.fn x → W4.heap[x]? = W.heap[x]? := fun x hs hn => x4.heap x hs fun h => hn (h.imp (hsubA x) id)
    have k2 := RepL.merge hlv2 hhp hWW sl tm.toList h70 rf
    have hlvV : ∀ x, lvi' x → V' x := fun x hx => by
      rw [hlvi'] at hx
      obtain ⟨g1, g2, g3⟩ := hx
      rcases g2 with g2 | g2
      · rw [hV']; exact .inl (hTl x g1 (by have := hbd.lt x g2; omega))
      · exact g2
    refine ⟨V', ⟨fun x hx => hVl x (by rw [hV'] at hx; exact hx), fun x hx => by rw [hV']; exact .inl (h2 x hx), bsf, lvi', ⟨fun x hx => ?_, by rw [hlvi']; exact h3.vol, by rw [hlvi']; exact h3.fix, by rw [hlvi']; exact h3.B⟩, hlvV, fun b k x hk hb => ?_, k1, k2, ?_⟩, fun x hx => by rw [hV']; exact .inl hx, fun x hx => by rw [hV'] at hx; exact hx.imp id (fun h => h.1), turn⟩
    · rw [hlvi']
      exact ⟨haf x ((hacc x).2 (.inl (h3.lv x hx))), .inl (hbd.lv x hx), (hlv1 x hx).2⟩
    · rcases Nat.lt_or_ge x W.heap.size with hs | hs
      · exact .inr (by rw [hV']; exact .inl (hown b k x hk hb hs))
      · exact .inr (by rw [hV']; exact .inr ⟨hs, (mf.rngO b x hb).2⟩)
    · exact h8.cutTrans ⟨xf.hbs, hlv2, hhp, hWW⟩
  rw [← hre]
  obtain ⟨V', k1, k2, k3, k4⟩ := key
  have hfin : (fun e W' => e = Ending.returned (.bool (isN r.1)) ∧ ∃ V', CInv n0 lv1 w0 bs1 L1 W1 Bd l KL sl tm.toList m' (.loop re) V' W' ∧ (∀ x, V x → V' x) ∧ (∀ x, V' x → V x ∨ W.heap.size ≤ x) ∧ Turn V W W') (.returned (.bool (jumpOf r.1).isNone)) (W3.putObj l (.loop re)) :=
    ⟨by rw [jumpOf_none], V', k1, k2, k3, k4⟩
  rw [hnorm] at hend hfin ⊢
  exact ⟨_, _, hend, hfin⟩
end
end Go.RX

/- The rule of a loop over a function: all rounds. -/
set_option linter.unusedVariables false
set_option linter.unusedSimpArgs false
namespace Go.RX
open Go Go.RowKit

theorem enter_loop {P : Program} {w : World} {ro : Option Nat} (h : ∀ l0, ro = some l0 → ∃ r, w.heap[l0]? = some (.loop r)) (fn : FuncId) (tm : Array Value) (ps : Array Tmp) (assign body : Code) :
    ∃ l mk W1 df, (Instr.enterLoop fn tm ps assign body ro).run P w = .ok (l, mk) W1 ∧ Below w.heap.size w W1 ∧ w.heap.size ≤ l ∧ l < W1.heap.size ∧
      W1.heap[l]? = some (.loop { state := .ready, pending := none, fn, tmps := tm, params := ps, assign, body, defers := df }) ∧
      (mk = [] ∨ ∃ D, mk = [mark D] ∧ w.heap.size ≤ D ∧ D < W1.heap.size ∧ D ≠ l ∧ W1.heap[D]? = some (.deferred (some []))) := by
  cases ro with
  | none =>
    refine ⟨w.heap.size + 1, [mark w.heap.size], _, w.heap.size, run_enterLoop_outer fn tm ps assign body, ((Below.refl _ w).alloc (Nat.le_refl _) _).alloc (by simp) _, by omega, by simp, ?_, .inr ⟨w.heap.size, rfl, Nat.le_refl _, by simp; omega, by omega, ?_⟩⟩
    · have := World.alloc_heap_new (w.alloc (.deferred (some []))) (.loop { state := .ready, pending := none, fn, tmps := tm, params := ps, assign, body, defers := w.heap.size })
      rwa [World.size_alloc] at this
    · exact (Below.heap_alloc _ _ _ (by simp)).trans (World.alloc_heap_new w _)
  | some l0 =>
    obtain ⟨r, hr⟩ := h l0 rfl
    exact ⟨w.heap.size, [], _, r.defers, run_enterLoop_inner hr fn tm ps assign body, (Below.refl _ w).alloc (Nat.le_refl _) _, Nat.le_refl _, by simp, World.alloc_heap_new w _, .inl rfl⟩

theorem CInv.fin {n0 : Nat} {lv1 : Am} {w0 : World} {bs1 : Bs} {L1 : Nat → Prop} {W1 : World} {Bd : Nat → Prop} {l : Nat} {KL : Nat → Prop} {sl : List SV} {tmps : List Value} {m : Mem} {o : Obj} {V : Nat → Prop} {W : World}
    (h : CInv n0 lv1 w0 bs1 L1 W1 Bd l KL sl tmps m o V W) (hw : w0.heap.size ≤ l) (hL1 : L1 l) (hlv1 : ∀ x, lv1 x → Bd x ∧ x ≠ l) (hf1 : ∀ x o, lv1.fix x = some o → lv1 x) (o' : Obj) :
    ∃ bs lvi, Grow lv1 lvi ∧ MInv lvi w0 bs (· < m.length) m.fn (W.putObj l o') ∧ RepL bs (live lvi bs m.fn) (W.putObj l o') sl tmps ∧ Ext (cut n0 bs1) L1 W1 bs (live lvi bs m.fn) (W.putObj l o') := by
  obtain ⟨h1, h2, bs, lvi, h3, h4, h5, h6, h7, h8⟩ := h
  obtain ⟨k1, k2⟩ := h6.refix amT_fix_l hw o'
  obtain ⟨g1, g2⟩ := k1.less (a' := lvi) (fun x hx => .inl hx) rfl rfl (fun x o'' hx => by
      have hx1 : lv1 x := hf1 x o'' (by rw [← h3.fix]; exact hx)
      obtain ⟨g1, g2⟩ := hlv1 x hx1
      refine ⟨h3.lv x hx1, ?_⟩
      rw [Am.refix_o g2, amT_fix_o g2 (fun h => h.1 g1)]; exact hx)
    (fun x hx hn => by
      have hne : x ≠ l := fun e => by rw [e, Am.refix_l] at hn; cases hn
      rw [Am.refix_o hne] at hn
      have hTx : ¬ (¬ Bd x ∧ x < W.heap.size ∧ ¬ V x) := fun h => by
        rw [amT_fix_T hne h] at hn
        obtain ⟨o', ho'⟩ := heap_some h.2.1
        rw [ho'] at hn; cases hn
      rw [amT_fix_o hne hTx] at hn
      refine ⟨?_, hn⟩
      rcases hx with ha | ha | ha
      · exact ha
      · exact absurd ha hTx
      · exact absurd ha hne)
  refine ⟨bs, lvi, h3, g1, g2 _ _ (k2 _ _ h7), ?_⟩
  have := h8.putObj (.inl hL1) o'
  exact ⟨this.hbs, fun x hx hl => this.hlv x hx (hl.imp (fun h => .inl h) id), this.heap, this.size⟩

set_option maxHeartbeats 1000000 in
theorem range_rule {E : Env} {L : Loops} (hm : E.P.follows .mixedOrders = true) (hE : EnvOK E) {g : Operand} {ps : Array Tmp} {assign body : Code} (hLa : LoopsOK E.P L assign) (hLb : LoopsOK E.P L body)
    {n0 n : Nat} {el : Nat → List Value} {sl : List SV} {M : Nat → Mem} {Pre : Nat → Prop} {Z : Ex × St → Prop} (size : ∀ i, i < n → (el i).length = ps.size) (len : ∀ i, n0 ≤ (M i).length) (pre0 : Pre 0)
    (rows : ∀ i, i < n → hasT (el i) = true → noRowM (M (i + 1)) = true ∧ (Pre i → (sxR E L (M i).length ps assign body (el i) (sl, M i)).All fun r => r.1 = .normal))
    (round : ∀ i, i < n → Pre i → (sxR E L (M i).length ps assign body (el i) (sl, M i)).All fun r => match r.1 with
      | .normal => Pre (i + 1) ∧ Weak n0 (sl, r.2.2) (sl, M (i + 1))
      | e => Z (e, (sl, r.2.2)))
    (done : Pre n → Z (.normal, (sl, M n)))
    {A : Anchor} {lv0 lv1 : Am} {bs : Bs} {w0 : World} {a : Act} {w : World} {gf : FuncId} {lb : List Value} {O : Nat → Prop} (hA : A.n ≤ n0) (hg : a.eval g = .func (.func gf) #[] lb.toArray) (hb : bodyOk E.P gf = true) (hgr : Grow lv0 lv1)
    (hO : ∀ x, O x → x < w.heap.size ∧ ¬ lv1.B x ∧ ¬ lv1 x) (hF : ∀ x o, lv1.fix x = some o → lv1 x)
    (hi : MInv (amO lv1 O w) w0 bs (· < (M 0).length) (M 0).fn w) (hf : FInv bs (live (amO lv1 O w) bs (M 0).fn) w sl a) (hx : Ext A.bs A.lv A.w bs (live (amO lv1 O w) bs (M 0).fn) w) (hs : Side A lv0 (live (amO lv1 O w) bs (M 0).fn) w a.defers)
    (hseq : ∀ (W : World) (K : Cons), Below w.heap.size w W → ConsOK K → K.P = E.P → K.n = n → K.el = el → (∀ x, K.B x ↔ x < W.heap.size ∧ ¬ O x) → (∀ x, K.lv x → x < W.heap.size ∧ ¬ O x ∧ (x < w.heap.size → live lv1 bs (M 0).fn x)) → K.C 0 K.lv W →
      Calls E.P gf (.func (.yield K.l) #[] #[] :: lb).toArray W fun e W' => (∃ v, e = .returned v) ∧ ∃ go i V, SeqAt K go i ∧ (go = true → i = K.n) ∧ K.C i V W' ∧ Turn (fun x => K.lv x ∨ O x) W W') :
    (Code.rangeFunc g ps assign body).wpIn (Fr A.ro) 3 E.P (fun e a' w' => ∃ o, Z o ∧ e = o.1.out ∧ SInv A lv0 w0 (· < o.2.2.length) o.2 a' w') a w := by
  refine wpIn_rangeFunc ?_
  intro fn _
  obtain ⟨l, mk, W1, df, e1, e2, e3, e4, e5, e6⟩ := enter_loop (P := E.P) (ro := A.ro) (w := w) (fun l0 h0 => by
    obtain ⟨r, hr⟩ := hs.2 l0 h0
    have hr' : lv1.fix l0 = some (.loop r) := by rw [hgr.fix]; exact hr
    have hno : ¬ O l0 := fun h => (hO l0 h).2.2 (hF l0 _ hr')
    exact ⟨r, (hi.fixed l0 _ (by rw [amO_fixn hno]; exact hr')).2⟩) fn a.tmps ps assign body
  obtain ⟨rec, hrec⟩ : ∃ rec : LoopState → Option Code → Loop, rec = fun st pe => { state := st, pending := pe, fn, tmps := a.tmps, params := ps, assign, body, defers := df } := ⟨_, rfl⟩
  have hL : W1.heap[l]? = some (.loop (rec .ready none)) := by rw [hrec]; exact e5
  have hww : w0.heap.size ≤ w.heap.size := hi.below.size
  -- the rounds
  have ch : ∀ i, ∃ r : Ex × St, i < n → Pre i → (sxR E L (M i).length ps assign body (el i) (sl, M i)).Is r ∧ (match r.1 with
      | .normal => Pre (i + 1) ∧ Weak n0 (sl, r.2.2) (sl, M (i + 1))
      | e => Z (e, (sl, r.2.2))) := fun i => by
    by_cases h : i < n ∧ Pre i
    · obtain ⟨r, h1, h2⟩ := T.is_of_all (round i h.1 h.2)
      exact ⟨r, fun _ _ => ⟨h1, h2⟩⟩
    · exact ⟨(.normal, (sl, M 0)), fun h1 h2 => absurd ⟨h1, h2⟩ h⟩
  obtain ⟨r, hr⟩ := Classical.axiomOfChoice ch
  obtain ⟨stM, hM0, hM1⟩ : ∃ stM : Nat → Mem, stM 0 = M 0 ∧ ∀ i, stM (i + 1) = if isN (r i).1 then M (i + 1) else (r i).2.2 := ⟨fun i => match i with | 0 => M 0 | i + 1 => if isN (r i).1 then M (i + 1) else (r i).2.2, rfl, fun _ => rfl⟩
  obtain ⟨jmp, hj0, hj1⟩ : ∃ jmp : Nat → Option Code, jmp 0 = none ∧ ∀ i, jmp (i + 1) = jumpOf (r i).1 := ⟨fun i => match i with | 0 => none | i + 1 => jumpOf (r i).1, rfl, fun _ => rfl⟩
  have before : ∀ i, i ≤ n → (∀ j, j < i → isN (r j).1 = true) → Pre i ∧ stM i = M i ∧ jmp i = none := by
    intro i
    induction i with
    | zero => intro _ _; exact ⟨pre0, hM0, hj0⟩
    | succ i ih =>
      intro hin hall
      have hn := hall i (Nat.lt_succ_self _)
      obtain ⟨p1, p2⟩ := hr i (by omega) (ih (by omega) (fun j hj => hall j (by omega))).1
      rw [hM1, hj1, hn]
      cases hex : (r i).1 with
      | normal => rw [hex] at p2; exact ⟨p2.1, rfl, rfl⟩
      | exit id => rw [hex] at hn; cases hn
      | ret => rw [hex] at hn; cases hn
  -- the consumer
  obtain ⟨Bd, hBd⟩ : ∃ Bd : Nat → Prop, Bd = fun x => x < W1.heap.size ∧ ¬ O x := ⟨_, rfl⟩
  have hOW : ∀ x, O x → x < W1.heap.size := fun x hx => Nat.lt_of_lt_of_le (hO x hx).1 e2.size
  have hOl : ∀ x, O x → ¬ live lv1 bs (M 0).fn x := fun x hx h => by
    rcases h with h | ⟨b, k, h1, h2⟩
    · exact (hO x hx).2.2 h
    · exact hi.sepO b k x h1 h2 (.inr hx)
  have hOne : ∀ x, O x → x ≠ l := fun x hx e => by have := (hO x hx).1; omega
  obtain ⟨am1, ham1⟩ : ∃ am1, am1 = amT lv1 Bd (fun x => live lv1 bs (M 0).fn x ∨ x = l) l (.loop (rec .ready none)) W1 := ⟨_, rfl⟩
  obtain ⟨L1, hL1⟩ : ∃ L1, L1 = live am1 bs (M 0).fn := ⟨_, rfl⟩
  have hlv1 : ∀ x, lv1 x → x < W1.heap.size ∧ x ≠ l := fun x hx => ⟨Nat.lt_of_lt_of_le (hi.amb x (.inl hx)) e2.size, fun e => by have := hi.amb x (.inl hx); omega⟩
  have hlvB : ∀ x, lv1 x → Bd x := fun x hx => by rw [hBd]; exact ⟨(hlv1 x hx).1, fun h => (hO x h).2.2 hx⟩
  have hReg : ∀ x, O x → ¬ Bd x ∧ x < W1.heap.size ∧ ¬ (live lv1 bs (M 0).fn x ∨ x = l) := fun x hx => ⟨fun h => by rw [hBd] at h; exact h.2 hx, hOW x hx, fun h => h.elim (hOl x hx) (hOne x hx)⟩
  have hReg' : ∀ x, (¬ Bd x ∧ x < W1.heap.size ∧ ¬ (live lv1 bs (M 0).fn x ∨ x = l)) → O x := fun x hx => Classical.byContradiction fun hn => hx.1 (by rw [hBd]; exact ⟨hx.2.1, hn⟩)
  have ham : ∀ x, am1 x ↔ amO lv1 O w x ∨ x = l := fun x => by
    rw [ham1]
    constructor
    · rintro (h | h | h)
      · exact .inl (.inl h)
      · exact .inl (.inr (hReg' x h))
      · exact .inr h
    · rintro ((h | h) | h)
      · exact .inl h
      · exact .inr (.inl (hReg x h))
      · exact .inr (.inr h)
  have hL1i : ∀ x, L1 x ↔ live (amO lv1 O w) bs (M 0).fn x ∨ x = l := fun x => by
    rw [hL1]
    constructor
    · rintro (h | h)
      · exact ((ham x).1 h).imp .inl id
      · exact .inl (.inr h)
    · rintro ((h | h) | h)
      · exact .inl ((ham x).2 (.inl h))
      · exact .inr h
      · exact .inl ((ham x).2 (.inr h))
  have hbd : BdOK lv1 W1 Bd l L1 := {
    lt := fun x hx => by rw [hBd] at hx; exact hx.1
    bb := fun x hx hB => by
      by_cases ho : O x
      · exact (hO x ho).2.1 hB
      · exact hx (by rw [hBd]; exact ⟨Nat.lt_of_lt_of_le (hi.base.1 x hB) (Nat.le_trans hww e2.size), ho⟩)
    at_l := by rw [hBd]; exact ⟨e4, fun h => hOne l h rfl⟩
    out := fun x hx hn => by rw [hBd]; exact ⟨hx, fun ho => hn ((hL1i x).2 (.inl (.inl (.inr ho))))⟩
    lv := hlvB }
  have hL1B : ∀ x, Bd x → L1 x → live lv1 bs (M 0).fn x ∨ x = l := fun x hB hx => by
    rcases (hL1i x).1 hx with ((h | h) | h) | h
    · exact .inl (.inl h)
    · rw [hBd] at hB; exact absurd h hB.2
    · exact .inl (.inr h)
    · exact .inr h
  obtain ⟨K, hK⟩ : ∃ K : Cons, K = { P := E.P, n := n, el := el, ans := fun i => isN (r i).1, l := l, B := Bd, lv := (fun x => live lv1 bs (M 0).fn x ∨ x = l), C := fun i V W => CInv n0 lv1 w0 bs L1 W1 Bd l (fun x => live lv1 bs (M 0).fn x ∨ x = l) sl a.tmps.toList (stM i) (.loop (rec (if (jmp i).isNone then .ready else .done) (jmp i))) V W } := ⟨_, rfl⟩
  have hKok : ConsOK K := by
    rw [hK]
    refine ⟨fun i V W W' h ht => CInv.stab h e4 hbd ht, fun i V W h => h.vlt, fun i V W vs hin hall h hel => ?_⟩
    obtain ⟨b1, b2, b3⟩ := before i (Nat.le_of_lt hin) hall
    obtain ⟨p1, p2⟩ := hr i hin b1
    simp only [b2, b3] at h
    have hwk : match (r i).1 with | .normal => Weak n0 (sl, (r i).2.2) (sl, stM (i + 1)) | _ => stM (i + 1) = (r i).2.2 := by
      rw [hM1]
      cases hex : (r i).1 with
      | normal => rw [hex] at p2; exact p2.2
      | exit id => rfl
      | ret => rfl
    cases hht : hasT (el i)
    · obtain rfl := (elsRep_self _ _ hht).1 hel
      have := CInv.round hm hE hLa hLb hrec p1 hwk (len i) (size i hin) hht h e4 hbd (by omega) (.inr rfl) hL1B hlv1
      simp only [hj1]
      exact this
    · obtain ⟨w1, w2⟩ := rows i hin hht
      obtain ⟨r', u1, u2⟩ := T.is_of_all (w2 b1)
      obtain rfl := T.is_unique u1 p1
      have hwk' : Weak n0 (sl, (r i).2.2) (sl, stM (i + 1)) := by rw [u2] at hwk; exact hwk
      have hnr : noRowM (stM (i + 1)) = true := by
        rw [hM1, u2]; exact w1
      have := CInv.roundT hm hE hLa hLb hrec p1 u2 hwk' hnr (len i) (by rw [hel.length]; exact size i hin) hel hF h e4 hbd (by omega) (.inr rfl) hL1B hlv1
      simp only [hj1]
      exact this
  have hC0 : K.C 0 K.lv W1 := by
    rw [hK]
    simp only [hM0, hj0]
    have hsh := hi.shift (a' := am1) (X := fun _ => False) (Turn.of_below e2) (fun x hx => hx.elim) (fun x hx => hx.elim) (fun x hx => hx.elim)
      (fun x hx => (ham x).2 (.inl hx)) (fun x hxs hx => ((ham x).1 hx).elim id (fun e => by omega)) (fun x hx => ((ham x).1 hx).elim (fun h => h.elim (fun h => (hlv1 x h).1) (hOW x)) (fun e => by omega)) (by rw [ham1]; rfl) (by rw [ham1]; rfl)
      (fun x o hx => by
        by_cases hne : x = l
        · rw [hne, ham1, amT_fix_l] at hx; cases hx
          rw [hne]; exact ⟨(ham l).2 (.inr rfl), hL⟩
        · by_cases ho : O x
          · rw [ham1, amT_fix_T hne (hReg x ho)] at hx
            exact ⟨(ham x).2 (.inl (.inr ho)), hx⟩
          · rw [ham1, amT_fix_o hne (fun h => ho (hReg' x h))] at hx
            have := hi.fixed x o (by rw [amO_fixn ho]; exact hx)
            exact ⟨(ham x).2 (.inl this.1), (e2.block x (hi.amb x this.1)).trans this.2⟩)
      (fun x hx hn => by
        by_cases ho : O x
        · rw [amO_fix ho] at hn
          obtain ⟨o', ho'⟩ := heap_some (hO x ho).1
          rw [ho'] at hn; cases hn
        · rw [amO_fixn ho] at hn
          have hne : x ≠ l := (hlv1 x (hx.resolve_right ho)).2
          rw [ham1, amT_fix_o hne (fun h => ho (hReg' x h))]; exact hn)
    obtain ⟨g1, g2⟩ := hsh
    refine ⟨fun x hx => ?_, fun x hx => hx, bs, lv1, .refl _, fun x hx => .inl (.inl hx), fun b k x hk hbx => .inr (.inl (.inr ⟨b, k, hk, hbx⟩)), ?_, ?_, ?_⟩
    · rcases hx with hx | hx
      · exact ⟨Nat.lt_of_lt_of_le (live_lt hi (hx.imp .inl id)) e2.size, .inl (.inl hx)⟩
      · exact ⟨by omega, .inl (.inr hx)⟩
    · rw [ham1] at g1; exact g1
    · have := g2 _ _ hf.rep; rw [ham1] at this; exact this
    · rw [hL1, ham1]; exact (Ext.refl _ _ _).cut
  have hcall := hseq W1 K e2 hKok (by rw [hK]) (by rw [hK]) (by rw [hK]) (fun x => by rw [hK, hBd]) (fun x hx => by
    rw [hK] at hx
    rcases hx with hx | hx
    · exact ⟨Nat.lt_of_lt_of_le (live_lt hi (hx.imp .inl id)) e2.size, fun ho => hOl x ho hx, fun _ => hx⟩
    · exact ⟨by omega, fun ho => hOne x ho hx, fun h => by omega⟩) hC0
  refine ⟨l, mk, W1, { target := .fn (.func gf) lb.toArray, args := #[.func (.yield l) #[] #[]] }, W1, gf, (.func (.yield l) #[] #[] :: lb).toArray, W1, e1, ?_, fun _ _ => trivial, ?_, fun h => absurd h (by simp [Fr, Fence.wide]), callsIn_fr.2 ?_⟩
  · simp only [resolve, Deferred.ofValue, hg, Sem.run_bind, Sem.run_pure, Result.andThen_ok]
    simp [Act.eval]
  · simp only [invoke]
    rw [run_callFunc hb]
    congr 2
    apply Array.ext'
    simp
  have hKl : K.l = l := by rw [hK]
  rw [hKl] at hcall
  refine hcall.mono ?_
  rintro e W2 ⟨⟨v, rfl⟩, go, i, V, hat, hgo, hc, ht⟩
  rw [hK] at hc hat hgo
  -- what holds behind the loop
  have hend : ∀ (m : Mem) (j : Option Code) (st : LoopState), CInv n0 lv1 w0 bs L1 W1 Bd l (fun x => live lv1 bs (M 0).fn x ∨ x = l) sl a.tmps.toList m (.loop (rec st j)) V W2 → st ≠ .busy →
      ∃ w4, (Instr.endLoop l).run E.P W2 = .ok j w4 ∧ SInv A lv0 w0 (· < m.length) (sl, m) { a with defers := mk ++ a.defers } w4 := by
    intro m j st hcc hst
    obtain ⟨bs2, lvi2, _, _, _, hm2, _, hx2⟩ := hcc.ex
    have hl2 := (hm2.fixed l _ amT_fix_l).2
    have hrun := run_endLoop (P := E.P) hl2 (by rw [hrec]; exact hst)
    obtain ⟨bs3, lv3, k1, k2, k3, k4⟩ := hcc.fin (by omega) ((hL1i l).2 (.inr rfl)) (fun x hx => ⟨hlvB x hx, (hlv1 x hx).2⟩) hF (.loop { rec st j with state := .exhausted })
    refine ⟨W2.putObj l (.loop { rec st j with state := .exhausted }), ?_, bs3, lv3, hgr.trans k1, k2, ⟨k3⟩, ?_, ?_⟩
    · rw [hrun, hrec]
    · refine ⟨fun b x hbx => ?_, fun x hxs hlx => ?_, fun x hxs hlx => ?_, Nat.le_trans hx.size (Nat.le_trans e2.size k4.size)⟩
      · have hbn : b < n0 := by
          rcases Nat.lt_or_ge b n0 with h | h
          · exact h
          · rw [A.dom b (by omega)] at hbx; cases hbx
        exact k4.hbs b x (by rw [cut_lt hbn]; exact hx.hbs b x hbx)
      · have hxw : x < w.heap.size := Nat.lt_of_lt_of_le hxs hx.size
        exact hx.hlv x hxs (((hL1i x).1 (k4.hlv x (Nat.lt_of_lt_of_le hxw e2.size) hlx)).elim id (fun e => by omega))
      · have hxw : x < w.heap.size := Nat.lt_of_lt_of_le hxs hx.size
        refine (k4.heap x (Nat.lt_of_lt_of_le hxw e2.size) fun h => ?_).trans ((e2.block x hxw).trans (hx.heap x hxs hlx))
        rcases (hL1i x).1 h with h | h
        · exact hlx (hx.hlv x hxs h)
        · omega
    · refine ⟨?_, hs.2⟩
      have old : ∀ d ∈ a.defers, ∃ x, d = mark x ∧ x < w.heap.size ∧ A.w.heap.size ≤ x ∧ x < (W2.putObj l (.loop { rec st j with state := .exhausted })).heap.size ∧ ¬ live lv3 bs3 m.fn x ∧ (W2.putObj l (.loop { rec st j with state := .exhausted })).heap[x]? = some (.deferred (some [])) := fun d hd => by
        obtain ⟨x, g1, g2, g3, g4, g5⟩ := hs.1.2 d hd
        have hx1 : x < W1.heap.size := Nat.lt_of_lt_of_le g3 e2.size
        have hn : ¬ L1 x := fun h => ((hL1i x).1 h).elim g4 (fun e => by omega)
        exact ⟨x, g1, g3, g2, Nat.lt_of_lt_of_le hx1 k4.size, fun h => hn (k4.hlv x hx1 h), (k4.heap x hx1 hn).trans ((e2.block x g3).trans g5)⟩
      rcases e6 with rfl | ⟨D, rfl, d1, d2, d3, d4⟩
      · exact ⟨hs.1.1, fun d hd => by obtain ⟨x, g1, _, g2⟩ := old d hd; exact ⟨x, g1, g2⟩⟩
      · refine ⟨List.nodup_cons.2 ⟨fun hd => ?_, hs.1.1⟩, fun d hd => ?_⟩
        · obtain ⟨x, g1, g2, _⟩ := old _ hd
          have : D = x := by simpa [mark] using g1
          omega
        · rcases List.mem_cons.1 hd with rfl | hd
          · have hn : ¬ L1 D := fun h => ((hL1i D).1 h).elim (fun h => by have := live_lt hi h; omega) d3
            exact ⟨D, rfl, by have := hx.size; omega, Nat.lt_of_lt_of_le d2 k4.size, fun h => hn (k4.hlv D d2 h), (k4.heap D d2 hn).trans d4⟩
          · obtain ⟨x, g1, _, g2⟩ := old d hd; exact ⟨x, g1, g2⟩
  cases go with
  | true =>
    have hin : i = n := hgo rfl
    obtain ⟨b1, b2, b3⟩ := before i (by omega) hat.2
    simp only [b2, b3] at hc
    obtain ⟨w4, h1, h2⟩ := hend _ _ _ hc (by simp)
    subst hin
    exact ⟨none, w4, h1, _, done b1, rfl, h2⟩
  | false =>
    obtain ⟨j, q1, rfl, q2, q3⟩ := hat
    obtain ⟨b1, b2, b3⟩ := before j (Nat.le_of_lt q1) q3
    obtain ⟨p1, p2⟩ := hr j q1 b1
    simp only [hM1, hj1, q2] at hc
    cases hex : (r j).1 with
    | normal => simp only [hex] at q2; cases q2
    | exit id =>
      rw [hex] at p2
      simp only [hex] at hc
      obtain ⟨w4, h1, h2⟩ := hend _ _ _ hc (by simp [jumpOf])
      exact ⟨some (.exit id), w4, h1, wpIn_exit ⟨_, p2, rfl, h2⟩⟩
    | ret =>
      rw [hex] at p2
      simp only [hex] at hc
      obtain ⟨w4, h1, h2⟩ := hend _ _ _ hc (by simp [jumpOf])
      exact ⟨some .ret, w4, h1, wpIn_ret ⟨_, p2, rfl, h2⟩⟩
end Go.RX
namespace Go.RX
open Go Go.RowKit

/-- Surroundings that have grown from such, with blocks besides. -/
theorem amO_grow {a a2 : Am} {O : Nat → Prop} {w : World} (h : Grow (amO a O w) a2) (hO : ∀ x, O x → ¬ a x) : ∃ a', Grow a a' ∧ a2 = amO a' O w ∧ ∀ x, O x → ¬ a' x := by
  refine ⟨{ a2 with lv := fun x => a2 x ∧ ¬ O x, fix := a.fix }, ⟨fun x hx => ⟨h.lv x (.inl hx), fun ho => hO x ho hx⟩, h.vol, rfl, h.B⟩, ?_, fun x hx hh => hh.2 hx⟩
  have e1 : a2.lv = fun x => (a2 x ∧ ¬ O x) ∨ O x := funext fun x => propext ⟨fun hx => by
    by_cases ho : O x
    · exact .inr ho
    · exact .inl ⟨hx, ho⟩, fun hx => hx.elim (fun h => h.1) fun ho => h.lv x (.inr ho)⟩
  have e2 := h.fix
  obtain ⟨l2, v2, f2, b2⟩ := a2
  simp only [amO] at e1 e2 ⊢
  rw [← e1, e2]
/-- A summary of a loop over a function, by a few slots. -/
noncomputable def rfew (N : Nat) (keep : List Nat) (g : Nat → Nat → (Nat → List Value) → Few → T (Ex × Few)) : Nat → Nat → (Nat → List Value) → St → T (Ex × St) := fun n0 n el σ =>
  (proj N keep (.normal, σ)).bind fun s => (g n0 n el s.2).bind fun r => .ret (r.1, (mkS N keep r.2.1, r.2.2))

theorem few_mkS {N : Nat} : ∀ (keep : List Nat) (vs : List SV), nodupB keep = true → (∀ k ∈ keep, k < N) → vs.length = keep.length → fewS keep (mkS N keep vs) = vs := by
  intro keep vs hn hk hl
  apply List.ext_getElem?
  intro i
  unfold fewS
  rw [List.getElem?_map]
  by_cases hi : i < keep.length
  · have h1 : keep[i]? = some keep[i] := List.getElem?_eq_getElem hi
    have h2 : vs[i]? = some (vs[i]'(by omega)) := List.getElem?_eq_getElem (by omega)
    rw [h1, h2, Option.map_some]
    congr 1
    have hlt : keep[i] < N := hk _ (List.getElem_mem hi)
    have e : (mkS N keep vs).getD keep[i] .any = (List.lookup keep[i] (keep.zip vs)).getD .any := by simp [mkS, hlt]
    rw [e]
    have : ∀ (keep : List Nat) (vs : List SV) (i : Nat) (hi : i < keep.length) (hv : i < vs.length), nodupB keep = true → List.lookup keep[i] (keep.zip vs) = some vs[i] := by
      intro keep
      induction keep with
      | nil => intro vs i hi; simp at hi
      | cons k ks ih =>
        intro vs i hi hv hn
        cases vs with
        | nil => simp at hv
        | cons v vs =>
          simp only [nodupB, Bool.and_eq_true, Bool.not_eq_true', List.any_eq_false] at hn
          rw [List.zip_cons_cons, List.lookup_cons]
          cases i with
          | zero => simp
          | succ i =>
            have hi' : i < ks.length := by simpa using hi
            have hne : (((k :: ks)[i + 1] : Nat) == k) = false := by
              simp only [List.getElem_cons_succ]
              have := hn.1 ks[i] (List.getElem_mem hi')
              cases hb : (ks[i] == k)
              · rfl
              · have e : ks[i] = k := by simpa using hb
                rw [e] at this
                exact absurd (by simp) this
            rw [hne]
            simpa using ih vs i hi' (by simpa using hv) hn.2
    rw [this keep vs i hi (by omega) hn]; rfl
  · rw [List.getElem?_eq_none (by omega), List.getElem?_eq_none (by omega)]; rfl

/-- Where slices are handed over: no round leaves the loop, and no row of others is kept. -/
theorem range_fewT {E : Env} {L : Loops} (hm : E.P.follows .mixedOrders = true) (hE : EnvOK E) {c : Code} {g0 : Operand} {ps : Array Tmp} {assign body : Code} (hc : c = .rangeFunc g0 ps assign body) (hLa : LoopsOK E.P L assign) (hLb : LoopsOK E.P L body) (N : Nat) (keep : List Nat)
    (hkeep : (nodupB keep && keep.all fun k => Nat.blt k N) = true) {X : Type} (g : Nat → Nat → (Nat → List Value) → Few → T (Ex × Few)) (V : Nat → X → List SV) (M : Nat → X → Nat → Mem) (cnt : X → Nat) (els : X → Nat → List Value) (Φ : Nat → X → Prop) (Pre : Nat → X → Nat → Prop) (Z : Nat → X → Ex × Few → Prop)
    (vlen : ∀ n0 x, (V n0 x).length = keep.length)
    (enter : ∀ n0 n el s r, (g n0 n el s).Is r → ∃ x, Φ n0 x ∧ cnt x = n ∧ els x = el ∧ Wk N keep n0 s (V n0 x, M n0 x 0) ∧ Pre n0 x 0 ∧ ∀ o, Z n0 x o → o = r)
    (size : ∀ n0 x i, Φ n0 x → i < cnt x → (els x i).length = ps.size) (len : ∀ n0 x i, Φ n0 x → n0 ≤ (M n0 x i).length)
    (round : ∀ n0 x i, Φ n0 x → i < cnt x → Pre n0 x i → ((sxR E L (M n0 x i).length ps assign body (els x i) (mkS N keep (V n0 x), M n0 x i)).bind fun r => .ret (r.1, r.2.2)).All fun r => r.1 = .normal ∧ Pre n0 x (i + 1) ∧ Wk N keep n0 (V n0 x, r.2) (V n0 x, M n0 x (i + 1)))
    (done : ∀ n0 x, Φ n0 x → Pre n0 x (cnt x) → ∃ s, Z n0 x (.normal, s) ∧ Wk N keep n0 (V n0 x, M n0 x (cnt x)) s) (noR : ∀ n0 x i, Φ n0 x → i < cnt x → noRowM (M n0 x (i + 1)) = true) : RangeC E.P c (rfew N keep g) := by
  subst hc
  simp only [Bool.and_eq_true, List.all_eq_true, Nat.blt_eq] at hkeep
  have hfew : ∀ n0 x, fewS keep (mkS N keep (V n0 x)) = V n0 x := fun n0 x => few_mkS keep _ hkeep.1 hkeep.2 (vlen n0 x)
  have hN : ∀ n0 x, (mkS N keep (V n0 x)).length = N := fun n0 x => by simp [mkS]
  intro n0 n el σ r hr A lv0 lv1 bs w0 a w gf lb O hA hg hb hgr hO hF hi hf hx hs hseq
  obtain ⟨s, h1, h2⟩ := T.is_bind hr
  obtain ⟨r', h3, h4⟩ := T.is_bind h2
  obtain rfl : _ = r := h4
  unfold proj at h1
  cases hbN : Nat.beq σ.1.length N
  · rw [hbN] at h1; exact h1.elim
  rw [hbN] at h1
  obtain rfl : _ = s := h1
  obtain ⟨x, k1, rfl, rfl, k2, k3, k4⟩ := enter n0 n el _ r' h3
  -- the entry, made less
  obtain ⟨bs', lv2, q1, q2, q3, q4, q5⟩ := k2 σ.1 (Nat.eq_of_beq_eq_true hbN) rfl ⟨cut n0 bs, live (amO lv1 O w) bs σ.2.fn, w, n0, cut_dom n0 bs, none⟩ (amO lv1 O w) w0 { a with defers := [] } w (Nat.le_refl _) ⟨bs, amO lv1 O w, .refl _, hi, ⟨hf.rep⟩, (Ext.refl _ _ _).cut, side_nil⟩
  obtain ⟨lv3, q6, rfl, q7⟩ := amO_grow q1 (fun x hx => (hO x hx).2.2)
  have hx' : Ext A.bs A.lv A.w bs' (live (amO lv3 O w) bs' (M n0 x 0).fn) w :=
    ⟨fun b y hby => by
      have hbn : b < n0 := by
        rcases Nat.lt_or_ge b n0 with h | h
        · exact h
        · rw [A.dom b (by omega)] at hby; cases hby
      exact q4.hbs b y ((cut_lt (bs := bs) hbn).trans (hx.hbs b y hby)), fun y hy hl => hx.hlv y hy (q4.hlv y (Nat.lt_of_lt_of_le hy hx.size) hl), hx.heap, hx.size⟩
  have hlive : ∀ y, live (amO lv3 O w) bs' (M n0 x 0).fn y → live (amO lv1 O w) bs σ.2.fn y := fun y hl => q4.hlv y (live_lt q2 hl) hl
  have aux : ∀ (t : T (Ex × St)) (K : Ex × Mem → Prop), (t.bind fun r => .ret (r.1, r.2.2)).All K → t.All fun r => K (r.1, r.2.2) := by
    intro t K
    induction t with
    | ret a => exact fun h => h
    | br c t e iht ihe => exact fun h => ⟨fun hc => iht (h.1 hc), fun hc => ihe (h.2 hc)⟩
    | ask p t ih => exact fun h => ⟨h.1, ih h.2⟩
    | stuck n => exact fun h => h
  refine wpIn_mono (range_rule hm hE hLa hLb (n0 := n0) (n := cnt x) (el := els x) (sl := mkS N keep (V n0 x)) (M := M n0 x) (Pre := Pre n0 x) (Z := fun o => ∃ s, Z n0 x (o.1, s) ∧ Weak n0 o.2 (mkS N keep s.1, s.2))
    (fun i hi => size n0 x i k1 hi) (fun i => len n0 x i k1) k3 (fun i hi _ => ⟨noR n0 x i k1 hi, fun hp => T.all_mono (fun r hk => hk.1) (aux _ _ (round n0 x i k1 hi hp))⟩) (fun i hi hp => ?_) (fun hp => ?_) hA hg hb (hgr.trans q6) (fun y hy => ⟨(hO y hy).1, by rw [q6.B]; exact (hO y hy).2.1, q7 y hy⟩) (fun y o hy => q6.lv y (hF y o (by rw [← q6.fix]; exact hy))) q2 ⟨q3.rep⟩ hx' (hs.weaken hlive) (fun W K c0 c1 c2 c3 c4 c5 c6 c7 => hseq W K c0 c1 c2 c3 c4 c5 (fun y hy => ⟨(c6 y hy).1, (c6 y hy).2.1, fun h => by
        rcases hlive y (((c6 y hy).2.2 h).imp .inl id) with (g | g) | g
        · exact .inl g
        · exact absurd g (c6 y hy).2.1
        · exact .inr g⟩) c7)) ?_
  · refine T.all_mono ?_ (aux _ _ (round n0 x i k1 hi hp))
    rintro ⟨ex, σ'⟩ ⟨hk0, hk⟩
    obtain rfl : ex = .normal := hk0
    exact ⟨hk.1, hk.2 _ (hN n0 x) (hfew n0 x)⟩
  · obtain ⟨s, z1, z2⟩ := done n0 x k1 hp
    exact ⟨s, z1, z2 _ (hN n0 x) (hfew n0 x)⟩
  · rintro e a' w' ⟨o, ⟨s, z1, z2⟩, rfl, hi'⟩
    have := k4 _ z1
    obtain rfl := this
    exact ⟨rfl, z2 A lv0 w0 a' w' hA hi'⟩
end Go.RX

/- The arguments of a law, read by the row's reader, as symbolic values: rows, structs, numbers of whatever shape. -/
set_option linter.unusedVariables false
set_option linter.unusedSimpArgs false
namespace Go.RX
open Go Go.RowKit

mutual
/-- Numbers lie in their range, lists are no longer than any slice. -/
def OkE : (s : Sh) → El s → Prop
  | .int k, d => (Lit.int k d).wf = true
  | .bool, _ => True
  | .str, d => ByteArray.size d ≤ maxLen
  | .sl ss, d => d.1 ≤ top ∧ ∀ i, i < d.1 → OkEs ss (d.2 i)
def OkEs : (ss : List Sh) → Els ss → Prop
  | [], _ => True
  | s :: ss, d => OkE s d.1 ∧ OkEs ss d.2
end
def appE : (a b : List Sh) → Els a → Els b → Els (a ++ b)
  | [], b, _, y => y
  | s :: a, b, x, y => (x.1, appE a b x.2 y)
theorem repC_app {lv : Nat → Prop} {w : World} {g : Nat → Option Value} : ∀ (a b : List Sh) (x : Els a) (y : Els b) (o : Nat), RepC lv w g a x o → RepC lv w g b y (o + a.length) → RepC lv w g (a ++ b) (appE a b x y) o
  | [], b, _, y, o, _, h => h
  | s :: a, b, x, y, o, ⟨h1, h2⟩, h => ⟨h1, repC_app a b x.2 y (o + 1) h2 (by rw [show o + 1 + a.length = o + (s :: a).length by simp; omega]; exact h)⟩
theorem okE_app : ∀ (a b : List Sh) (x : Els a) (y : Els b), OkEs a x → OkEs b y → OkEs (a ++ b) (appE a b x y)
  | [], b, _, y, _, h => h
  | s :: a, b, x, y, ⟨h1, h2⟩, h => ⟨h1, okE_app a b x.2 y h2 h⟩
theorem repC_shift {lv : Nat → Prop} {w : World} {g g' : Nat → Option Value} : ∀ (ss : List Sh) (d : Els ss) (o o' : Nat), (∀ j, j < ss.length → g' (o' + j) = g (o + j)) → RepC lv w g ss d o → RepC lv w g' ss d o'
  | [], _, _, _, _, _ => trivial
  | s :: ss, d, o, o', h, ⟨⟨u, h1, h2⟩, h3⟩ =>
    ⟨⟨u, by have := h 0 (by simp); simpa using this.trans h1, h2⟩, repC_shift ss d.2 (o + 1) (o' + 1) (fun j hj => by
      have := h (j + 1) (by simpa using hj)
      rwa [show o' + (j + 1) = o' + 1 + j by omega, show o + (j + 1) = o + 1 + j by omega] at this) h3⟩

/-- The cells of a type, each by its shape; of a struct: its fields one behind the other. -/
def shFs (P : Program) (sh : TypeId → Option (List Sh)) : Nat → List Field → Option (List Sh)
  | _, [] => some []
  | o, f :: fs =>
    match sh f.type with
    | some s => bif Nat.beq f.offset o && Nat.beq (P.cellsOf f.type) s.length then (shFs P sh (o + s.length) fs).map (s ++ ·) else none
    | none => none
def shT (P : Program) : Nat → TypeId → Option (List Sh)
  | 0, _ => none
  | d + 1, t =>
    match P.underlying t with
    | some (.int k) => some [.int k]
    | some .bool => some [.bool]
    | some .string => some [.str]
    | some (.slice e) => match shT P d e with
      | some ss => bif Nat.beq (P.cellsOf e) ss.length && Nat.blt 0 ss.length then some [.sl ss] else none
      | none => none
    | some (.struct fs) => match shFs P (shT P d) 0 fs.toList with
      | some ss => bif Nat.beq (P.cellsOf t) ss.length then some ss else none
      | none => none
    | _ => none

def noLv : Nat → Prop := fun _ => False
section
variable {H : Type} {enc : TypeId × Value → H} {P : Program} {w : World} {base : Nat} {spare : Nat → Bool} {held : Bool}

theorem shFs_rep (sh : TypeId → Option (List Sh)) (cs : List Value) (n : Nat)
    (one : ∀ t ss, sh t = some ss → ∀ cs x, DataW.trod enc P w base spare held n t cs = some x → cs.length = ss.length ∧ ∃ e : Els ss, RepC noLv w (fun o => cs[o]?) ss e 0 ∧ OkEs ss e) :
    ∀ (fs : List Field) (o : Nat) (ss : List Sh), shFs P sh o fs = some ss → (∀ f, f ∈ fs → ∃ x, DataW.trod enc P w base spare held n f.type ((cs.drop f.offset).take (P.cellsOf f.type)) = some x) →
      ∃ e : Els ss, RepC noLv w (fun o => cs[o]?) ss e o ∧ OkEs ss e
  | [], o, ss, h, _ => by
    simp only [shFs, Option.some.injEq] at h
    subst h
    exact ⟨(), trivial, trivial⟩
  | f :: fs, o, ss, h, hx => by
    simp only [shFs] at h
    split at h
    · rename_i s hs
      cases hb : (Nat.beq f.offset o && Nat.beq (P.cellsOf f.type) s.length)
      · rw [hb] at h; cases h
      rw [hb] at h
      simp only [cond_true] at h
      obtain ⟨rest, hr, rfl⟩ := Option.map_eq_some_iff.1 h
      rw [Bool.and_eq_true] at hb
      have ho := Nat.eq_of_beq_eq_true hb.1
      have hc := Nat.eq_of_beq_eq_true hb.2
      obtain ⟨x, hx0⟩ := hx f (by simp)
      obtain ⟨hl, e, he1, he2⟩ := one f.type s hs _ x hx0
      obtain ⟨e', he3, he4⟩ := shFs_rep sh cs n one fs (o + s.length) rest hr (fun g hg => hx g (by simp [hg]))
      refine ⟨appE s rest e e', repC_app s rest e e' o ?_ he3, okE_app s rest e e' he2 he4⟩
      refine repC_shift s e 0 o (fun j hj => ?_) he1
      simp only [Nat.zero_add]
      rw [List.getElem?_take_of_lt (by omega), List.getElem?_drop, ho]
    · cases h

theorem trod_rep : ∀ (d : Nat) (t : TypeId) (ss : List Sh), shT P d t = some ss → ∀ (fuel : Nat) (cs : List Value) (x : DataW H × List MemPlace), DataW.trod enc P w base spare held fuel t cs = some x →
    cs.length = ss.length ∧ ∃ e : Els ss, RepC noLv w (fun o => cs[o]?) ss e 0 ∧ OkEs ss e
  | 0, t, ss, h, _, _, _, _ => by simp [shT] at h
  | d + 1, t, ss, h, fuel, cs, x, hx => by
    simp only [shT] at h
    split at h
    · rename_i k hk
      cases h
      obtain ⟨n, rfl, rfl, hw⟩ := DataW.trod_int hk hx
      exact ⟨rfl, ((n : Int), ()), ⟨⟨.int k n, rfl, rfl⟩, trivial⟩, hw, trivial⟩
    · rename_i hk
      cases h
      obtain ⟨b, rfl, rfl⟩ := DataW.trod_bool hk hx
      exact ⟨rfl, ((b : Bool), ()), ⟨⟨.bool b, rfl, rfl⟩, trivial⟩, trivial, trivial⟩
    · rename_i hk
      cases h
      obtain ⟨s, rfl, rfl, hs⟩ := DataW.trod_string hk hx
      exact ⟨rfl, ((s : ByteArray), ()), ⟨⟨.string s, rfl, rfl⟩, trivial⟩, hs, trivial⟩
    · rename_i e hk
      split at h
      · rename_i es hes
        cases hb : (Nat.beq (P.cellsOf e) es.length && Nat.blt 0 es.length)
        · rw [hb] at h; cases h
        rw [hb] at h
        simp only [cond_true, Option.some.injEq] at h
        subst h
        rw [Bool.and_eq_true] at hb
        have hc := Nat.eq_of_beq_eq_true hb.1
        have hpos : 0 < es.length := by have := hb.2; simp [Nat.blt] at this; omega
        rcases Go.Deep.open_slice hk hx with ⟨rfl, rfl⟩ | ⟨a, len, cap, m, n, D, Pl, rfl, hbb, hl, hm, hmm, rfl, hel⟩
        · exact ⟨rfl, ((0, fun _ => zeroEs es), ()), ⟨⟨.slice none 0 0, rfl, none, 0, rfl, Nat.le_refl _, Nat.zero_le _, fun h => absurd h (by simp)⟩, trivial⟩, ⟨Nat.zero_le _, fun i hi => absurd hi (by simp)⟩, trivial⟩
        · have hlm : len ≤ m := by rw [hmm]; split <;> omega
          have each : ∀ i, i < len → ∃ e' : Els es, (0 < len → a.spot = none ∧ a.block < w.heap.size) ∧ RepC noLv w (fun o => w.cell? ⟨a.block, o, none⟩) es e' (a.off + i * es.length) ∧ OkEs es e' := fun i hi => by
            obtain ⟨cs', h1, h2⟩ := hel i (by omega)
            obtain ⟨hle, e', h3, h4⟩ := trod_rep d e es hes n cs' _ h2
            obtain ⟨_, h5, h6⟩ := World.cells?_some h1
            rw [hc] at h5 h6
            have hz := h6 0 hpos
            obtain ⟨v0, hv0⟩ : ∃ v0, cs'[0]? = some v0 := ⟨cs'[0], by simp⟩
            have addr : ∀ j, j < es.length → w.cell? ⟨a.block, a.off + i * es.length + j, none⟩ = cs'[j]? := fun j hj => by
              have hj' := h6 j hj
              obtain ⟨vj, hvj⟩ : ∃ vj, cs'[j]? = some vj := ⟨cs'[j]'(by omega), by simp⟩
              rw [hvj] at hj' ⊢
              rw [← hj']
              rw [Go.Deep.add_add] at hj' ⊢
              unfold Addr.add at hj' ⊢
              by_cases hij : i * es.length + j = 0
              · rw [if_pos hij] at hj' ⊢
                have hsp : a.spot = none := by
                  unfold World.cell? at hj'
                  split at hj'
                  · cases hs : a.spot
                    · rfl
                    · rw [hs] at hj'; simp at hj'
                  · cases hj'
                congr 1
                cases a
                simp only [] at hsp ⊢
                subst hsp
                congr 1
                omega
              · rw [if_neg hij]
                congr 1
                simp [Nat.add_assoc]
            refine ⟨e', fun _ => ?_, repC_shift es e' 0 _ (fun j hj => by simp only [Nat.zero_add]; exact addr j hj) h3, h4⟩
            obtain ⟨c0, g1, g2⟩ := hel 0 (by omega)
            obtain ⟨_, g3, g4⟩ := World.cells?_some g1
            rw [hc] at g3 g4
            have g5 := g4 0 hpos
            have : (a.add (0 * es.length)).add 0 = a := by simp [Addr.add]
            rw [this] at g5
            obtain ⟨v1, hv1⟩ : ∃ v1, c0[0]? = some v1 := ⟨c0[0], by simp⟩
            rw [hv1] at g5
            unfold World.cell? at g5
            split at g5
            · rename_i c _ _ hh
              constructor
              · cases hs : a.spot
                · rfl
                · rw [hs] at g5; simp at g5
              · obtain ⟨hlt, _⟩ := Array.getElem?_eq_some_iff.1 hh
                exact hlt
            · cases g5
          letI : Inhabited (Els es) := ⟨zeroEs es⟩
          obtain ⟨F, hF⟩ := Go.Deep.choose_lt each
          refine ⟨rfl, ((len, F), ()), ⟨⟨.slice (some a) len cap, rfl, some a, cap, rfl, hl, ?_, fun h0 => ⟨a.block, a.off, ?_, ((hF 0 h0).1 h0).2, fun h => h.elim, fun i hi => (hF i hi).2.1⟩⟩, trivial⟩, ⟨?_, fun i hi => (hF i hi).2.2⟩, trivial⟩
          · show len ≤ top
            have : maxLen = top := rfl
            omega
          · have := ((hF 0 h0).1 h0).1
            cases a
            simp only [] at this ⊢
            rw [this]
          · show len ≤ top
            have : maxLen = top := rfl
            omega
      · cases h
    · rename_i fs hk
      split at h
      · rename_i es hes
        cases hb : Nat.beq (P.cellsOf t) es.length
        · rw [hb] at h; cases h
        rw [hb] at h
        simp only [cond_true, Option.some.injEq] at h
        subst h
        obtain ⟨xs, n, rfl, rfl, hlen, hxl, hfs⟩ := DataW.trod_struct hk hx
        refine ⟨hlen.trans (Nat.eq_of_beq_eq_true hb), ?_⟩
        refine shFs_rep (shT P d) cs n (fun t ss hs cs x hx => trod_rep d t ss hs n cs x hx) fs.toList 0 es hes (fun f hf => ?_)
        obtain ⟨i, hi, rfl⟩ := List.mem_iff_getElem.1 hf
        have h1 := hfs i (fs.toList[i]) (by simp)
        have hi' : i < fs.size := by simpa using hi
        rw [h1]
        exact ⟨xs[i]'(by omega), by simp⟩
      · cases h
    · cases h
end

/-- The cells of a value as symbolic ones. -/
def svs : (ss : List Sh) → Els ss → List SV
  | [], _ => []
  | s :: ss, d => toSV s d.1 :: svs ss d.2
theorem svs_rep {w : World} : ∀ (ss : List Sh) (d : Els ss) (o : Nat) (cs : List Value), cs.length = ss.length → RepC noLv w (fun i => cs[i - o]?) ss d o → RepL Bs.none noLv w (svs ss d) cs
  | [], _, _, cs, h, _ => by
    have : cs = [] := by simpa using h
    subst this; exact .nil
  | s :: ss, d, o, cs, h, ⟨⟨u, h1, h2⟩, h3⟩ => by
    cases cs with
    | nil => simp at h
    | cons c cs =>
      have h1' : (c :: cs)[o - o]? = some u := h1
      rw [Nat.sub_self] at h1'
      obtain rfl : c = u := by simpa using h1'
      refine .cons (toSV_rep s d.1 c h2 _) (svs_rep ss d.2 (o + 1) cs (by simpa using h) ?_)
      refine repC_shift ss d.2 (o + 1) (o + 1) (fun j hj => ?_) h3
      show cs[o + 1 + j - (o + 1)]? = (c :: cs)[o + 1 + j - o]?
      rw [show o + 1 + j - (o + 1) = j by omega, show o + 1 + j - o = j + 1 by omega, List.getElem?_cons_succ]

/-- A struct that comes in. -/
theorem param_agg {H : Type} {enc : TypeId × Value → H} {P : Program} {w : World} {base : Nat} {spare : Nat → Bool} {held : Bool} {r : Reach} {b0 : Nat} {t : TypeId} {v : Value} {d : DataW H} {p : List MemPlace} {fs : Array Field} {ss : List Sh}
    (ht : P.underlying t = some (.struct fs)) (hs : shT P 10 t = some ss) (hv : Value.okWide P w r b0 t v) (h : DataW.Trod enc P w base spare held t v d p) :
    ∃ e : Els ss, Rep Bs.none noLv w (.agg (svs ss e)) v ∧ OkEs ss e := by
  obtain ⟨cs, rfl, hsz⟩ := Go.WideShapes.okWide_struct ht hv
  obtain ⟨fuel, hf⟩ := h
  obtain ⟨hl, e, h1, h2⟩ := trod_rep 10 t ss hs fuel _ _ hf
  refine ⟨e, ⟨cs.toList, by simp, ?_⟩, h2⟩
  exact svs_rep ss e 0 cs.toList (by simpa [Value.cells] using hl) (by simpa [Value.cells] using h1)
end Go.RX

