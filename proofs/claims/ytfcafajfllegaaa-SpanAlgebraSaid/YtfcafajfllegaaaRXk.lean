/- Regions whose order is drawn: the order of the text serves every order, where what two operations share is ordered. -/
import Derived.Test.YtfcafajfllegaaaRXj
set_option linter.unusedVariables false
set_option linter.unusedSimpArgs false
namespace Go.RX
open Go Go.RowKit

/-- Which operations come before which: sets as numbers. -/
def bef : List Oper → List Nat → List Nat
  | [], acc => acc
  | o :: rest, acc => bef rest (acc ++ [o.after.toList.foldl (fun s e => bif Region.binds .any e then s ||| (2 ^ e.on ||| acc.getD e.on 0) else s) 0])

def keys (wr : List (Nat × Option Blk)) : List Nat := wr.map (·.1)
def memy (s : Step) : Bool := s.out.bar || !s.out.wr.isEmpty || !(Nat.beq s.out.nn 0)
def meets (l l' : List Nat) : Bool := l.any fun b => l'.any fun c => Nat.beq b c
def Step.dsts (s : Step) : List Nat := s.o.dst.toList
/-- Whether two steps touch one thing. -/
def confl (ops : List Oper) (s t : Step) : Bool :=
  meets s.dsts (t.o.looksAt ops.toArray) || meets t.dsts (s.o.looksAt ops.toArray) || meets s.dsts t.dsts ||
  meets (keys s.out.wr) t.out.rd || meets (keys s.out.wr) (keys t.out.wr) || meets s.out.rd (keys t.out.wr) || (s.out.bar && memy t) || (t.out.bar && memy s)

/-- What two steps share is ordered: j from k on. -/
def ordFrom (ops : List Oper) (bs : List Nat) : List Step → Nat → List Step → Bool
  | _, _, [] => true
  | past, j, t :: rest => (past.zipIdx.all fun p => !(confl ops p.1 t) || (bs.getD j 0).testBit p.2) && ordFrom ops bs (past ++ [t]) (j + 1) rest

def backward (ops : List Oper) : Bool := ops.zipIdx.all fun p => p.1.after.toList.all fun e => !(Region.binds .any e) || Nat.blt e.on p.2

def drawOK (ops : List Oper) (steps : List Step) : Bool := backward ops && ordFrom ops (bef ops []) [] 0 steps

theorem meets_of {l l' : List Nat} {b : Nat} (h : b ∈ l) (h' : b ∈ l') : meets l l' = true := by
  simp only [meets, List.any_eq_true]
  exact ⟨b, h, b, h', by simp⟩

/-- i is reached from j along the edges that bind. -/
inductive Anc (ops : List Oper) : Nat → Nat → Prop
  | edge {j : Nat} {o : Oper} {e : Edge} : ops[j]? = some o → e ∈ o.after.toList → Region.binds .any e = true → Anc ops j e.on
  | more {j i : Nat} {o : Oper} {e : Edge} : ops[j]? = some o → e ∈ o.after.toList → Region.binds .any e = true → Anc ops e.on i → Anc ops j i

theorem bef_anc (ops : List Oper) : ∀ (rest : List Oper) (acc : List Nat), (∃ done, ops = done ++ rest ∧ done.length = acc.length) →
    (∀ j i, (acc.getD j 0).testBit i = true → Anc ops j i) → ∀ j i, ((bef rest acc).getD j 0).testBit i = true → Anc ops j i
  | [], acc, _, h => h
  | o :: rest, acc, ⟨done, hd, hl⟩, h => by
    rw [bef]
    refine bef_anc ops rest _ ⟨done ++ [o], by simp [hd], by simp [hl]⟩ fun j i hb => ?_
    rw [List.getD_eq_getElem?_getD] at hb
    by_cases hj : j < acc.length
    · rw [List.getElem?_append_left hj] at hb
      exact h j i (by rw [List.getD_eq_getElem?_getD]; exact hb)
    · by_cases hj' : j = acc.length
      · subst hj'
        rw [List.getElem?_append_right (Nat.le_refl _)] at hb
        simp only [Nat.sub_self, List.getElem?_cons_zero, Option.getD_some] at hb
        have ho : ops[acc.length]? = some o := by rw [hd, ← hl]; simp
        have key : ∀ (es : List Edge) (s : Nat), (∀ e ∈ es, e ∈ o.after.toList) → (s.testBit i = true → Anc ops acc.length i) →
            (es.foldl (fun s e => bif Region.binds .any e then s ||| (2 ^ e.on ||| acc.getD e.on 0) else s) s).testBit i = true → Anc ops acc.length i := by
          intro es
          induction es with
          | nil => intro s _ hs hb; exact hs hb
          | cons e es ih =>
            intro s hes hs hb
            rw [List.foldl_cons] at hb
            refine ih _ (fun e he => hes e (by simp [he])) (fun hb' => ?_) hb
            cases hbd : Region.binds .any e
            · rw [hbd] at hb'; exact hs hb'
            · rw [hbd] at hb'
              simp only [cond_true, Nat.testBit_or, Bool.or_eq_true] at hb'
              rcases hb' with h1 | h1 | h1
              · exact hs h1
              · rw [Nat.testBit_two_pow] at h1
                have : e.on = i := by simpa using h1
                subst this
                exact .edge ho (hes e (by simp)) hbd
              · exact .more ho (hes e (by simp)) hbd (h _ _ h1)
        exact key _ 0 (fun e he => he) (fun h0 => by simp at h0) hb
      · rw [List.getElem?_eq_none (by simp; omega)] at hb
        simp at hb

theorem anc_listed {ops : List Oper} {L : Nat → Bool} (hc : ∀ j o, ops[j]? = some o → L j = true → ∀ e ∈ o.after.toList, Region.binds .any e = true → L e.on = true) {j i : Nat} (h : Anc ops j i) :
    L j = true → L i = true := by
  induction h with
  | edge ho he hb => intro hl; exact hc _ _ ho hl _ he hb
  | more ho he hb _ ih => intro hl; exact ih (hc _ _ ho hl _ he hb)

theorem ordFrom_spec {ops : List Oper} {bs : List Nat} : ∀ (rest past : List Step), ordFrom ops bs past past.length rest = true →
    ∀ i j s t, i < j → past.length ≤ j → (past ++ rest)[i]? = some s → (past ++ rest)[j]? = some t → confl ops s t = true → (bs.getD j 0).testBit i = true
  | [], past, _, i, j, s, t, hij, hj, hs, ht, hc => by simp [List.getElem?_eq_none hj] at ht
  | u :: rest, past, h, i, j, s, t, hij, hj, hs, ht, hc => by
    rw [ordFrom, Bool.and_eq_true] at h
    by_cases hj' : j = past.length
    · subst hj'
      rw [List.getElem?_append_right (Nat.le_refl _)] at ht
      simp only [Nat.sub_self, List.getElem?_cons_zero, Option.some.injEq] at ht
      subst ht
      rw [List.getElem?_append_left hij] at hs
      have := List.all_eq_true.1 h.1 (s, i) (by rw [List.mem_zipIdx_iff_getElem?]; exact hs)
      simp only [hc, Bool.not_true, Bool.false_or] at this
      exact this
    · have h2 := h.2
      rw [show past.length + 1 = (past ++ [u]).length by simp] at h2
      exact ordFrom_spec rest (past ++ [u]) h2 i j s t hij (by simp; omega) (by simpa using hs) (by simpa using ht) hc

/-- The steps of a set, in the order of the text. -/
def foldL (L : Nat → Bool) : List Step → Nat → List SV × Mem → List SV × Mem
  | [], _, σ => σ
  | s :: rest, i, σ => foldL L rest (i + 1) (bif L i then s.app σ else σ)

theorem putS_len (sl : List SV) (d : Option Tmp) (s : SV) : (putS sl d s).length = sl.length := by cases d <;> simp [putS]
theorem putS_get (sl : List SV) (d : Option Tmp) (s : SV) (t : Nat) (h : t ∉ d.toList) : (putS sl d s)[t]? = sl[t]? := by
  cases d with
  | none => rfl
  | some d => simp only [putS, Option.toList_some, List.mem_singleton] at h ⊢; exact List.getElem?_set_ne (Ne.symm h)
theorem putS_get_same {sl sl' : List SV} (hl : sl.length = sl'.length) (d : Option Tmp) (s : SV) (t : Nat) (h : t ∈ d.toList) : (putS sl d s)[t]? = (putS sl' d s)[t]? := by
  cases d with
  | none => simp at h
  | some d =>
    simp only [Option.toList_some, List.mem_singleton] at h
    subst h
    simp only [putS, List.getElem?_set]
    by_cases hlt : t < sl.length
    · have : t < sl'.length := by omega
      simp [hlt, this]
    · have : ¬ t < sl'.length := by omega
      simp [hlt, this]

theorem mupd_not (wr : List (Nat × Option Blk)) : ∀ (f : Nat → Option Blk) (b : Nat), b ∉ keys wr → mupd f wr b = f b := by
  induction wr with
  | nil => intro f b _; rfl
  | cons p wr ih =>
    intro f b h
    simp only [keys, List.map_cons, List.mem_cons, not_or] at h
    simp only [mupd, List.foldl_cons] at ih ⊢
    rw [ih _ b h.2]
    exact upd_other _ _ h.1
theorem mupd_same (wr : List (Nat × Option Blk)) : ∀ (f g : Nat → Option Blk) (b : Nat), b ∈ keys wr ∨ f b = g b → mupd f wr b = mupd g wr b := by
  induction wr with
  | nil => intro f g b h; rcases h with h | h; · simp [keys] at h
           · exact h
  | cons p wr ih =>
    intro f g b h
    simp only [mupd, List.foldl_cons] at ih ⊢
    refine ih _ _ b ?_
    by_cases hb : b = p.1
    · right; subst hb; simp
    · rw [upd_other _ _ hb, upd_other _ _ hb]
      rcases h with h | h
      · simp only [keys, List.map_cons, List.mem_cons] at h
        rcases h with h | h
        · exact absurd h hb
        · exact .inl h
      · exact .inr h

theorem app_len (s : Step) (σ : List SV × Mem) : (s.app σ).1.length = σ.1.length := putS_len _ _ _
theorem foldL_len (L : Nat → Bool) : ∀ (l : List Step) (i : Nat) (σ : List SV × Mem), (foldL L l i σ).1.length = σ.1.length
  | [], _, _ => rfl
  | s :: rest, i, σ => by
    rw [foldL, foldL_len]
    cases L i
    · rfl
    · exact app_len s σ

/-- Two sets that agree on the writers of a slot agree on the slot. -/
theorem foldL_slot {L L' : Nat → Bool} (t : Nat) : ∀ (l : List Step) (i : Nat) (σ σ' : List SV × Mem), σ.1.length = σ'.1.length → σ.1[t]? = σ'.1[t]? →
    (∀ k s, l[k]? = some s → t ∈ s.dsts → L (i + k) = L' (i + k)) → (foldL L l i σ).1[t]? = (foldL L' l i σ').1[t]?
  | [], _, _, _, _, h, _ => h
  | s :: rest, i, σ, σ', hl, h, hw => by
    rw [foldL, foldL]
    refine foldL_slot t rest (i + 1) _ _ ?_ ?_ (fun k u hk hu => by have := hw (k + 1) u (by simpa using hk) hu; rwa [show i + (k + 1) = i + 1 + k by omega] at this)
    · cases L i <;> cases L' i <;> simp only [cond_true, cond_false, app_len] <;> exact hl
    · by_cases ht : t ∈ s.dsts
      · have := hw 0 s rfl ht
        simp only [Nat.add_zero] at this
        rw [this]
        cases L' i
        · exact h
        · exact putS_get_same hl _ _ t ht
      · cases L i <;> cases L' i <;> simp only [cond_true, cond_false]
        · exact h
        · exact h.trans (putS_get _ _ _ t ht).symm
        · exact (putS_get _ _ _ t ht).trans h
        · exact (putS_get _ _ _ t ht).trans (h.trans (putS_get _ _ _ t ht).symm)

theorem app_fn (s : Step) (σ : List SV × Mem) : (s.app σ).2.fn = mupd σ.2.fn s.out.wr := msets_fn _ _

theorem foldL_mem {L L' : Nat → Bool} (b : Nat) : ∀ (l : List Step) (i : Nat) (σ σ' : List SV × Mem), σ.2.fn b = σ'.2.fn b →
    (∀ k s, l[k]? = some s → b ∈ keys s.out.wr → L (i + k) = L' (i + k)) → (foldL L l i σ).2.fn b = (foldL L' l i σ').2.fn b
  | [], _, _, _, h, _ => h
  | s :: rest, i, σ, σ', h, hw => by
    rw [foldL, foldL]
    refine foldL_mem b rest (i + 1) _ _ ?_ (fun k u hk hu => by have := hw (k + 1) u (by simpa using hk) hu; rwa [show i + (k + 1) = i + 1 + k by omega] at this)
    by_cases ht : b ∈ keys s.out.wr
    · have := hw 0 s rfl ht
      simp only [Nat.add_zero] at this
      rw [this]
      cases L' i
      · exact h
      · simp only [cond_true, app_fn]; exact mupd_same _ _ _ b (.inl ht)
    · cases L i <;> cases L' i <;> simp only [cond_true, cond_false, app_fn, mupd_not _ _ b ht] <;> exact h

theorem app_mem_nil {s : Step} (h : s.out.wr = []) (σ : List SV × Mem) : (s.app σ).2 = σ.2 := by simp [Step.app, h, msets]

theorem foldL_all {L L' : Nat → Bool} : ∀ (l : List Step) (i : Nat) (σ σ' : List SV × Mem), σ.2 = σ'.2 →
    (∀ k s, l[k]? = some s → s.out.wr ≠ [] → L (i + k) = L' (i + k)) → (foldL L l i σ).2 = (foldL L' l i σ').2
  | [], _, _, _, h, _ => h
  | s :: rest, i, σ, σ', h, hw => by
    rw [foldL, foldL]
    refine foldL_all rest (i + 1) _ _ ?_ (fun k u hk hu => by have := hw (k + 1) u (by simpa using hk) hu; rwa [show i + (k + 1) = i + 1 + k by omega] at this)
    by_cases ht : s.out.wr = []
    · cases L i <;> cases L' i <;> simp only [cond_true, cond_false, app_mem_nil ht] <;> exact h
    · have := hw 0 s rfl ht
      simp only [Nat.add_zero] at this
      rw [this]
      cases L' i
      · exact h
      · simp only [cond_true, Step.app]; rw [h]

theorem foldL_none {L : Nat → Bool} : ∀ (l : List Step) (i : Nat) (σ : List SV × Mem), (∀ k, k < l.length → L (i + k) = false) → foldL L l i σ = σ
  | [], _, _, _ => rfl
  | s :: rest, i, σ, h => by
    rw [foldL]
    have := h 0 (by simp)
    simp only [Nat.add_zero] at this
    rw [this]
    exact foldL_none rest (i + 1) σ (fun k hk => by have := h (k + 1) (by simpa using hk); rwa [show i + (k + 1) = i + 1 + k by omega] at this)

theorem foldL_every {L : Nat → Bool} : ∀ (l : List Step) (i : Nat) (σ : List SV × Mem), (∀ k, k < l.length → L (i + k) = true) → foldL L l i σ = l.foldl (fun σ s => s.app σ) σ
  | [], _, _, _ => rfl
  | s :: rest, i, σ, h => by
    rw [foldL]
    have := h 0 (by simp)
    simp only [Nat.add_zero] at this
    rw [this]
    exact foldL_every rest (i + 1) _ (fun k hk => by have := h (k + 1) (by simpa using hk); rwa [show i + (k + 1) = i + 1 + k by omega] at this)

theorem foldL_append (L : Nat → Bool) : ∀ (l l' : List Step) (i : Nat) (σ : List SV × Mem), foldL L (l ++ l') i σ = foldL L l' (i + l.length) (foldL L l i σ)
  | [], _, _, _ => rfl
  | s :: rest, l', i, σ => by
    rw [List.cons_append, foldL, foldL, foldL_append L rest l', List.length_cons, show i + 1 + rest.length = i + (rest.length + 1) by omega]
end Go.RX
