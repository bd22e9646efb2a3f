/- Loops whose rounds need a few slots: the rule of loops over these alone. -/
import Derived.Test.YtfcafajfllegaaaRXp
set_option linter.unusedVariables false
set_option linter.unusedSimpArgs false
namespace Go.RX
open Go Go.RowKit

/-- The slots of which something is known. -/
def mkS (N : Nat) (keep : List Nat) (vs : List SV) : List SV := (List.range N).map fun j => (List.lookup j (keep.zip vs)).getD .any
def fewS (keep : List Nat) (sl : List SV) : List SV := keep.map fun j => sl.getD j .any
abbrev Few := List SV × Mem
def proj (N : Nat) (keep : List Nat) (r : Ex × St) : T (Ex × Few) := bif Nat.beq r.2.1.length N then .ret (r.1, (fewS keep r.2.1, r.2.2)) else .stuck 120

/-- Knowledge of a few slots made less. -/
def Wk (N : Nat) (keep : List Nat) (n0 : Nat) (s s' : Few) : Prop := ∀ sl : List SV, sl.length = N → fewS keep sl = s.1 → Weak n0 (sl, s.2) (mkS N keep s'.1, s'.2)

theorem rll_of_getD {ρ : Ren} : ∀ (l l' : List SV), l.length = l'.length → (∀ j, j < l'.length → Rl ρ (l.getD j .any) (l'.getD j .any)) → RlL ρ l l'
  | [], [], _, _ => trivial
  | a :: l, b :: l', hl, h => ⟨by simpa using h 0 (by simp), rll_of_getD l l' (by simpa using hl) (fun j hj => by simpa using h (j + 1) (by simpa using hj))⟩

theorem rl_any {ρ : Ren} (s : SV) : Rl ρ s .any := by cases s <;> trivial
theorem lookup_zip {ρ : Ren} (sl : List SV) : ∀ (keep : List Nat) (vs' : List SV), RlL ρ (fewS keep sl) vs' → ∀ j, Rl ρ (sl.getD j .any) ((List.lookup j (keep.zip vs')).getD .any)
  | [], vs', h, j => by simpa using rl_any _
  | k :: keep, [], h, j => by simpa using rl_any _
  | k :: keep, v :: vs', h, j => by
    obtain ⟨h1, h2⟩ := (show Rl ρ (sl.getD k .any) v ∧ RlL ρ (fewS keep sl) vs' from h)
    rw [List.zip_cons_cons, List.lookup_cons]
    by_cases hj : j = k
    · subst hj; simpa using h1
    · have : (j == k) = false := by simpa using hj
      rw [this]
      exact lookup_zip sl keep vs' h2 j

theorem wk_of {N : Nat} {keep : List Nat} {n0 : Nat} (ρ : Ren) {vs vs' : List SV} {m m' : Mem} (hok : renOK ρ m' = true) (hn0 : n0 ≤ m'.length) (h0 : ∀ b, b < n0 → ρ.of b = some b)
    (hs : RlL ρ vs vs') (hm : RlM ρ m 0 m') : Wk N keep n0 (vs, m) (vs', m') := by
  intro sl hl hp
  refine weak_of ρ hok hn0 h0 ?_ hm
  refine rll_of_getD _ _ (by simp [mkS, hl]) fun j hj => ?_
  have hj' : j < N := by simpa [mkS] using hj
  have : (mkS N keep vs').getD j .any = (List.lookup j (keep.zip vs')).getD .any := by
    simp [mkS, hj']
  rw [this]
  simp only [] at hp
  rw [← hp] at hs
  exact lookup_zip sl keep vs' hs j

/-- A summary by a few slots. -/
noncomputable def few (N : Nat) (keep : List Nat) (g : Nat → Few → T (Ex × Few)) : Nat → St → T (Ex × St) := fun n0 σ =>
  (proj N keep (.normal, σ)).bind fun s => (g n0 s.2).bind fun r => .ret (r.1, (mkS N keep r.2.1, r.2.2))

theorem loop_of' {E : Env} {L : Loops} {c : Code} (hm : E.P.follows .mixedOrders = true) (hE : EnvOK E) (hL : LoopsOK E.P L c) {X : Type} (f : Nat → St → T (Ex × St)) (I : Nat → X → St) (Φ : Nat → X → Prop) (μ : X → Nat) (Z : Nat → X → Ex × St → Prop)
    (enter : ∀ n0 σ r, (f n0 σ).Is r → ∃ x, Φ n0 x ∧ Weak n0 σ (I n0 x) ∧ ∀ o, Z n0 x o → o.1 = r.1 ∧ Weak n0 o.2 r.2)
    (round : ∀ n0 x, Φ n0 x → (sx E L n0 c (I n0 x)).All fun r => match r.1 with
      | .normal => ∃ x', Φ n0 x' ∧ μ x' < μ x ∧ Weak n0 r.2 (I n0 x') ∧ ∀ o, Z n0 x' o → Z n0 x o
      | e => ∃ σ, Z n0 x (e, σ) ∧ Weak n0 r.2 σ) : LoopOK E.P c f := by
  intro n0 σ r hr A lv0 w0 a w hA hi
  obtain ⟨x, h1, h2, h3⟩ := enter n0 σ r hr
  refine wp_mono (loop_rule hm hE hL (I n0) (Φ n0) μ (Z n0) (round n0) x h1 A lv0 w0 a w hA (h2 A lv0 w0 a w hA hi)) ?_
  rintro e a' w' ⟨o, k1, rfl, k3⟩
  obtain ⟨e1, e2⟩ := h3 o k1
  exact ⟨by rw [e1], e2 A lv0 w0 a' w' hA k3⟩

theorem loop_few {E : Env} {L : Loops} {c : Code} (hm : E.P.follows .mixedOrders = true) (hE : EnvOK E) (hL : LoopsOK E.P L c) (N : Nat) (keep : List Nat) {X : Type} (g : Nat → Few → T (Ex × Few)) (V : Nat → X → Few) (Φ : Nat → X → Prop) (μ : X → Nat) (Z : Nat → X → Ex × Few → Prop)
    (enter : ∀ n0 s r, (g n0 s).Is r → ∃ x, Φ n0 x ∧ Wk N keep n0 s (V n0 x) ∧ ∀ o, Z n0 x o → o = r)
    (round : ∀ n0 x, Φ n0 x → ((sx E L n0 c (mkS N keep (V n0 x).1, (V n0 x).2)).bind (proj N keep)).All fun r => match r.1 with
      | .normal => ∃ x', Φ n0 x' ∧ μ x' < μ x ∧ Wk N keep n0 r.2 (V n0 x') ∧ ∀ o, Z n0 x' o → Z n0 x o
      | e => ∃ s, Z n0 x (e, s) ∧ Wk N keep n0 r.2 s) : LoopOK E.P c (few N keep g) := by
  refine loop_of' hm hE hL (few N keep g) (fun n0 x => (mkS N keep (V n0 x).1, (V n0 x).2)) Φ μ (fun n0 x o => ∃ s, Z n0 x (o.1, s) ∧ o.2 = (mkS N keep s.1, s.2)) ?_ ?_
  · intro n0 σ r h
    obtain ⟨s, h1, h2⟩ := T.is_bind h
    obtain ⟨r', h3, h4⟩ := T.is_bind h2
    obtain rfl : _ = r := h4
    unfold proj at h1
    cases hb : Nat.beq σ.1.length N
    · rw [hb] at h1; exact h1.elim
    rw [hb] at h1
    obtain rfl : _ = s := h1
    obtain ⟨x, k1, k2, k3⟩ := enter n0 _ r' h3
    refine ⟨x, k1, k2 σ.1 (Nat.eq_of_beq_eq_true hb) rfl, ?_⟩
    rintro ⟨e, st⟩ ⟨s, hz, ho⟩
    have := k3 _ hz
    subst this
    simp only [] at ho
    subst ho
    exact ⟨rfl, Weak.refl _ _⟩
  · intro n0 x hx
    have h := round n0 x hx
    have aux : ∀ (t : T (Ex × St)) (K : Ex × Few → Prop), (t.bind (proj N keep)).All K → t.All fun r => r.2.1.length = N ∧ K (r.1, (fewS keep r.2.1, r.2.2)) := by
      intro t K
      induction t with
      | ret a =>
        intro h
        have h : (proj N keep a).All K := h
        unfold proj at h
        cases hb : Nat.beq a.2.1.length N
        · rw [hb] at h; exact h.elim
        · rw [hb] at h; exact ⟨Nat.eq_of_beq_eq_true hb, h⟩
      | br c t e iht ihe => intro h; exact ⟨fun hc => iht (h.1 hc), fun hc => ihe (h.2 hc)⟩
      | ask p t ih => intro h; exact ⟨h.1, ih h.2⟩
      | stuck n => intro h; exact h.elim
    refine T.all_mono ?_ (aux _ _ h)
    rintro ⟨ex, σ'⟩ ⟨hlen, hk⟩
    cases ex with
    | normal =>
      obtain ⟨x', k1, k2, k3, k4⟩ := hk
      refine ⟨x', k1, k2, k3 σ'.1 hlen rfl, ?_⟩
      rintro o ⟨s, hz, ho⟩
      exact ⟨s, k4 _ hz, ho⟩
    | exit id =>
      obtain ⟨s, k1, k2⟩ := hk
      exact ⟨(mkS N keep s.1, s.2), ⟨s, k1, rfl⟩, k2 σ'.1 hlen rfl⟩
    | ret =>
      obtain ⟨s, k1, k2⟩ := hk
      exact ⟨(mkS N keep s.1, s.2), ⟨s, k1, rfl⟩, k2 σ'.1 hlen rfl⟩

theorem eqShs_refl : ∀ ss : List Sh, eqShs ss ss = true := fun ss => (show (∀ s : Sh, eqSh s s = true) → _ from fun h => by
  induction ss with
  | nil => rfl
  | cons s ss ih => simp [eqShs, h, ih]) (fun s => Sh.rec (motive_1 := fun s => eqSh s s = true) (motive_2 := fun ss => eqShs ss ss = true) (fun k => by simp [eqSh]) rfl rfl (fun ss h => by simpa [eqSh] using h) rfl (fun s ss h1 h2 => by simp [eqShs, h1, h2]) s)
theorem sameRow_refl {ss : List Sh} (n : Nat) (f : Nat → Els ss) : sameRow n f f := ⟨eqShs_refl ss, fun i _ => rfl⟩
theorem T.all_of_eq {α : Type} {K : α → Prop} {t t' : T α} (h : t = t') (h' : t'.All K) : t.All K := h ▸ h'
/-- Nothing renamed. -/
def idR (n : Nat) : Ren := (List.range n).map some
theorem idR_of {n b : Nat} (h : b < n) : (idR n).of b = some b := by simp [idR, Ren.of, h]
end Go.RX
