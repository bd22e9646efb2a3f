/- Knowledge made less: states of the walk that follow from others; the rule of loops. -/
import Derived.Test.YtfcafajfllegaaaRXo
set_option linter.unusedVariables false
set_option linter.unusedSimpArgs false
namespace Go.RX
open Go Go.RowKit

/-- From which old number a block has its new one. -/
abbrev Ren := List (Option Nat)
def Ren.of (ρ : Ren) (b : Nat) : Option Nat := ρ.getD b none

def sameRow {ss ss' : List Sh} (n : Nat) (f : Nat → Els ss) (f' : Nat → Els ss') : Prop := ∃ h : eqShs ss ss' = true, ∀ i, i < n → castEls h f i = f' i

mutual
/-- The second value says no more than the first. -/
def Rl (ρ : Ren) : SV → SV → Prop
  | s, .any => True
  | .lit u, .lit v => u = v
  | .kb b, .lit v => v = .bool b
  | .ki k n, .lit v => v = .int k n
  | .kb b, .kb b' => b = b'
  | .ki k n, .ki k' n' => k = k' ∧ n = n'
  | .ptr b off, .ptr b' off' => ρ.of b' = some b ∧ off = off'
  | .agg cs, .agg cs' => RlL ρ cs cs'
  | .tup cs, .tup cs' => RlL ρ cs cs'
  | .fn f as cs, .fn f' as' cs' => f = f' ∧ RlL ρ as as' ∧ RlL ρ cs cs'
  | .own z b n, .own z' b' n' => z = z' ∧ n = n' ∧ ρ.of b' = some b
  | .lit v, .own z' b' n' => v = .slice none 0 0 ∧ z' = true ∧ n' = 0
  | .optr b i off k, .optr b' i' off' k' => ρ.of b' = some b ∧ i = i' ∧ off = off' ∧ k = k'
  | .row ss n f, .row ss' n' f' => n = n' ∧ sameRow n f f'
  | .rptr ss n f i o, .rptr ss' n' f' i' o' => n = n' ∧ i = i' ∧ o = o' ∧ sameRow n f f'
  | .csl b off n ss, .csl b' off' n' ss' => ρ.of b' = some b ∧ off = off' ∧ n = n'
  | _, _ => False
def RlL (ρ : Ren) : List SV → List SV → Prop
  | [], [] => True
  | s :: ss, s' :: ss' => Rl ρ s s' ∧ RlL ρ ss ss'
  | _, _ => False
end

def RlK (ρ : Ren) (m : Mem) (b' : Nat) : Blk → Prop
  | .cells cs e =>
    match ρ.of b' with
    | some b => match m.fn b with | some (.cells cs1 e1) => e1 = e ∧ RlL ρ cs1 cs | _ => False
    | none => False
  | .row z n ss f e =>
    match ρ.of b' with
    | some b => match m.fn b with | some (.row z1 n1 ss1 f1 e1) => e1 = e ∧ z1 = z ∧ n1 = n ∧ sameRow n f1 f | _ => False
    | none => z = true ∧ n = 0
def RlM (ρ : Ren) (m : Mem) : Nat → Mem → Prop
  | _, [] => True
  | b, (_, none) :: rest => RlM ρ m (b + 1) rest
  | b, (_, some k) :: rest => RlK ρ m b k ∧ RlM ρ m (b + 1) rest
/-- Live blocks have different old numbers. -/
def renOK (ρ : Ren) (m' : Mem) : Bool :=
  Nat.beq ρ.length m'.length &&
  (List.range m'.length).all fun b => (List.range m'.length).all fun c => Nat.beq b c || !(m'.fn b).isSome || !(m'.fn c).isSome || !(decide (ρ.of b = ρ.of c)) || (ρ.of b).isNone

/-- The second state says no more than the first, the surroundings' n0 blocks left as they are. -/
def Weak (n0 : Nat) (σ σ' : St) : Prop :=
  ∀ (A : Anchor) (lv0 : Nat → Prop) (w0 : World) (a : Act) (w : World), A.n ≤ n0 → SInv A lv0 w0 (· < σ.2.length) σ a w → SInv A lv0 w0 (· < σ'.2.length) σ' a w

theorem Weak.refl (n0 : Nat) (σ : St) : Weak n0 σ σ := fun _ _ _ _ _ _ h => h
theorem Weak.trans {n0 : Nat} {σ σ' σ'' : St} (h : Weak n0 σ σ') (h' : Weak n0 σ' σ'') : Weak n0 σ σ'' := fun A lv0 w0 a w hA hi => h' A lv0 w0 a w hA (h A lv0 w0 a w hA hi)

section
variable {ρ : Ren} {bs bs' : Bs} {lv lv' : Nat → Prop} {w : World}

theorem sameRow_rep {ss ss' : List Sh} {n : Nat} {f : Nat → Els ss} {f' : Nat → Els ss'} (h : sameRow n f f') : ∃ e : ss = ss', ∀ i, i < n → HEq (f i) (f' i) := by
  obtain ⟨h, hf⟩ := h
  have e := eqShs_eq _ _ h
  subst e
  exact ⟨rfl, fun i hi => heq_of_eq (hf i hi)⟩

mutual
theorem Rl.rep (hb : ∀ b b', ρ.of b' = some b → bs' b' = bs b) (hl : ∀ x, lv' x → lv x) : ∀ (s s' : SV) (v : Value), Rl ρ s s' → Rep bs lv w s v → Rep bs' lv' w s' v
  | s, .any, v, _, _ => trivial
  | .lit u, .lit u', v, h, hr => by obtain rfl : u = u' := by simpa [Rl] using h
                                    exact hr
  | .kb b, .lit u', v, h, hr => by obtain rfl : u' = _ := by simpa [Rl] using h
                                   exact hr
  | .ki k n, .lit u', v, h, hr => by obtain rfl : u' = _ := by simpa [Rl] using h
                                     exact hr
  | .kb b, .kb b', v, h, hr => by obtain rfl : b = b' := by simpa [Rl] using h
                                  exact hr
  | .ki k n, .ki k' n', v, h, hr => by obtain ⟨rfl, rfl⟩ : k = k' ∧ n = n' := by simpa [Rl] using h
                                       exact hr
  | .ptr b off, .ptr b' off', v, h, hr => by
    obtain ⟨h1, rfl⟩ : ρ.of b' = some b ∧ off = off' := by simpa [Rl] using h
    obtain ⟨x, c, g1, g2⟩ := hr
    exact ⟨x, c, (hb _ _ h1).trans g1, g2⟩
  | .agg cs, .agg cs', v, h, ⟨us, h1, h2⟩ => ⟨us, h1, RlL.rep hb hl cs cs' us (by simpa [Rl] using h) h2⟩
  | .tup cs, .tup cs', v, h, ⟨us, h1, h2⟩ => ⟨us, h1, RlL.rep hb hl cs cs' us (by simpa [Rl] using h) h2⟩
  | .fn f as cs, .fn f' as' cs', v, h, ⟨us, ts, h1, h2, h3⟩ => by
    obtain ⟨rfl, g1, g2⟩ : f = f' ∧ RlL ρ as as' ∧ RlL ρ cs cs' := by simpa [Rl] using h
    exact ⟨us, ts, h1, RlL.rep hb hl as as' us g1 h2, RlL.rep hb hl cs cs' ts g2 h3⟩
  | .own z b n, .own z' b' n', v, h, hr => by
    obtain ⟨rfl, rfl, h1⟩ : z = z' ∧ n = n' ∧ ρ.of b' = some b := by simpa [Rl] using h
    rcases hr with hr | ⟨h0, x, c, g1, g2⟩
    · exact .inl hr
    · exact .inr ⟨h0, x, c, (hb _ _ h1).trans g1, g2⟩
  | .lit u, .own z' b' n', v, h, hr => by
    obtain ⟨rfl, rfl, rfl⟩ : u = .slice none 0 0 ∧ z' = true ∧ n' = 0 := by simpa [Rl] using h
    exact .inl ⟨rfl, rfl, hr⟩
  | .optr b i off k, .optr b' i' off' k', v, h, hr => by
    obtain ⟨h1, rfl, rfl, rfl⟩ : ρ.of b' = some b ∧ i = i' ∧ off = off' ∧ k = k' := by simpa [Rl] using h
    obtain ⟨x, c, g1, g2⟩ := hr
    exact ⟨x, c, (hb _ _ h1).trans g1, g2⟩
  | .row ss n f, .row ss' n' f', v, h, hr => by
    obtain ⟨rfl, h1⟩ : n = n' ∧ sameRow n f f' := by simpa [Rl] using h
    obtain ⟨rfl, h2⟩ := sameRow_rep h1
    exact (RepE.ext (fun x _ hx => hl x hx) (fun _ _ _ => rfl) (Nat.le_refl _) (.sl ss) (n, f) v hr).row_congr (fun i hi => eq_of_heq (h2 i hi))
  | .rptr ss n f i o, .rptr ss' n' f' i' o', v, h, hr => by
    obtain ⟨rfl, rfl, rfl, h1⟩ : n = n' ∧ i = i' ∧ o = o' ∧ sameRow n f f' := by simpa [Rl] using h
    obtain ⟨rfl, h2⟩ := sameRow_rep h1
    obtain ⟨x, off, g1, g0, g2, g3, g4⟩ := hr
    refine ⟨x, off, g1, g0, g2, fun hx => g3 (hl x hx), fun j hj => ?_⟩
    rw [← eq_of_heq (h2 j hj)]
    exact RepC.ext (fun x _ hx => hl x hx) (fun _ _ _ => rfl) (Nat.le_refl _) ss (f j) _ _ _ (fun _ _ _ h => h) (g4 j hj)
  | .csl b off n ss, .csl b' off' n' ss', v, h, hr => by
    obtain ⟨h1, rfl, rfl⟩ : ρ.of b' = some b ∧ off = off' ∧ n = n' := by simpa [Rl] using h
    obtain ⟨x, c, cap, g1, g2⟩ := hr
    exact ⟨x, c, cap, (hb _ _ h1).trans g1, g2⟩
theorem RlL.rep (hb : ∀ b b', ρ.of b' = some b → bs' b' = bs b) (hl : ∀ x, lv' x → lv x) : ∀ (s s' : List SV) (v : List Value), RlL ρ s s' → RepL bs lv w s v → RepL bs' lv' w s' v
  | [], [], v, _, h => h
  | s :: ss, s' :: ss', v, h, ⟨u, us, h1, h2, h3⟩ => by
    obtain ⟨g1, g2⟩ : Rl ρ s s' ∧ RlL ρ ss ss' := by simpa [RlL] using h
    exact ⟨u, us, h1, Rl.rep hb hl s s' u g1 h2, RlL.rep hb hl ss ss' us g2 h3⟩
end
end

theorem RlM.get {ρ : Ren} {m : Mem} : ∀ (m' : Mem) (o b : Nat) (k : Blk), RlM ρ m o m' → (m'.getD b (0, none)).2 = some k → RlK ρ m (o + b) k
  | [], o, b, k, _, h => by simp at h
  | (_, none) :: rest, o, 0, k, _, h => by simp at h
  | (_, none) :: rest, o, b + 1, k, h, hk => by
    have := RlM.get rest (o + 1) b k (by simpa [RlM] using h) (by simpa using hk)
    rwa [show o + 1 + b = o + (b + 1) by omega] at this
  | (_, some k0) :: rest, o, 0, k, h, hk => by
    simp only [List.getD_cons_zero, Option.some.injEq] at hk
    subst hk
    exact (show RlK ρ m o k0 ∧ _ from by simpa [RlM] using h).1
  | (_, some k0) :: rest, o, b + 1, k, h, hk => by
    have := RlM.get rest (o + 1) b k (show RlK ρ m o k0 ∧ RlM ρ m (o + 1) rest from by simpa [RlM] using h).2 (by simpa using hk)
    rwa [show o + 1 + b = o + (b + 1) by omega] at this

theorem weak_of {n0 : Nat} (ρ : Ren) {sl sl' : List SV} {m m' : Mem} (hok : renOK ρ m' = true) (hn0 : n0 ≤ m'.length) (h0 : ∀ b, b < n0 → ρ.of b = some b) (hs : RlL ρ sl sl') (hm : RlM ρ m 0 m') : Weak n0 (sl, m) (sl', m') := by
  intro A lv0 w0 a w hA hi
  obtain ⟨bs, h1, h2, h3⟩ := hi
  simp only [renOK, Bool.and_eq_true, List.all_eq_true] at hok
  have hlen := Nat.eq_of_beq_eq_true hok.1
  have hρ : ∀ b b', ρ.of b' = some b → b' < m'.length := fun b b' h => by
    rcases Nat.lt_or_ge b' ρ.length with h' | h'
    · omega
    · simp [Ren.of, List.getD_eq_getElem?_getD, List.getElem?_eq_none h'] at h
  have hblk : ∀ b' k, Mem.fn m' b' = some k → RlK ρ m b' k := fun b' k h => by
    have := RlM.get m' 0 b' k hm h
    rwa [Nat.zero_add] at this
  have hlt : ∀ b' k, Mem.fn m' b' = some k → b' < m'.length := fun b' k h => by
    rcases Nat.lt_or_ge b' m'.length with h' | h'
    · exact h'
    · rw [fn_out h'] at h; cases h
  have hsrc : ∀ b' k b, Mem.fn m' b' = some k → ρ.of b' = some b → ∃ k1, Mem.fn m b = some k1 := fun b' k b hk hb => by
    have := hblk b' k hk
    cases k with
    | cells cs e =>
      simp only [RlK, hb] at this
      split at this
      · rename_i cs1 e1 hmb; exact ⟨_, hmb⟩
      · exact this.elim
    | row z n ss f e =>
      simp only [RlK, hb] at this
      split at this
      · rename_i z1 n1 ss1 f1 e1 hmb; exact ⟨_, hmb⟩
      · exact this.elim
  have hinj : ∀ b1 b2 k1 k2 b, Mem.fn m' b1 = some k1 → Mem.fn m' b2 = some k2 → ρ.of b1 = some b → ρ.of b2 = some b → b1 = b2 := fun b1 b2 k1 k2 b g1 g2 g3 g4 => by
    have := hok.2 b1 (by simp; exact hlt _ _ g1)
    have := this b2 (by simp; exact hlt _ _ g2)
    rw [g1, g2, g3, g4] at this
    simpa using this
  obtain ⟨bs', hbs⟩ : ∃ bs' : Bs, bs' = fun b' => (ρ.of b').bind bs := ⟨_, rfl⟩
  have hb : ∀ b b', ρ.of b' = some b → bs' b' = bs b := fun b b' h => by rw [hbs]; simp [h]
  have hb2 : ∀ b' x, bs' b' = some x → ∃ b, ρ.of b' = some b ∧ bs b = some x := fun b' x h => by
    rw [hbs] at h
    simp only [Option.bind_eq_some_iff] at h
    exact h
  have hl : ∀ x, live lv0 bs' (Mem.fn m') x → live lv0 bs (Mem.fn m) x := fun x hx => by
    rcases hx with hx | ⟨b', k, c, g1, g2⟩
    · exact .inl hx
    · obtain ⟨b, g3, g4⟩ := hb2 _ _ g2
      obtain ⟨k1, g5⟩ := hsrc b' k b g1 g3
      exact .inr ⟨b, k1, c, g5, g4⟩
  refine ⟨bs', ?_, ⟨RlL.rep hb hl sl sl' _ hs h2.rep, h2.defers⟩, ?_⟩
  · exact {
      below := h1.below
      amb := h1.amb
      rng := fun b' x c h => by obtain ⟨b, g1, g2⟩ := hb2 _ _ h; exact h1.rng b x c g2
      inj := fun b1 b2 k1 k2 x c c' g1 g2 g3 g4 => by
        obtain ⟨c1, e1, e2⟩ := hb2 _ _ g3
        obtain ⟨c2, e3, e4⟩ := hb2 _ _ g4
        obtain ⟨_, s1⟩ := hsrc _ _ _ g1 e1
        obtain ⟨_, s2⟩ := hsrc _ _ _ g2 e3
        have := h1.inj _ _ _ _ _ _ _ s1 s2 e2 e4
        subst this
        exact hinj _ _ _ _ _ g1 g2 e1 e3
      blk := fun b' k hk => by
        have hr := hblk b' k hk
        cases k with
        | cells cs e =>
          simp only [RlK] at hr
          split at hr
          · rename_i b hρb
            split at hr
            · rename_i cs1 e1 hmb
              obtain ⟨rfl, hr⟩ := hr
              obtain ⟨x, c, us, g1, g2, g3⟩ := h1.blk b _ hmb
              exact ⟨x, c, us, (hb _ _ hρb).trans g1, g2, RlL.rep hb hl _ _ _ hr g3⟩
            · exact hr.elim
          · exact hr.elim
        | row z n ss f e =>
          simp only [RlK] at hr
          split at hr
          · rename_i b hρb
            split at hr
            · rename_i z1 n1 ss1 f1 e1 hmb
              obtain ⟨rfl, rfl, rfl, hr⟩ := hr
              obtain ⟨rfl, hf⟩ := sameRow_rep hr
              rcases h1.blk b _ hmb with ⟨g0, g1, g2⟩ | ⟨g0, x, cap, us, g1, g2, g3, g4, g5⟩
              · exact .inl ⟨g0, g1, (hb _ _ hρb).trans g2⟩
              · refine .inr ⟨g0, x, cap, us, (hb _ _ hρb).trans g1, g2, g3, g4, fun i hi => ?_⟩
                rw [← eq_of_heq (hf i hi)]
                exact RepC.ext (fun x _ hx => hl x hx) (fun _ _ _ => rfl) (Nat.le_refl _) _ _ _ _ _ (fun _ _ _ h => h) (g5 i hi)
            · exact hr.elim
          · rename_i hρb
            exact .inl ⟨hr.1, hr.2, by rw [hbs]; simp [hρb]⟩
      dom := fun b' hb' => by
        refine ⟨?_, fn_out (Nat.not_lt.1 hb')⟩
        cases hx : bs' b' with
        | none => rfl
        | some x => obtain ⟨b, g1, _⟩ := hb2 _ _ hx; exact absurd (hρ _ _ g1) hb' }
  · refine ⟨fun b x hx => ?_, fun x hx hlx => h3.hlv x hx (hl x hlx), h3.heap, h3.size⟩
    have hbn : b < n0 := by
      rcases Nat.lt_or_ge b n0 with h | h
      · exact h
      · rw [A.dom b (by omega)] at hx; cases hx
    rw [hb _ _ (h0 b hbn)]
    exact h3.hbs b x hx

/-- THE RULE OF LOOPS: 'I x' is what is known ahead of a round, 'Φ x' what holds of x, 'μ x' how many rounds are left at most, 'Z x o' whether the loop may end in o from x on. -/
theorem loop_rule {E : Env} {L : Loops} {c : Code} {n0 : Nat} (hm : E.P.follows .mixedOrders = true) (hE : EnvOK E) (hL : LoopsOK E.P L c) {X : Type} (I : X → St) (Φ : X → Prop) (μ : X → Nat) (Z : X → Ex × St → Prop)
    (round : ∀ x, Φ x → (sx E L n0 c (I x)).All fun r => match r.1 with
      | .normal => ∃ x', Φ x' ∧ μ x' < μ x ∧ Weak n0 r.2 (I x') ∧ ∀ o, Z x' o → Z x o
      | e => ∃ σ, Z x (e, σ) ∧ Weak n0 r.2 σ) :
    ∀ x, Φ x → ∀ (A : Anchor) (lv0 : Nat → Prop) (w0 : World) (a : Act) (w : World), A.n ≤ n0 → SInv A lv0 w0 (· < (I x).2.length) (I x) a w →
      (Code.loop c).wp E.P (fun e a' w' => ∃ o, Z x o ∧ e = o.1.out ∧ SInv A lv0 w0 (· < o.2.2.length) o.2 a' w') a w := by
  intro x hx A lv0 w0 a w hA hi
  have key : ∀ (n : Nat) (y : X), μ y < n → Φ y → (∀ o, Z y o → Z x o) → ∀ (a : Act) (w : World), SInv A lv0 w0 (· < (I y).2.length) (I y) a w →
      Code.rounds E.P c (fun e a' w' => ∃ o, Z x o ∧ e = o.1.out ∧ SInv A lv0 w0 (· < o.2.2.length) o.2 a' w') n a w := by
    intro n
    induction n with
    | zero => intro y h; omega
    | succ n ih =>
      intro y hμ hy hz a w hi
      obtain ⟨⟨ex, σ'⟩, h1, h2⟩ := T.is_of_all (round y hy)
      have hb := sx_sound hm hE c (I y) (ex, σ') h1 hL A lv0 w0 a w hA hi
      refine wp_mono hb ?_
      rintro e a' w' ⟨rfl, h3⟩
      cases ex with
      | normal =>
        obtain ⟨y', k1, k2, k3, k4⟩ := h2
        exact ih y' (by omega) k1 (fun o ho => hz o (k4 o ho)) a' w' (k3 A lv0 w0 a' w' hA h3)
      | exit id =>
        obtain ⟨σ2, k1, k2⟩ := h2
        exact ⟨_, hz _ k1, rfl, k2 A lv0 w0 a' w' hA h3⟩
      | ret =>
        obtain ⟨σ2, k1, k2⟩ := h2
        exact ⟨_, hz _ k1, rfl, k2 A lv0 w0 a' w' hA h3⟩
  exact wp_loop_rounds (μ x + 1) (key (μ x + 1) x (Nat.lt_succ_self _) hx (fun _ h => h) a w hi)

/-- A summary of a loop out of the rule. -/
theorem loop_of {E : Env} {L : Loops} {c : Code} (hm : E.P.follows .mixedOrders = true) (hE : EnvOK E) (hL : LoopsOK E.P L c) {X : Type} (f : Nat → St → T (Ex × St)) (I : Nat → X → St) (Φ : X → Prop) (μ : X → Nat) (Z : Nat → X → Ex × St → Prop)
    (enter : ∀ n0 σ r, (f n0 σ).Is r → ∃ x, Φ x ∧ Weak n0 σ (I n0 x) ∧ ∀ o, Z n0 x o → o.1 = r.1 ∧ Weak n0 o.2 r.2)
    (round : ∀ n0 x, Φ x → (sx E L n0 c (I n0 x)).All fun r => match r.1 with
      | .normal => ∃ x', Φ x' ∧ μ x' < μ x ∧ Weak n0 r.2 (I n0 x') ∧ ∀ o, Z n0 x' o → Z n0 x o
      | e => ∃ σ, Z n0 x (e, σ) ∧ Weak n0 r.2 σ) : LoopOK E.P c f := by
  intro n0 σ r hr A lv0 w0 a w hA hi
  obtain ⟨x, h1, h2, h3⟩ := enter n0 σ r hr
  refine wp_mono (loop_rule hm hE hL (I n0) Φ μ (Z n0) (round n0) x h1 A lv0 w0 a w hA (h2 A lv0 w0 a w hA hi)) ?_
  rintro e a' w' ⟨o, k1, rfl, k3⟩
  obtain ⟨e1, e2⟩ := h3 o k1
  exact ⟨by rw [e1], e2 A lv0 w0 a' w' hA k3⟩

/-! ### Where the loops of a function stand -/
def bodyOf (P : Program) (f : FuncId) : Code := ((P.funcs[f]?).bind (·.body)).getD .skip
def loopAt (k : Nat) : List Code → Code
  | [] => .skip
  | l :: rest => match firstReg l with | some j => bif Nat.beq j k then l else loopAt k rest | none => loopAt k rest
def loopOf (P : Program) (f k : Nat) : Code := loopAt k (loopsIn (bodyOf P f))
def regsOf : List Code → List Nat
  | [] => []
  | l :: rest => match firstReg l with | some j => j :: regsOf rest | none => regsOf rest
def nodupB : List Nat → Bool
  | [] => true
  | a :: l => !(l.any fun b => Nat.beq a b) && nodupB l

theorem mem_regs : ∀ (l : List Code) (c : Code) (k : Nat), c ∈ l → firstReg c = some k → k ∈ regsOf l
  | [], _, _, h, _ => by cases h
  | d :: l, c, k, h, hk => by
    rcases List.mem_cons.1 h with rfl | h
    · simp [regsOf, hk]
    · have := mem_regs l c k h hk
      unfold regsOf
      split
      · exact List.mem_cons_of_mem _ this
      · exact this
theorem loopAt_eq : ∀ (l : List Code) (c : Code) (k : Nat), nodupB (regsOf l) = true → c ∈ l → firstReg c = some k → loopAt k l = c
  | [], _, _, _, h, _ => by cases h
  | d :: l, c, k, hn, h, hk => by
    rcases List.mem_cons.1 h with rfl | h
    · simp [loopAt, hk]
    · have hm := mem_regs l c k h hk
      unfold regsOf at hn
      split at hn
      · rename_i j hj
        simp only [nodupB, Bool.and_eq_true, Bool.not_eq_true', List.any_eq_false] at hn
        have hjk : Nat.beq j k = false := by
          have := hn.1 k hm
          cases hb : Nat.beq j k
          · rfl
          · exact absurd hb this
        simp only [loopAt, hj, hjk, cond_false]
        exact loopAt_eq l c k hn.2 h hk
      · rename_i hj
        simp only [loopAt, hj]
        exact loopAt_eq l c k hn h hk

def loopsOf (l : List (Nat × Loops)) : FuncId → Loops := fun f => (List.lookup f l).getD []

theorem lookup_mem {α : Type} : ∀ {l : List (Nat × α)} {k : Nat} {v : α}, List.lookup k l = some v → (k, v) ∈ l
  | [], k, v, h => by simp at h
  | (j, u) :: l, k, v, h => by
    rw [List.lookup_cons] at h
    split at h
    · rename_i hjk
      have : k = j := by simpa using hjk
      subst this
      cases h
      simp
    · exact List.mem_cons_of_mem _ (lookup_mem h)

theorem loopsOK_of {P : Program} {f : FuncId} {L : Loops} (hu : nodupB (regsOf (loopsIn (bodyOf P f))) = true) (h : ∀ k g, (k, LoopC.sum g) ∈ L → LoopOK P (loopOf P f k) g) : LoopsOK P L (bodyOf P f) :=
  fun l hl k g hk hg => by
    have := h k g (lookup_mem hg)
    unfold loopOf at this
    rwa [loopAt_eq _ l k hu hl hk] at this
theorem loopsOK_none {P : Program} {c : Code} : LoopsOK P [] c := fun l hl k g hk hg => by simp at hg
/-- Loops that are only gone round some times. -/
theorem loopsOK_un {P : Program} {L : Loops} {c : Code} (h : ∀ p ∈ L, ∃ n, p.2 = .un n) : LoopsOK P L c := fun l hl k g hk hg => by
  obtain ⟨n, hn⟩ := h _ (lookup_mem hg)
  cases hn

theorem allOKL {P : Program} (hm : P.follows .mixedOrders = true) {l : List (Nat × Con)} (h : ∀ p ∈ l, ConOK P p.1 p.2) {LL : List (Nat × Loops)} (hL : ∀ p ∈ LL, LoopsOK P p.2 (bodyOf P p.1)) : AllOK P (conOf l) (loopsOf LL) :=
  ⟨hm, conOf_ok h, fun f fn c hf hc => by
    have hb : bodyOf P f = c := by simp [bodyOf, hf, hc]
    unfold loopsOf
    cases hl : List.lookup f LL with
    | none => exact loopsOK_none
    | some L => rw [← hb]; exact hL _ (lookup_mem hl)⟩
theorem envOK {P : Program} {con : FuncId → Option Con} {LL : FuncId → Loops} (h : AllOK P con LL) (n : Nat) : EnvOK ⟨P, con, scall P con LL n⟩ := ⟨h.con, fun f => scall_ok h n f⟩
end Go.RX
