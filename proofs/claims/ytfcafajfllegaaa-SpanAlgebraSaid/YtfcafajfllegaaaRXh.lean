/- A step does what it says; a region in the order of the text. -/
import Derived.Test.YtfcafajfllegaaaRXg
set_option linter.unusedVariables false
set_option linter.unusedSimpArgs false
namespace Go.RX
open Go Go.RowKit

/-- A contract holds. -/
def ConOK (P : Program) (f : FuncId) (c : Con) : Prop :=
  ∀ (args : List SV) (r : SV), (c args).Is r → ∀ (lv : Nat → Prop) (w : World) (vals : List Value), (∀ x, lv x → x < w.heap.size) → RepL (fun _ => none) lv w args vals →
    Calls P f vals.toArray w fun e w' => ∃ v, e = .returned v ∧ Below w.heap.size w w' ∧ Rep (fun _ => none) lv w' r v

/-- Going into a body does what it says. -/
def InlOK (P : Program) (f : FuncId) (X : List SV → Mem → T (SV × Mem)) : Prop :=
  (∀ (args : List SV) (m m' : Mem) (r : SV), (X args m).Is (r, m') → Le m m') ∧
  ∀ (args : List SV) (m m' : Mem) (r : SV), (X args m).Is (r, m') → ∀ (lv0 : Nat → Prop) (w0 w : World) (bs : Bs) (vals : List Value),
    MInv lv0 w0 bs (· < m.length) m.fn w → RepL bs (live lv0 bs m.fn) w args vals →
    Calls P f vals.toArray w fun e w' => ∃ v bs', e = .returned v ∧ MInv lv0 w0 bs' (· < m'.length) m'.fn w' ∧
      Ext bs (live lv0 bs m.fn) w bs' (live lv0 bs' m'.fn) w' ∧ Rep bs' (live lv0 bs' m'.fn) w' r v

structure EnvOK (E : Env) : Prop where
  con : ∀ f c, E.con f = some c → ConOK E.P f c
  inl : ∀ f, InlOK E.P f (E.inl f)

section
variable {E : Env} {lv0 : Nat → Prop} {w0 w : World} {bs : Bs} {D : Nat → Prop} {m : Mem} {nid : Nat} {sl : List SV} {a : Act}

theorem live_lt {mf : Nat → Option Blk} (hi : MInv lv0 w0 bs D mf w) {x : Nat} (h : live lv0 bs mf x) : x < w.heap.size := by
  rcases h with h | ⟨b, k, c, h1, h2⟩
  · exact Nat.lt_of_lt_of_le (hi.amb x h) hi.below.size
  · exact (hi.rng _ _ _ h2).2

/-- What the surroundings may not write while values are seen: the blocks lent are given free. -/
def lent (lv0 : Nat → Prop) (bs : Bs) (mf : Nat → Option Blk) (rd : List Nat) (x : Nat) : Prop := live lv0 bs mf x ∧ ∀ b ∈ rd, ∀ c, bs b ≠ some (x, c)

mutual
theorem viewS_sound {mf : Nat → Option Blk} (hi : MInv lv0 w0 bs D mf w) (lv : Nat → Prop) (hlv : ∀ x, lv x → live lv0 bs mf x) : ∀ (s s' : SV) (rd : List Nat) (v : Value), viewS mf s = some (s', rd) → (∀ b ∈ rd, ∀ x c, bs b = some (x, c) → ¬ lv x) →
    Rep bs (live lv0 bs mf) w s v → Rep (fun _ => none) lv w s' v
  | .any, s', rd, v, h, hl, hr => by simp [viewS] at h
  | .lit u, s', rd, v, h, hl, hr => by simp only [viewS, Option.some.injEq, Prod.mk.injEq] at h; obtain ⟨rfl, rfl⟩ := h; exact hr
  | .kb u, s', rd, v, h, hl, hr => by simp only [viewS, Option.some.injEq, Prod.mk.injEq] at h; obtain ⟨rfl, rfl⟩ := h; exact hr
  | .ki u n, s', rd, v, h, hl, hr => by simp only [viewS, Option.some.injEq, Prod.mk.injEq] at h; obtain ⟨rfl, rfl⟩ := h; exact hr
  | .ptr _ _, s', rd, v, h, hl, hr => by simp [viewS] at h
  | .optr _ _ _ _, s', rd, v, h, hl, hr => by simp [viewS] at h
  | .agg cs, s', rd, v, h, hl, ⟨us, h1, h2⟩ => by
    simp only [viewS, Option.map_eq_some_iff] at h
    obtain ⟨⟨cs', rd'⟩, h3, h4⟩ := h
    obtain ⟨rfl, rfl⟩ := Prod.mk.inj h4
    exact ⟨us, h1, viewsS_sound hi lv hlv cs cs' _ us h3 hl h2⟩
  | .tup cs, s', rd, v, h, hl, ⟨us, h1, h2⟩ => by
    simp only [viewS, Option.map_eq_some_iff] at h
    obtain ⟨⟨cs', rd'⟩, h3, h4⟩ := h
    obtain ⟨rfl, rfl⟩ := Prod.mk.inj h4
    exact ⟨us, h1, viewsS_sound hi lv hlv cs cs' _ us h3 hl h2⟩
  | .fn f as cs, s', rd, v, h, hl, ⟨us, ts, h1, h2, h3⟩ => by
    rw [viewS] at h
    split at h
    · rename_i p q hp hq
      simp only [Option.some.injEq, Prod.mk.injEq] at h
      obtain ⟨rfl, rfl⟩ := h
      exact ⟨us, ts, h1, viewsS_sound hi lv hlv as p.1 p.2 us hp (fun b hb => hl b (by simp [hb])) h2, viewsS_sound hi lv hlv cs q.1 q.2 ts hq (fun b hb => hl b (by simp [hb])) h3⟩
    · cases h
  | .own z b n, s', rd, v, h, hl, hr => by
    rw [viewS] at h
    split at h
    · rename_i z' n' ss f e hm
      simp only [Option.some.injEq, Prod.mk.injEq] at h
      obtain ⟨rfl, rfl⟩ := h
      exact own_row hi hlv hm (fun x c hbx => hl b (by simp) x c hbx) hr
    · cases h
  | .csl b off n ss, s', rd, v, h, hl, hr => by
    rw [viewS] at h
    split at h
    · rename_i cs e hm
      simp only [Option.map_eq_some_iff] at h
      obtain ⟨l, hp, h⟩ := h
      obtain ⟨rfl, rfl⟩ := Prod.mk.inj h
      exact csl_row hi hlv hm hp (fun x c hbx => hl b (by simp) x c hbx) hr
    · cases h
  | .row ss n f, s', rd, v, h, hl, hr => by
    simp only [viewS, Option.some.injEq, Prod.mk.injEq] at h
    obtain ⟨rfl, rfl⟩ := h
    exact RepE.ext (fun x _ hx => hlv x hx) (fun _ _ _ => rfl) (Nat.le_refl _) (.sl ss) (n, f) v hr
  | .rptr ss n f i o, s', rd, v, h, hl, ⟨x, off, h1, h2, g2, g3, g4⟩ => by
    simp only [viewS, Option.some.injEq, Prod.mk.injEq] at h
    obtain ⟨rfl, rfl⟩ := h
    exact ⟨x, off, h1, h2, g2, fun hx => g3 (hlv x hx), fun i hi' => RepC.ext (fun x _ hx => hlv x hx) (fun _ _ _ => rfl) (Nat.le_refl _) ss (f i) _ _ _ (fun _ _ _ h => h) (g4 i hi')⟩
theorem viewsS_sound {mf : Nat → Option Blk} (hi : MInv lv0 w0 bs D mf w) (lv : Nat → Prop) (hlv : ∀ x, lv x → live lv0 bs mf x) : ∀ (s s' : List SV) (rd : List Nat) (v : List Value), viewsS mf s = some (s', rd) → (∀ b ∈ rd, ∀ x c, bs b = some (x, c) → ¬ lv x) →
    RepL bs (live lv0 bs mf) w s v → RepL (fun _ => none) lv w s' v
  | [], s', rd, v, h, hl, hr => by simp only [viewsS, Option.some.injEq, Prod.mk.injEq] at h; obtain ⟨rfl, rfl⟩ := h; exact hr
  | s :: ss, s', rd, v, h, hl, ⟨u, us, h1, h2, h3⟩ => by
    rw [viewsS] at h
    split at h
    · rename_i p q hp hq
      simp only [Option.some.injEq, Prod.mk.injEq] at h
      obtain ⟨rfl, rfl⟩ := h
      exact ⟨u, us, h1, viewS_sound hi lv hlv s p.1 p.2 u hp (fun b hb => hl b (by simp [hb])) h2, viewsS_sound hi lv hlv ss q.1 q.2 us hq (fun b hb => hl b (by simp [hb])) h3⟩
    · cases h
end
end
end Go.RX
