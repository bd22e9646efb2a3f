/- The library's slices.Equal and slices.Concat of two, of numbers. -/
import Derived.Test.YtfcafajfllegaaaSPc
import Derived.Test.YtfcafajfllegaaaRXt
set_option linter.unusedVariables false
set_option linter.unusedSimpArgs false
set_option maxRecDepth 100000
namespace Go.RX.Span
open Go Go.RX

noncomputable def eqR (n : Nat) (f : Nat → Els [.int .i64]) (n1 : Nat) (f1 : Nat → Els [.int .i64]) : Bool := @decide (n = n1 ∧ ∀ i, i < n → (f i).1 = (f1 i).1) (Classical.propDecidable _)
theorem eqR_t {n n1 : Nat} {f f1 : Nat → Els [.int .i64]} : eqR n f n1 f1 = true ↔ n = n1 ∧ ∀ i, i < n → (f i).1 = (f1 i).1 := by
  unfold eqR
  exact @decide_eq_true_iff _ (Classical.propDecidable _)
noncomputable abbrev E0 : Env := ⟨P, conOf [], scall P (conOf []) noLoops 10⟩
theorem E0_ok : EnvOK E0 := envOK (allOK mixed (fun p hp => absurd hp (by simp))) 10
theorem none_ok : ∀ p ∈ ([] : List (Nat × Con)), ConOK P p.1 p.2 := fun p hp => absurd hp (by simp)
def PreE (n0 n n1 : Nat) (len : Int) : Prop := n0 = 0 ∧ n = n1 ∧ len = n ∧ n ≤ top
structure XE where
  (n n1 : Nat) (f f1 : Nat → Els [.int .i64]) (len : Int) (k : Nat)
noncomputable def VE (x : XE) : Few := ([.row [.int .i64] x.n x.f, .row [.int .i64] x.n1 x.f1, .any, .lit (.int .i64 x.len), .lit (.int .i64 x.k)], [])
noncomputable def OE (x : XE) : Ex × Few := (.exit 0, ([.row [.int .i64] x.n x.f, .row [.int .i64] x.n1 x.f1, .any, .any, .any], []))
noncomputable def OE' : Ex × Few := (.ret, ([.any, .any, .kb false, .any, .any], []))
def PhiE (n0 : Nat) (x : XE) : Prop := (n0 = 0 ∧ x.n = x.n1 ∧ x.len = x.n ∧ x.n ≤ top) ∧ x.k ≤ x.n ∧ ∀ i, i < x.k → (x.f i).1 = (x.f1 i).1
def ZE (x : XE) (o : Ex × Few) : Prop := (eqR x.n x.f x.n1 x.f1 = true → o = OE x) ∧ (eqR x.n x.f x.n1 x.f1 = false → o = OE')
noncomputable def gE : Nat → Few → T (Ex × Few)
  | n0, ([.row [.int .i64] n f, .row [.int .i64] n1 f1, _, .lit (.int .i64 len), .ki .i64 (.ofNat 0)], []) =>
    .ask (PreE n0 n n1 len) (.br (lk eqR n f n1 f1) (.ret (.exit 0, ([.row [.int .i64] n f, .row [.int .i64] n1 f1, .any, .any, .any], []))) (.ret (.ret, ([.any, .any, .kb false, .any, .any], []))))
  | _, _ => .stuck 1
noncomputable abbrev l36 : List (Nat × Loops) := [(36, [(4, .sum (few 26 [0, 1, 4, 12, 13] gE))])]
noncomputable abbrev l37 : List (Nat × Loops) := [(37, [(3, .un 3), (11, .un 3)])]
end Go.RX.Span
