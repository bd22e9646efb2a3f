/- Hull of the program: the walk. -/
import Derived.Test.YtfcafajfllegaaaSRg
set_option linter.unusedVariables false
set_option linter.unusedSimpArgs false
set_option maxRecDepth 100000
namespace Go.RX.Span
open Go Go.RX

theorem eu_le {a b : Int} (ha : 0 ≤ a) (hb : 1 ≤ b) : 1 ≤ euG a b ∧ euG a b ≤ b ∧ euG a b ∣ a ∧ euG a b ∣ b ∧ ∀ d : Int, d ∣ a → d ∣ b → d ∣ euG a b := by
  obtain ⟨h1, _, _⟩ := eu_spec (a := a) (b := b) ha (by omega)
  have hpos : 0 < Int.gcd a b := Int.gcd_pos_of_ne_zero_right a (by omega)
  have hd : euG a b ∣ b := by rw [h1]; exact Int.gcd_dvd_right a b
  refine ⟨by rw [h1]; omega, Int.le_of_dvd (by omega) hd, by rw [h1]; exact Int.gcd_dvd_left a b, hd, fun d h2 h3 => ?_⟩
  rw [h1]
  exact Int.dvd_coe_gcd h2 h3
/-- The step of a hull: by the distance of the firsts, and the steps. -/
def huD (A B : Int) : Int := max (A - B) (B - A)
def hu1 (A s C B : Int) : Int := if C > 1 then euG (huD A B) s else huD A B
def hu2 (A s C B t D : Int) : Int := if D > 1 then euG (hu1 A s C B) t else hu1 A s C B
def huX (A s C B t D : Int) : Int := max (sLast A s C) (sLast B t D)
def huF (A s C B t D : Int) : Int := if C = 0 then B else if D = 0 then A else min A B
def huB (A s C B t D : Int) : Int := if C = 0 then t else if D = 0 then s else if hu2 A s C B t D = 0 then 1 else hu2 A s C B t D
def huC (A s C B t D : Int) : Int := if C = 0 then D else if D = 0 then C else if hu2 A s C B t D = 0 then 1 else (huX A s C B t D - min A B).tdiv (hu2 A s C B t D) + 1
def haF (a b c x y z : Int) : Int := huF (sA a b c) (sS a b c) (ofC a b c) (sA x y z) (sS x y z) (ofC x y z)
def haB (a b c x y z : Int) : Int := huB (sA a b c) (sS a b c) (ofC a b c) (sA x y z) (sS x y z) (ofC x y z)
def haC (a b c x y z : Int) : Int := huC (sA a b c) (sS a b c) (ofC a b c) (sA x y z) (sS x y z) (ofC x y z)
def hlL (a b c x y z : Int) : Int := if ckd a b c x y z ≠ 0 then 0 else nLow (haF a b c x y z) (haB a b c x y z) (haC a b c x y z)
def hlH (a b c x y z : Int) : Int := if ckd a b c x y z ≠ 0 then 0 else nHigh (haF a b c x y z) (haB a b c x y z) (haC a b c x y z)
def hlS (a b c x y z : Int) : Int := if ckd a b c x y z ≠ 0 then 0 else nStr (haF a b c x y z) (haB a b c x y z) (haC a b c x y z)
def hlE (a b c x y z : Int) : Int := if ckd a b c x y z ≠ 0 then ckd a b c x y z else nErr (haF a b c x y z) (haB a b c x y z) (haC a b c x y z)

noncomputable abbrev l49 : List (Nat × Loops) := [(49, [(12, .un 3)])] --%K
theorem l49_ok : ∀ p ∈ l49, LoopsOK P p.2 (bodyOf P p.1) := by
  intro p hp
  simp only [l49, List.mem_singleton] at hp
  subst hp
  exact loopsOK_un fun q hq => by simp only [List.mem_singleton] at hq; subst hq; exact ⟨3, rfl⟩
noncomputable def c_Hull : Con := fun args => match args with
  | [.agg [.lit (.int .i64 a), .lit (.int .i64 b), .lit (.int .i64 c)], .agg [.lit (.int .i64 x), .lit (.int .i64 y), .lit (.int .i64 z)]] =>
    .ask (I64 a ∧ I64 b ∧ I64 c ∧ I64 x ∧ I64 y ∧ I64 z) (.ret (.tup [.agg [.lit (.int .i64 (lk hlL a b c x y z)), .lit (.int .i64 (lk hlH a b c x y z)), .lit (.int .i64 (lk hlS a b c x y z))], .lit (.int .i64 (lk hlE a b c x y z))]))
  | _ => .stuck 1
set_option maxRecDepth 100000 in
theorem t_Hull (a b c x y z : Int) : conB Go.Proofs.Try.prog (conOf ke) (loopsOf l49) 10 49 [.agg [.lit (.int .i64 a), .lit (.int .i64 b), .lit (.int .i64 c)], .agg [.lit (.int .i64 x), .lit (.int .i64 y), .lit (.int .i64 z)]] =
    T.ask (I64 a ∧ I64 b ∧ I64 c ∧ I64 x ∧ I64 y ∧ I64 z)
    (T.br (U.ne (lk ckd a b c x y z) (0 : Int))
      (T.ret
        (SV.tup
          [SV.agg
              [SV.lit (Value.int IntKind.i64 (0 : Int)), SV.lit (Value.int IntKind.i64 (0 : Int)),
                SV.lit (Value.int IntKind.i64 (0 : Int))],
            SV.lit (Value.int IntKind.i64 (lk ckd a b c x y z))]))
      (T.ask
        (a ≤ b →
          c ≠ (0 : Int) ∧
            (-9223372036854775807 : Int) ≤ c ∧ b - a < (9223372036854775807 : Int) ∧ I64 a ∧ I64 b ∧ I64 c)
        (T.ask
          (lk ofB a b c < (0 : Int) →
            lk ofC a b c ≠ (0 : Int) →
              I64 (lk ofC a b c - (1 : Int)) ∧
                I64 (lk ofB a b c * (lk ofC a b c - (1 : Int))) ∧
                  I64 (lk ofF a b c + lk ofB a b c * (lk ofC a b c - (1 : Int))) ∧ I64 (-lk ofB a b c))
          (T.ask
            (x ≤ y →
              z ≠ (0 : Int) ∧
                (-9223372036854775807 : Int) ≤ z ∧ y - x < (9223372036854775807 : Int) ∧ I64 x ∧ I64 y ∧ I64 z)
            (T.ask
              (lk ofB x y z < (0 : Int) →
                lk ofC x y z ≠ (0 : Int) →
                  I64 (lk ofC x y z - (1 : Int)) ∧
                    I64 (lk ofB x y z * (lk ofC x y z - (1 : Int))) ∧
                      I64 (lk ofF x y z + lk ofB x y z * (lk ofC x y z - (1 : Int))) ∧ I64 (-lk ofB x y z))
              (T.br (U.eq (lk ofC a b c) (0 : Int))
                (T.ask
                  ((0 : Int) < lk ofC x y z →
                    I64 (lk ofC x y z - (1 : Int)) ∧
                      I64 (lk uB (lk ofF x y z) (lk ofB x y z) (lk ofC x y z) * (lk ofC x y z - (1 : Int))) ∧
                        I64
                          (lk uF (lk ofF x y z) (lk ofB x y z) (lk ofC x y z) +
                            lk uB (lk ofF x y z) (lk ofB x y z) (lk ofC x y z) * (lk ofC x y z - (1 : Int))))
                  (T.ret
                    (SV.tup
                      [SV.agg
                          [SV.lit
                              (Value.int IntKind.i64
                                (lk nLow (lk uF (lk ofF x y z) (lk ofB x y z) (lk ofC x y z))
                                  (lk uB (lk ofF x y z) (lk ofB x y z) (lk ofC x y z)) (lk ofC x y z))),
                            SV.lit
                              (Value.int IntKind.i64
                                (lk nHigh (lk uF (lk ofF x y z) (lk ofB x y z) (lk ofC x y z))
                                  (lk uB (lk ofF x y z) (lk ofB x y z) (lk ofC x y z)) (lk ofC x y z))),
                            SV.lit
                              (Value.int IntKind.i64
                                (lk nStr (lk uF (lk ofF x y z) (lk ofB x y z) (lk ofC x y z))
                                  (lk uB (lk ofF x y z) (lk ofB x y z) (lk ofC x y z)) (lk ofC x y z)))],
                        SV.lit
                          (Value.int IntKind.i64
                            (lk nErr (lk uF (lk ofF x y z) (lk ofB x y z) (lk ofC x y z))
                              (lk uB (lk ofF x y z) (lk ofB x y z) (lk ofC x y z)) (lk ofC x y z)))])))
                (T.br (U.eq (lk ofC x y z) (0 : Int))
                  (T.ask
                    ((0 : Int) < lk ofC a b c →
                      I64 (lk ofC a b c - (1 : Int)) ∧
                        I64 (lk uB (lk ofF a b c) (lk ofB a b c) (lk ofC a b c) * (lk ofC a b c - (1 : Int))) ∧
                          I64
                            (lk uF (lk ofF a b c) (lk ofB a b c) (lk ofC a b c) +
                              lk uB (lk ofF a b c) (lk ofB a b c) (lk ofC a b c) * (lk ofC a b c - (1 : Int))))
                    (T.ret
                      (SV.tup
                        [SV.agg
                            [SV.lit
                                (Value.int IntKind.i64
                                  (lk nLow (lk uF (lk ofF a b c) (lk ofB a b c) (lk ofC a b c))
                                    (lk uB (lk ofF a b c) (lk ofB a b c) (lk ofC a b c)) (lk ofC a b c))),
                              SV.lit
                                (Value.int IntKind.i64
                                  (lk nHigh (lk uF (lk ofF a b c) (lk ofB a b c) (lk ofC a b c))
                                    (lk uB (lk ofF a b c) (lk ofB a b c) (lk ofC a b c)) (lk ofC a b c))),
                              SV.lit
                                (Value.int IntKind.i64
                                  (lk nStr (lk uF (lk ofF a b c) (lk ofB a b c) (lk ofC a b c))
                                    (lk uB (lk ofF a b c) (lk ofB a b c) (lk ofC a b c)) (lk ofC a b c)))],
                          SV.lit
                            (Value.int IntKind.i64
                              (lk nErr (lk uF (lk ofF a b c) (lk ofB a b c) (lk ofC a b c))
                                (lk uB (lk ofF a b c) (lk ofB a b c) (lk ofC a b c)) (lk ofC a b c)))])))
                  (T.ask
                    (I64 (lk ofC a b c - (1 : Int)) ∧
                      I64 (lk uB (lk ofF a b c) (lk ofB a b c) (lk ofC a b c) * (lk ofC a b c - (1 : Int))) ∧
                        I64
                          (lk uF (lk ofF a b c) (lk ofB a b c) (lk ofC a b c) +
                            lk uB (lk ofF a b c) (lk ofB a b c) (lk ofC a b c) * (lk ofC a b c - (1 : Int))))
                    (T.ask
                      (I64 (lk ofC x y z - (1 : Int)) ∧
                        I64 (lk uB (lk ofF x y z) (lk ofB x y z) (lk ofC x y z) * (lk ofC x y z - (1 : Int))) ∧
                          I64
                            (lk uF (lk ofF x y z) (lk ofB x y z) (lk ofC x y z) +
                              lk uB (lk ofF x y z) (lk ofB x y z) (lk ofC x y z) * (lk ofC x y z - (1 : Int))))
                      (T.br (U.gt (lk ofC a b c) (1 : Int))
                        (T.ask
                          ((0 : Int) ≤
                              U.mm true
                                (U.sub IntKind.i64 (lk uF (lk ofF a b c) (lk ofB a b c) (lk ofC a b c))
                                  (lk uF (lk ofF x y z) (lk ofB x y z) (lk ofC x y z)))
                                (U.sub IntKind.i64 (lk uF (lk ofF x y z) (lk ofB x y z) (lk ofC x y z))
                                  (lk uF (lk ofF a b c) (lk ofB a b c) (lk ofC a b c))) ∧
                            U.mm true
                                  (U.sub IntKind.i64 (lk uF (lk ofF a b c) (lk ofB a b c) (lk ofC a b c))
                                    (lk uF (lk ofF x y z) (lk ofB x y z) (lk ofC x y z)))
                                  (U.sub IntKind.i64 (lk uF (lk ofF x y z) (lk ofB x y z) (lk ofC x y z))
                                    (lk uF (lk ofF a b c) (lk ofB a b c) (lk ofC a b c))) ≤
                                (4000000 : Int) ∧
                              (0 : Int) ≤ lk uB (lk ofF a b c) (lk ofB a b c) (lk ofC a b c) ∧
                                lk uB (lk ofF a b c) (lk ofB a b c) (lk ofC a b c) ≤ (4000000 : Int))
                          (T.br (U.gt (lk ofC x y z) (1 : Int))
                            (T.ask
                              ((0 : Int) ≤
                                  lk euG
                                    (U.mm true
                                      (U.sub IntKind.i64 (lk uF (lk ofF a b c) (lk ofB a b c) (lk ofC a b c))
                                        (lk uF (lk ofF x y z) (lk ofB x y z) (lk ofC x y z)))
                                      (U.sub IntKind.i64 (lk uF (lk ofF x y z) (lk ofB x y z) (lk ofC x y z))
                                        (lk uF (lk ofF a b c) (lk ofB a b c) (lk ofC a b c))))
                                    (lk uB (lk ofF a b c) (lk ofB a b c) (lk ofC a b c)) ∧
                                lk euG
                                      (U.mm true
                                        (U.sub IntKind.i64 (lk uF (lk ofF a b c) (lk ofB a b c) (lk ofC a b c))
                                          (lk uF (lk ofF x y z) (lk ofB x y z) (lk ofC x y z)))
                                        (U.sub IntKind.i64 (lk uF (lk ofF x y z) (lk ofB x y z) (lk ofC x y z))
                                          (lk uF (lk ofF a b c) (lk ofB a b c) (lk ofC a b c))))
                                      (lk uB (lk ofF a b c) (lk ofB a b c) (lk ofC a b c)) ≤
                                    (4000000 : Int) ∧
                                  (0 : Int) ≤ lk uB (lk ofF x y z) (lk ofB x y z) (lk ofC x y z) ∧
                                    lk uB (lk ofF x y z) (lk ofB x y z) (lk ofC x y z) ≤ (4000000 : Int))
                              (T.br
                                (U.eq
                                  (lk euG
                                    (lk euG
                                      (U.mm true
                                        (U.sub IntKind.i64 (lk uF (lk ofF a b c) (lk ofB a b c) (lk ofC a b c))
                                          (lk uF (lk ofF x y z) (lk ofB x y z) (lk ofC x y z)))
                                        (U.sub IntKind.i64 (lk uF (lk ofF x y z) (lk ofB x y z) (lk ofC x y z))
                                          (lk uF (lk ofF a b c) (lk ofB a b c) (lk ofC a b c))))
                                      (lk uB (lk ofF a b c) (lk ofB a b c) (lk ofC a b c)))
                                    (lk uB (lk ofF x y z) (lk ofB x y z) (lk ofC x y z)))
                                  (0 : Int))
                                (T.ask
                                  ((0 : Int) < (1 : Int) →
                                    I64 ((1 : Int) - (1 : Int)) ∧
                                      I64 ((1 : Int) * ((1 : Int) - (1 : Int))) ∧
                                        I64
                                          (U.mm false (lk uF (lk ofF a b c) (lk ofB a b c) (lk ofC a b c))
                                              (lk uF (lk ofF x y z) (lk ofB x y z) (lk ofC x y z)) +
                                            (1 : Int) * ((1 : Int) - (1 : Int))))
                                  (T.ret
                                    (SV.tup
                                      [SV.agg
                                          [SV.lit
                                              (Value.int IntKind.i64
                                                (lk nLow
                                                  (U.mm false (lk uF (lk ofF a b c) (lk ofB a b c) (lk ofC a b c))
                                                    (lk uF (lk ofF x y z) (lk ofB x y z) (lk ofC x y z)))
                                                  (1 : Int) (1 : Int))),
                                            SV.lit
                                              (Value.int IntKind.i64
                                                (lk nHigh
                                                  (U.mm false (lk uF (lk ofF a b c) (lk ofB a b c) (lk ofC a b c))
                                                    (lk uF (lk ofF x y z) (lk ofB x y z) (lk ofC x y z)))
                                                  (1 : Int) (1 : Int))),
                                            SV.lit
                                              (Value.int IntKind.i64
                                                (lk nStr
                                                  (U.mm false (lk uF (lk ofF a b c) (lk ofB a b c) (lk ofC a b c))
                                                    (lk uF (lk ofF x y z) (lk ofB x y z) (lk ofC x y z)))
                                                  (1 : Int) (1 : Int)))],
                                        SV.lit
                                          (Value.int IntKind.i64
                                            (lk nErr
                                              (U.mm false (lk uF (lk ofF a b c) (lk ofB a b c) (lk ofC a b c))
                                                (lk uF (lk ofF x y z) (lk ofB x y z) (lk ofC x y z)))
                                              (1 : Int) (1 : Int)))])))
                                (T.ask
                                  (lk euG
                                      (lk euG
                                        (U.mm true
                                          (U.sub IntKind.i64 (lk uF (lk ofF a b c) (lk ofB a b c) (lk ofC a b c))
                                            (lk uF (lk ofF x y z) (lk ofB x y z) (lk ofC x y z)))
                                          (U.sub IntKind.i64 (lk uF (lk ofF x y z) (lk ofB x y z) (lk ofC x y z))
                                            (lk uF (lk ofF a b c) (lk ofB a b c) (lk ofC a b c))))
                                        (lk uB (lk ofF a b c) (lk ofB a b c) (lk ofC a b c)))
                                      (lk uB (lk ofF x y z) (lk ofB x y z) (lk ofC x y z)) ≠
                                    (0 : Int))
                                  (T.ask
                                    ((0 : Int) <
                                        U.add IntKind.i64
                                          (U.quo IntKind.i64
                                            (U.sub IntKind.i64
                                              (U.mm true
                                                (lk sLast (lk uF (lk ofF a b c) (lk ofB a b c) (lk ofC a b c))
                                                  (lk uB (lk ofF a b c) (lk ofB a b c) (lk ofC a b c)) (lk ofC a b c))
                                                (lk sLast (lk uF (lk ofF x y z) (lk ofB x y z) (lk ofC x y z))
                                                  (lk uB (lk ofF x y z) (lk ofB x y z) (lk ofC x y z)) (lk ofC x y z)))
                                              (U.mm false (lk uF (lk ofF a b c) (lk ofB a b c) (lk ofC a b c))
                                                (lk uF (lk ofF x y z) (lk ofB x y z) (lk ofC x y z))))
                                            (lk euG
                                              (lk euG
                                                (U.mm true
                                                  (U.sub IntKind.i64
                                                    (lk uF (lk ofF a b c) (lk ofB a b c) (lk ofC a b c))
                                                    (lk uF (lk ofF x y z) (lk ofB x y z) (lk ofC x y z)))
                                                  (U.sub IntKind.i64
                                                    (lk uF (lk ofF x y z) (lk ofB x y z) (lk ofC x y z))
                                                    (lk uF (lk ofF a b c) (lk ofB a b c) (lk ofC a b c))))
                                                (lk uB (lk ofF a b c) (lk ofB a b c) (lk ofC a b c)))
                                              (lk uB (lk ofF x y z) (lk ofB x y z) (lk ofC x y z))))
                                          (1 : Int) →
                                      I64
                                          (U.add IntKind.i64
                                              (U.quo IntKind.i64
                                                (U.sub IntKind.i64
                                                  (U.mm true
                                                    (lk sLast (lk uF (lk ofF a b c) (lk ofB a b c) (lk ofC a b c))
                                                      (lk uB (lk ofF a b c) (lk ofB a b c) (lk ofC a b c))
                                                      (lk ofC a b c))
                                                    (lk sLast (lk uF (lk ofF x y z) (lk ofB x y z) (lk ofC x y z))
                                                      (lk uB (lk ofF x y z) (lk ofB x y z) (lk ofC x y z))
                                                      (lk ofC x y z)))
                                                  (U.mm false (lk uF (lk ofF a b c) (lk ofB a b c) (lk ofC a b c))
                                                    (lk uF (lk ofF x y z) (lk ofB x y z) (lk ofC x y z))))
                                                (lk euG
                                                  (lk euG
                                                    (U.mm true
                                                      (U.sub IntKind.i64
                                                        (lk uF (lk ofF a b c) (lk ofB a b c) (lk ofC a b c))
                                                        (lk uF (lk ofF x y z) (lk ofB x y z) (lk ofC x y z)))
                                                      (U.sub IntKind.i64
                                                        (lk uF (lk ofF x y z) (lk ofB x y z) (lk ofC x y z))
                                                        (lk uF (lk ofF a b c) (lk ofB a b c) (lk ofC a b c))))
                                                    (lk uB (lk ofF a b c) (lk ofB a b c) (lk ofC a b c)))
                                                  (lk uB (lk ofF x y z) (lk ofB x y z) (lk ofC x y z))))
                                              (1 : Int) -
                                            (1 : Int)) ∧
                                        I64
                                            (lk euG
                                                (lk euG
                                                  (U.mm true
                                                    (U.sub IntKind.i64
                                                      (lk uF (lk ofF a b c) (lk ofB a b c) (lk ofC a b c))
                                                      (lk uF (lk ofF x y z) (lk ofB x y z) (lk ofC x y z)))
                                                    (U.sub IntKind.i64
                                                      (lk uF (lk ofF x y z) (lk ofB x y z) (lk ofC x y z))
                                                      (lk uF (lk ofF a b c) (lk ofB a b c) (lk ofC a b c))))
                                                  (lk uB (lk ofF a b c) (lk ofB a b c) (lk ofC a b c)))
                                                (lk uB (lk ofF x y z) (lk ofB x y z) (lk ofC x y z)) *
                                              (U.add IntKind.i64
                                                  (U.quo IntKind.i64
                                                    (U.sub IntKind.i64
                                                      (U.mm true
                                                        (lk sLast (lk uF (lk ofF a b c) (lk ofB a b c) (lk ofC a b c))
                                                          (lk uB (lk ofF a b c) (lk ofB a b c) (lk ofC a b c))
                                                          (lk ofC a b c))
                                                        (lk sLast (lk uF (lk ofF x y z) (lk ofB x y z) (lk ofC x y z))
                                                          (lk uB (lk ofF x y z) (lk ofB x y z) (lk ofC x y z))
                                                          (lk ofC x y z)))
                                                      (U.mm false (lk uF (lk ofF a b c) (lk ofB a b c) (lk ofC a b c))
                                                        (lk uF (lk ofF x y z) (lk ofB x y z) (lk ofC x y z))))
                                                    (lk euG
                                                      (lk euG
                                                        (U.mm true
                                                          (U.sub IntKind.i64
                                                            (lk uF (lk ofF a b c) (lk ofB a b c) (lk ofC a b c))
                                                            (lk uF (lk ofF x y z) (lk ofB x y z) (lk ofC x y z)))
                                                          (U.sub IntKind.i64
                                                            (lk uF (lk ofF x y z) (lk ofB x y z) (lk ofC x y z))
                                                            (lk uF (lk ofF a b c) (lk ofB a b c) (lk ofC a b c))))
                                                        (lk uB (lk ofF a b c) (lk ofB a b c) (lk ofC a b c)))
                                                      (lk uB (lk ofF x y z) (lk ofB x y z) (lk ofC x y z))))
                                                  (1 : Int) -
                                                (1 : Int))) ∧
                                          I64
                                            (U.mm false (lk uF (lk ofF a b c) (lk ofB a b c) (lk ofC a b c))
                                                (lk uF (lk ofF x y z) (lk ofB x y z) (lk ofC x y z)) +
                                              lk euG
                                                  (lk euG
                                                    (U.mm true
                                                      (U.sub IntKind.i64
                                                        (lk uF (lk ofF a b c) (lk ofB a b c) (lk ofC a b c))
                                                        (lk uF (lk ofF x y z) (lk ofB x y z) (lk ofC x y z)))
                                                      (U.sub IntKind.i64
                                                        (lk uF (lk ofF x y z) (lk ofB x y z) (lk ofC x y z))
                                                        (lk uF (lk ofF a b c) (lk ofB a b c) (lk ofC a b c))))
                                                    (lk uB (lk ofF a b c) (lk ofB a b c) (lk ofC a b c)))
                                                  (lk uB (lk ofF x y z) (lk ofB x y z) (lk ofC x y z)) *
                                                (U.add IntKind.i64
                                                    (U.quo IntKind.i64
                                                      (U.sub IntKind.i64
                                                        (U.mm true
                                                          (lk sLast (lk uF (lk ofF a b c) (lk ofB a b c) (lk ofC a b c))
                                                            (lk uB (lk ofF a b c) (lk ofB a b c) (lk ofC a b c))
                                                            (lk ofC a b c))
                                                          (lk sLast (lk uF (lk ofF x y z) (lk ofB x y z) (lk ofC x y z))
                                                            (lk uB (lk ofF x y z) (lk ofB x y z) (lk ofC x y z))
                                                            (lk ofC x y z)))
                                                        (U.mm false (lk uF (lk ofF a b c) (lk ofB a b c) (lk ofC a b c))
                                                          (lk uF (lk ofF x y z) (lk ofB x y z) (lk ofC x y z))))
                                                      (lk euG
                                                        (lk euG
                                                          (U.mm true
                                                            (U.sub IntKind.i64
                                                              (lk uF (lk ofF a b c) (lk ofB a b c) (lk ofC a b c))
                                                              (lk uF (lk ofF x y z) (lk ofB x y z) (lk ofC x y z)))
                                                            (U.sub IntKind.i64
                                                              (lk uF (lk ofF x y z) (lk ofB x y z) (lk ofC x y z))
                                                              (lk uF (lk ofF a b c) (lk ofB a b c) (lk ofC a b c))))
                                                          (lk uB (lk ofF a b c) (lk ofB a b c) (lk ofC a b c)))
                                                        (lk uB (lk ofF x y z) (lk ofB x y z) (lk ofC x y z))))
                                                    (1 : Int) -
                                                  (1 : Int))))
                                    (T.ret
                                      (SV.tup
                                        [SV.agg
                                            [SV.lit
                                                (Value.int IntKind.i64
                                                  (lk nLow
                                                    (U.mm false (lk uF (lk ofF a b c) (lk ofB a b c) (lk ofC a b c))
                                                      (lk uF (lk ofF x y z) (lk ofB x y z) (lk ofC x y z)))
                                                    (lk euG
                                                      (lk euG
                                                        (U.mm true
                                                          (U.sub IntKind.i64
                                                            (lk uF (lk ofF a b c) (lk ofB a b c) (lk ofC a b c))
                                                            (lk uF (lk ofF x y z) (lk ofB x y z) (lk ofC x y z)))
                                                          (U.sub IntKind.i64
                                                            (lk uF (lk ofF x y z) (lk ofB x y z) (lk ofC x y z))
                                                            (lk uF (lk ofF a b c) (lk ofB a b c) (lk ofC a b c))))
                                                        (lk uB (lk ofF a b c) (lk ofB a b c) (lk ofC a b c)))
                                                      (lk uB (lk ofF x y z) (lk ofB x y z) (lk ofC x y z)))
                                                    (U.add IntKind.i64
                                                      (U.quo IntKind.i64
                                                        (U.sub IntKind.i64
                                                          (U.mm true
                                                            (lk sLast
                                                              (lk uF (lk ofF a b c) (lk ofB a b c) (lk ofC a b c))
                                                              (lk uB (lk ofF a b c) (lk ofB a b c) (lk ofC a b c))
                                                              (lk ofC a b c))
                                                            (lk sLast
                                                              (lk uF (lk ofF x y z) (lk ofB x y z) (lk ofC x y z))
                                                              (lk uB (lk ofF x y z) (lk ofB x y z) (lk ofC x y z))
                                                              (lk ofC x y z)))
                                                          (U.mm false
                                                            (lk uF (lk ofF a b c) (lk ofB a b c) (lk ofC a b c))
                                                            (lk uF (lk ofF x y z) (lk ofB x y z) (lk ofC x y z))))
                                                        (lk euG
                                                          (lk euG
                                                            (U.mm true
                                                              (U.sub IntKind.i64
                                                                (lk uF (lk ofF a b c) (lk ofB a b c) (lk ofC a b c))
                                                                (lk uF (lk ofF x y z) (lk ofB x y z) (lk ofC x y z)))
                                                              (U.sub IntKind.i64
                                                                (lk uF (lk ofF x y z) (lk ofB x y z) (lk ofC x y z))
                                                                (lk uF (lk ofF a b c) (lk ofB a b c) (lk ofC a b c))))
                                                            (lk uB (lk ofF a b c) (lk ofB a b c) (lk ofC a b c)))
                                                          (lk uB (lk ofF x y z) (lk ofB x y z) (lk ofC x y z))))
                                                      (1 : Int)))),
                                              SV.lit
                                                (Value.int IntKind.i64
                                                  (lk nHigh
                                                    (U.mm false (lk uF (lk ofF a b c) (lk ofB a b c) (lk ofC a b c))
                                                      (lk uF (lk ofF x y z) (lk ofB x y z) (lk ofC x y z)))
                                                    (lk euG
                                                      (lk euG
                                                        (U.mm true
                                                          (U.sub IntKind.i64
                                                            (lk uF (lk ofF a b c) (lk ofB a b c) (lk ofC a b c))
                                                            (lk uF (lk ofF x y z) (lk ofB x y z) (lk ofC x y z)))
                                                          (U.sub IntKind.i64
                                                            (lk uF (lk ofF x y z) (lk ofB x y z) (lk ofC x y z))
                                                            (lk uF (lk ofF a b c) (lk ofB a b c) (lk ofC a b c))))
                                                        (lk uB (lk ofF a b c) (lk ofB a b c) (lk ofC a b c)))
                                                      (lk uB (lk ofF x y z) (lk ofB x y z) (lk ofC x y z)))
                                                    (U.add IntKind.i64
                                                      (U.quo IntKind.i64
                                                        (U.sub IntKind.i64
                                                          (U.mm true
                                                            (lk sLast
                                                              (lk uF (lk ofF a b c) (lk ofB a b c) (lk ofC a b c))
                                                              (lk uB (lk ofF a b c) (lk ofB a b c) (lk ofC a b c))
                                                              (lk ofC a b c))
                                                            (lk sLast
                                                              (lk uF (lk ofF x y z) (lk ofB x y z) (lk ofC x y z))
                                                              (lk uB (lk ofF x y z) (lk ofB x y z) (lk ofC x y z))
                                                              (lk ofC x y z)))
                                                          (U.mm false
                                                            (lk uF (lk ofF a b c) (lk ofB a b c) (lk ofC a b c))
                                                            (lk uF (lk ofF x y z) (lk ofB x y z) (lk ofC x y z))))
                                                        (lk euG
                                                          (lk euG
                                                            (U.mm true
                                                              (U.sub IntKind.i64
                                                                (lk uF (lk ofF a b c) (lk ofB a b c) (lk ofC a b c))
                                                                (lk uF (lk ofF x y z) (lk ofB x y z) (lk ofC x y z)))
                                                              (U.sub IntKind.i64
                                                                (lk uF (lk ofF x y z) (lk ofB x y z) (lk ofC x y z))
                                                                (lk uF (lk ofF a b c) (lk ofB a b c) (lk ofC a b c))))
                                                            (lk uB (lk ofF a b c) (lk ofB a b c) (lk ofC a b c)))
                                                          (lk uB (lk ofF x y z) (lk ofB x y z) (lk ofC x y z))))
                                                      (1 : Int)))),
                                              SV.lit
                                                (Value.int IntKind.i64
                                                  (lk nStr
                                                    (U.mm false (lk uF (lk ofF a b c) (lk ofB a b c) (lk ofC a b c))
                                                      (lk uF (lk ofF x y z) (lk ofB x y z) (lk ofC x y z)))
                                                    (lk euG
                                                      (lk euG
                                                        (U.mm true
                                                          (U.sub IntKind.i64
                                                            (lk uF (lk ofF a b c) (lk ofB a b c) (lk ofC a b c))
                                                            (lk uF (lk ofF x y z) (lk ofB x y z) (lk ofC x y z)))
                                                          (U.sub IntKind.i64
                                                            (lk uF (lk ofF x y z) (lk ofB x y z) (lk ofC x y z))
                                                            (lk uF (lk ofF a b c) (lk ofB a b c) (lk ofC a b c))))
                                                        (lk uB (lk ofF a b c) (lk ofB a b c) (lk ofC a b c)))
                                                      (lk uB (lk ofF x y z) (lk ofB x y z) (lk ofC x y z)))
                                                    (U.add IntKind.i64
                                                      (U.quo IntKind.i64
                                                        (U.sub IntKind.i64
                                                          (U.mm true
                                                            (lk sLast
                                                              (lk uF (lk ofF a b c) (lk ofB a b c) (lk ofC a b c))
                                                              (lk uB (lk ofF a b c) (lk ofB a b c) (lk ofC a b c))
                                                              (lk ofC a b c))
                                                            (lk sLast
                                                              (lk uF (lk ofF x y z) (lk ofB x y z) (lk ofC x y z))
                                                              (lk uB (lk ofF x y z) (lk ofB x y z) (lk ofC x y z))
                                                              (lk ofC x y z)))
                                                          (U.mm false
                                                            (lk uF (lk ofF a b c) (lk ofB a b c) (lk ofC a b c))
                                                            (lk uF (lk ofF x y z) (lk ofB x y z) (lk ofC x y z))))
                                                        (lk euG
                                                          (lk euG
                                                            (U.mm true
                                                              (U.sub IntKind.i64
                                                                (lk uF (lk ofF a b c) (lk ofB a b c) (lk ofC a b c))
                                                                (lk uF (lk ofF x y z) (lk ofB x y z) (lk ofC x y z)))
                                                              (U.sub IntKind.i64
                                                                (lk uF (lk ofF x y z) (lk ofB x y z) (lk ofC x y z))
                                                                (lk uF (lk ofF a b c) (lk ofB a b c) (lk ofC a b c))))
                                                            (lk uB (lk ofF a b c) (lk ofB a b c) (lk ofC a b c)))
                                                          (lk uB (lk ofF x y z) (lk ofB x y z) (lk ofC x y z))))
                                                      (1 : Int))))],
                                          SV.lit
                                            (Value.int IntKind.i64
                                              (lk nErr
                                                (U.mm false (lk uF (lk ofF a b c) (lk ofB a b c) (lk ofC a b c))
                                                  (lk uF (lk ofF x y z) (lk ofB x y z) (lk ofC x y z)))
                                                (lk euG
                                                  (lk euG
                                                    (U.mm true
                                                      (U.sub IntKind.i64
                                                        (lk uF (lk ofF a b c) (lk ofB a b c) (lk ofC a b c))
                                                        (lk uF (lk ofF x y z) (lk ofB x y z) (lk ofC x y z)))
                                                      (U.sub IntKind.i64
                                                        (lk uF (lk ofF x y z) (lk ofB x y z) (lk ofC x y z))
                                                        (lk uF (lk ofF a b c) (lk ofB a b c) (lk ofC a b c))))
                                                    (lk uB (lk ofF a b c) (lk ofB a b c) (lk ofC a b c)))
                                                  (lk uB (lk ofF x y z) (lk ofB x y z) (lk ofC x y z)))
                                                (U.add IntKind.i64
                                                  (U.quo IntKind.i64
                                                    (U.sub IntKind.i64
                                                      (U.mm true
                                                        (lk sLast (lk uF (lk ofF a b c) (lk ofB a b c) (lk ofC a b c))
                                                          (lk uB (lk ofF a b c) (lk ofB a b c) (lk ofC a b c))
                                                          (lk ofC a b c))
                                                        (lk sLast (lk uF (lk ofF x y z) (lk ofB x y z) (lk ofC x y z))
                                                          (lk uB (lk ofF x y z) (lk ofB x y z) (lk ofC x y z))
                                                          (lk ofC x y z)))
                                                      (U.mm false (lk uF (lk ofF a b c) (lk ofB a b c) (lk ofC a b c))
                                                        (lk uF (lk ofF x y z) (lk ofB x y z) (lk ofC x y z))))
                                                    (lk euG
                                                      (lk euG
                                                        (U.mm true
                                                          (U.sub IntKind.i64
                                                            (lk uF (lk ofF a b c) (lk ofB a b c) (lk ofC a b c))
                                                            (lk uF (lk ofF x y z) (lk ofB x y z) (lk ofC x y z)))
                                                          (U.sub IntKind.i64
                                                            (lk uF (lk ofF x y z) (lk ofB x y z) (lk ofC x y z))
                                                            (lk uF (lk ofF a b c) (lk ofB a b c) (lk ofC a b c))))
                                                        (lk uB (lk ofF a b c) (lk ofB a b c) (lk ofC a b c)))
                                                      (lk uB (lk ofF x y z) (lk ofB x y z) (lk ofC x y z))))
                                                  (1 : Int))))]))))))
                            (T.br
                              (U.eq
                                (lk euG
                                  (U.mm true
                                    (U.sub IntKind.i64 (lk uF (lk ofF a b c) (lk ofB a b c) (lk ofC a b c))
                                      (lk uF (lk ofF x y z) (lk ofB x y z) (lk ofC x y z)))
                                    (U.sub IntKind.i64 (lk uF (lk ofF x y z) (lk ofB x y z) (lk ofC x y z))
                                      (lk uF (lk ofF a b c) (lk ofB a b c) (lk ofC a b c))))
                                  (lk uB (lk ofF a b c) (lk ofB a b c) (lk ofC a b c)))
                                (0 : Int))
                              (T.ask
                                ((0 : Int) < (1 : Int) →
                                  I64 ((1 : Int) - (1 : Int)) ∧
                                    I64 ((1 : Int) * ((1 : Int) - (1 : Int))) ∧
                                      I64
                                        (U.mm false (lk uF (lk ofF a b c) (lk ofB a b c) (lk ofC a b c))
                                            (lk uF (lk ofF x y z) (lk ofB x y z) (lk ofC x y z)) +
                                          (1 : Int) * ((1 : Int) - (1 : Int))))
                                (T.ret
                                  (SV.tup
                                    [SV.agg
                                        [SV.lit
                                            (Value.int IntKind.i64
                                              (lk nLow
                                                (U.mm false (lk uF (lk ofF a b c) (lk ofB a b c) (lk ofC a b c))
                                                  (lk uF (lk ofF x y z) (lk ofB x y z) (lk ofC x y z)))
                                                (1 : Int) (1 : Int))),
                                          SV.lit
                                            (Value.int IntKind.i64
                                              (lk nHigh
                                                (U.mm false (lk uF (lk ofF a b c) (lk ofB a b c) (lk ofC a b c))
                                                  (lk uF (lk ofF x y z) (lk ofB x y z) (lk ofC x y z)))
                                                (1 : Int) (1 : Int))),
                                          SV.lit
                                            (Value.int IntKind.i64
                                              (lk nStr
                                                (U.mm false (lk uF (lk ofF a b c) (lk ofB a b c) (lk ofC a b c))
                                                  (lk uF (lk ofF x y z) (lk ofB x y z) (lk ofC x y z)))
                                                (1 : Int) (1 : Int)))],
                                      SV.lit
                                        (Value.int IntKind.i64
                                          (lk nErr
                                            (U.mm false (lk uF (lk ofF a b c) (lk ofB a b c) (lk ofC a b c))
                                              (lk uF (lk ofF x y z) (lk ofB x y z) (lk ofC x y z)))
                                            (1 : Int) (1 : Int)))])))
                              (T.ask
                                (lk euG
                                    (U.mm true
                                      (U.sub IntKind.i64 (lk uF (lk ofF a b c) (lk ofB a b c) (lk ofC a b c))
                                        (lk uF (lk ofF x y z) (lk ofB x y z) (lk ofC x y z)))
                                      (U.sub IntKind.i64 (lk uF (lk ofF x y z) (lk ofB x y z) (lk ofC x y z))
                                        (lk uF (lk ofF a b c) (lk ofB a b c) (lk ofC a b c))))
                                    (lk uB (lk ofF a b c) (lk ofB a b c) (lk ofC a b c)) ≠
                                  (0 : Int))
                                (T.ask
                                  ((0 : Int) <
                                      U.add IntKind.i64
                                        (U.quo IntKind.i64
                                          (U.sub IntKind.i64
                                            (U.mm true
                                              (lk sLast (lk uF (lk ofF a b c) (lk ofB a b c) (lk ofC a b c))
                                                (lk uB (lk ofF a b c) (lk ofB a b c) (lk ofC a b c)) (lk ofC a b c))
                                              (lk sLast (lk uF (lk ofF x y z) (lk ofB x y z) (lk ofC x y z))
                                                (lk uB (lk ofF x y z) (lk ofB x y z) (lk ofC x y z)) (lk ofC x y z)))
                                            (U.mm false (lk uF (lk ofF a b c) (lk ofB a b c) (lk ofC a b c))
                                              (lk uF (lk ofF x y z) (lk ofB x y z) (lk ofC x y z))))
                                          (lk euG
                                            (U.mm true
                                              (U.sub IntKind.i64 (lk uF (lk ofF a b c) (lk ofB a b c) (lk ofC a b c))
                                                (lk uF (lk ofF x y z) (lk ofB x y z) (lk ofC x y z)))
                                              (U.sub IntKind.i64 (lk uF (lk ofF x y z) (lk ofB x y z) (lk ofC x y z))
                                                (lk uF (lk ofF a b c) (lk ofB a b c) (lk ofC a b c))))
                                            (lk uB (lk ofF a b c) (lk ofB a b c) (lk ofC a b c))))
                                        (1 : Int) →
                                    I64
                                        (U.add IntKind.i64
                                            (U.quo IntKind.i64
                                              (U.sub IntKind.i64
                                                (U.mm true
                                                  (lk sLast (lk uF (lk ofF a b c) (lk ofB a b c) (lk ofC a b c))
                                                    (lk uB (lk ofF a b c) (lk ofB a b c) (lk ofC a b c)) (lk ofC a b c))
                                                  (lk sLast (lk uF (lk ofF x y z) (lk ofB x y z) (lk ofC x y z))
                                                    (lk uB (lk ofF x y z) (lk ofB x y z) (lk ofC x y z))
                                                    (lk ofC x y z)))
                                                (U.mm false (lk uF (lk ofF a b c) (lk ofB a b c) (lk ofC a b c))
                                                  (lk uF (lk ofF x y z) (lk ofB x y z) (lk ofC x y z))))
                                              (lk euG
                                                (U.mm true
                                                  (U.sub IntKind.i64
                                                    (lk uF (lk ofF a b c) (lk ofB a b c) (lk ofC a b c))
                                                    (lk uF (lk ofF x y z) (lk ofB x y z) (lk ofC x y z)))
                                                  (U.sub IntKind.i64
                                                    (lk uF (lk ofF x y z) (lk ofB x y z) (lk ofC x y z))
                                                    (lk uF (lk ofF a b c) (lk ofB a b c) (lk ofC a b c))))
                                                (lk uB (lk ofF a b c) (lk ofB a b c) (lk ofC a b c))))
                                            (1 : Int) -
                                          (1 : Int)) ∧
                                      I64
                                          (lk euG
                                              (U.mm true
                                                (U.sub IntKind.i64 (lk uF (lk ofF a b c) (lk ofB a b c) (lk ofC a b c))
                                                  (lk uF (lk ofF x y z) (lk ofB x y z) (lk ofC x y z)))
                                                (U.sub IntKind.i64 (lk uF (lk ofF x y z) (lk ofB x y z) (lk ofC x y z))
                                                  (lk uF (lk ofF a b c) (lk ofB a b c) (lk ofC a b c))))
                                              (lk uB (lk ofF a b c) (lk ofB a b c) (lk ofC a b c)) *
                                            (U.add IntKind.i64
                                                (U.quo IntKind.i64
                                                  (U.sub IntKind.i64
                                                    (U.mm true
                                                      (lk sLast (lk uF (lk ofF a b c) (lk ofB a b c) (lk ofC a b c))
                                                        (lk uB (lk ofF a b c) (lk ofB a b c) (lk ofC a b c))
                                                        (lk ofC a b c))
                                                      (lk sLast (lk uF (lk ofF x y z) (lk ofB x y z) (lk ofC x y z))
                                                        (lk uB (lk ofF x y z) (lk ofB x y z) (lk ofC x y z))
                                                        (lk ofC x y z)))
                                                    (U.mm false (lk uF (lk ofF a b c) (lk ofB a b c) (lk ofC a b c))
                                                      (lk uF (lk ofF x y z) (lk ofB x y z) (lk ofC x y z))))
                                                  (lk euG
                                                    (U.mm true
                                                      (U.sub IntKind.i64
                                                        (lk uF (lk ofF a b c) (lk ofB a b c) (lk ofC a b c))
                                                        (lk uF (lk ofF x y z) (lk ofB x y z) (lk ofC x y z)))
                                                      (U.sub IntKind.i64
                                                        (lk uF (lk ofF x y z) (lk ofB x y z) (lk ofC x y z))
                                                        (lk uF (lk ofF a b c) (lk ofB a b c) (lk ofC a b c))))
                                                    (lk uB (lk ofF a b c) (lk ofB a b c) (lk ofC a b c))))
                                                (1 : Int) -
                                              (1 : Int))) ∧
                                        I64
                                          (U.mm false (lk uF (lk ofF a b c) (lk ofB a b c) (lk ofC a b c))
                                              (lk uF (lk ofF x y z) (lk ofB x y z) (lk ofC x y z)) +
                                            lk euG
                                                (U.mm true
                                                  (U.sub IntKind.i64
                                                    (lk uF (lk ofF a b c) (lk ofB a b c) (lk ofC a b c))
                                                    (lk uF (lk ofF x y z) (lk ofB x y z) (lk ofC x y z)))
                                                  (U.sub IntKind.i64
                                                    (lk uF (lk ofF x y z) (lk ofB x y z) (lk ofC x y z))
                                                    (lk uF (lk ofF a b c) (lk ofB a b c) (lk ofC a b c))))
                                                (lk uB (lk ofF a b c) (lk ofB a b c) (lk ofC a b c)) *
                                              (U.add IntKind.i64
                                                  (U.quo IntKind.i64
                                                    (U.sub IntKind.i64
                                                      (U.mm true
                                                        (lk sLast (lk uF (lk ofF a b c) (lk ofB a b c) (lk ofC a b c))
                                                          (lk uB (lk ofF a b c) (lk ofB a b c) (lk ofC a b c))
                                                          (lk ofC a b c))
                                                        (lk sLast (lk uF (lk ofF x y z) (lk ofB x y z) (lk ofC x y z))
                                                          (lk uB (lk ofF x y z) (lk ofB x y z) (lk ofC x y z))
                                                          (lk ofC x y z)))
                                                      (U.mm false (lk uF (lk ofF a b c) (lk ofB a b c) (lk ofC a b c))
                                                        (lk uF (lk ofF x y z) (lk ofB x y z) (lk ofC x y z))))
                                                    (lk euG
                                                      (U.mm true
                                                        (U.sub IntKind.i64
                                                          (lk uF (lk ofF a b c) (lk ofB a b c) (lk ofC a b c))
                                                          (lk uF (lk ofF x y z) (lk ofB x y z) (lk ofC x y z)))
                                                        (U.sub IntKind.i64
                                                          (lk uF (lk ofF x y z) (lk ofB x y z) (lk ofC x y z))
                                                          (lk uF (lk ofF a b c) (lk ofB a b c) (lk ofC a b c))))
                                                      (lk uB (lk ofF a b c) (lk ofB a b c) (lk ofC a b c))))
                                                  (1 : Int) -
                                                (1 : Int))))
                                  (T.ret
                                    (SV.tup
                                      [SV.agg
                                          [SV.lit
                                              (Value.int IntKind.i64
                                                (lk nLow
                                                  (U.mm false (lk uF (lk ofF a b c) (lk ofB a b c) (lk ofC a b c))
                                                    (lk uF (lk ofF x y z) (lk ofB x y z) (lk ofC x y z)))
                                                  (lk euG
                                                    (U.mm true
                                                      (U.sub IntKind.i64
                                                        (lk uF (lk ofF a b c) (lk ofB a b c) (lk ofC a b c))
                                                        (lk uF (lk ofF x y z) (lk ofB x y z) (lk ofC x y z)))
                                                      (U.sub IntKind.i64
                                                        (lk uF (lk ofF x y z) (lk ofB x y z) (lk ofC x y z))
                                                        (lk uF (lk ofF a b c) (lk ofB a b c) (lk ofC a b c))))
                                                    (lk uB (lk ofF a b c) (lk ofB a b c) (lk ofC a b c)))
                                                  (U.add IntKind.i64
                                                    (U.quo IntKind.i64
                                                      (U.sub IntKind.i64
                                                        (U.mm true
                                                          (lk sLast (lk uF (lk ofF a b c) (lk ofB a b c) (lk ofC a b c))
                                                            (lk uB (lk ofF a b c) (lk ofB a b c) (lk ofC a b c))
                                                            (lk ofC a b c))
                                                          (lk sLast (lk uF (lk ofF x y z) (lk ofB x y z) (lk ofC x y z))
                                                            (lk uB (lk ofF x y z) (lk ofB x y z) (lk ofC x y z))
                                                            (lk ofC x y z)))
                                                        (U.mm false (lk uF (lk ofF a b c) (lk ofB a b c) (lk ofC a b c))
                                                          (lk uF (lk ofF x y z) (lk ofB x y z) (lk ofC x y z))))
                                                      (lk euG
                                                        (U.mm true
                                                          (U.sub IntKind.i64
                                                            (lk uF (lk ofF a b c) (lk ofB a b c) (lk ofC a b c))
                                                            (lk uF (lk ofF x y z) (lk ofB x y z) (lk ofC x y z)))
                                                          (U.sub IntKind.i64
                                                            (lk uF (lk ofF x y z) (lk ofB x y z) (lk ofC x y z))
                                                            (lk uF (lk ofF a b c) (lk ofB a b c) (lk ofC a b c))))
                                                        (lk uB (lk ofF a b c) (lk ofB a b c) (lk ofC a b c))))
                                                    (1 : Int)))),
                                            SV.lit
                                              (Value.int IntKind.i64
                                                (lk nHigh
                                                  (U.mm false (lk uF (lk ofF a b c) (lk ofB a b c) (lk ofC a b c))
                                                    (lk uF (lk ofF x y z) (lk ofB x y z) (lk ofC x y z)))
                                                  (lk euG
                                                    (U.mm true
                                                      (U.sub IntKind.i64
                                                        (lk uF (lk ofF a b c) (lk ofB a b c) (lk ofC a b c))
                                                        (lk uF (lk ofF x y z) (lk ofB x y z) (lk ofC x y z)))
                                                      (U.sub IntKind.i64
                                                        (lk uF (lk ofF x y z) (lk ofB x y z) (lk ofC x y z))
                                                        (lk uF (lk ofF a b c) (lk ofB a b c) (lk ofC a b c))))
                                                    (lk uB (lk ofF a b c) (lk ofB a b c) (lk ofC a b c)))
                                                  (U.add IntKind.i64
                                                    (U.quo IntKind.i64
                                                      (U.sub IntKind.i64
                                                        (U.mm true
                                                          (lk sLast (lk uF (lk ofF a b c) (lk ofB a b c) (lk ofC a b c))
                                                            (lk uB (lk ofF a b c) (lk ofB a b c) (lk ofC a b c))
                                                            (lk ofC a b c))
                                                          (lk sLast (lk uF (lk ofF x y z) (lk ofB x y z) (lk ofC x y z))
                                                            (lk uB (lk ofF x y z) (lk ofB x y z) (lk ofC x y z))
                                                            (lk ofC x y z)))
                                                        (U.mm false (lk uF (lk ofF a b c) (lk ofB a b c) (lk ofC a b c))
                                                          (lk uF (lk ofF x y z) (lk ofB x y z) (lk ofC x y z))))
                                                      (lk euG
                                                        (U.mm true
                                                          (U.sub IntKind.i64
                                                            (lk uF (lk ofF a b c) (lk ofB a b c) (lk ofC a b c))
                                                            (lk uF (lk ofF x y z) (lk ofB x y z) (lk ofC x y z)))
                                                          (U.sub IntKind.i64
                                                            (lk uF (lk ofF x y z) (lk ofB x y z) (lk ofC x y z))
                                                            (lk uF (lk ofF a b c) (lk ofB a b c) (lk ofC a b c))))
                                                        (lk uB (lk ofF a b c) (lk ofB a b c) (lk ofC a b c))))
                                                    (1 : Int)))),
                                            SV.lit
                                              (Value.int IntKind.i64
                                                (lk nStr
                                                  (U.mm false (lk uF (lk ofF a b c) (lk ofB a b c) (lk ofC a b c))
                                                    (lk uF (lk ofF x y z) (lk ofB x y z) (lk ofC x y z)))
                                                  (lk euG
                                                    (U.mm true
                                                      (U.sub IntKind.i64
                                                        (lk uF (lk ofF a b c) (lk ofB a b c) (lk ofC a b c))
                                                        (lk uF (lk ofF x y z) (lk ofB x y z) (lk ofC x y z)))
                                                      (U.sub IntKind.i64
                                                        (lk uF (lk ofF x y z) (lk ofB x y z) (lk ofC x y z))
                                                        (lk uF (lk ofF a b c) (lk ofB a b c) (lk ofC a b c))))
                                                    (lk uB (lk ofF a b c) (lk ofB a b c) (lk ofC a b c)))
                                                  (U.add IntKind.i64
                                                    (U.quo IntKind.i64
                                                      (U.sub IntKind.i64
                                                        (U.mm true
                                                          (lk sLast (lk uF (lk ofF a b c) (lk ofB a b c) (lk ofC a b c))
                                                            (lk uB (lk ofF a b c) (lk ofB a b c) (lk ofC a b c))
                                                            (lk ofC a b c))
                                                          (lk sLast (lk uF (lk ofF x y z) (lk ofB x y z) (lk ofC x y z))
                                                            (lk uB (lk ofF x y z) (lk ofB x y z) (lk ofC x y z))
                                                            (lk ofC x y z)))
                                                        (U.mm false (lk uF (lk ofF a b c) (lk ofB a b c) (lk ofC a b c))
                                                          (lk uF (lk ofF x y z) (lk ofB x y z) (lk ofC x y z))))
                                                      (lk euG
                                                        (U.mm true
                                                          (U.sub IntKind.i64
                                                            (lk uF (lk ofF a b c) (lk ofB a b c) (lk ofC a b c))
                                                            (lk uF (lk ofF x y z) (lk ofB x y z) (lk ofC x y z)))
                                                          (U.sub IntKind.i64
                                                            (lk uF (lk ofF x y z) (lk ofB x y z) (lk ofC x y z))
                                                            (lk uF (lk ofF a b c) (lk ofB a b c) (lk ofC a b c))))
                                                        (lk uB (lk ofF a b c) (lk ofB a b c) (lk ofC a b c))))
                                                    (1 : Int))))],
                                        SV.lit
                                          (Value.int IntKind.i64
                                            (lk nErr
                                              (U.mm false (lk uF (lk ofF a b c) (lk ofB a b c) (lk ofC a b c))
                                                (lk uF (lk ofF x y z) (lk ofB x y z) (lk ofC x y z)))
                                              (lk euG
                                                (U.mm true
                                                  (U.sub IntKind.i64
                                                    (lk uF (lk ofF a b c) (lk ofB a b c) (lk ofC a b c))
                                                    (lk uF (lk ofF x y z) (lk ofB x y z) (lk ofC x y z)))
                                                  (U.sub IntKind.i64
                                                    (lk uF (lk ofF x y z) (lk ofB x y z) (lk ofC x y z))
                                                    (lk uF (lk ofF a b c) (lk ofB a b c) (lk ofC a b c))))
                                                (lk uB (lk ofF a b c) (lk ofB a b c) (lk ofC a b c)))
                                              (U.add IntKind.i64
                                                (U.quo IntKind.i64
                                                  (U.sub IntKind.i64
                                                    (U.mm true
                                                      (lk sLast (lk uF (lk ofF a b c) (lk ofB a b c) (lk ofC a b c))
                                                        (lk uB (lk ofF a b c) (lk ofB a b c) (lk ofC a b c))
                                                        (lk ofC a b c))
                                                      (lk sLast (lk uF (lk ofF x y z) (lk ofB x y z) (lk ofC x y z))
                                                        (lk uB (lk ofF x y z) (lk ofB x y z) (lk ofC x y z))
                                                        (lk ofC x y z)))
                                                    (U.mm false (lk uF (lk ofF a b c) (lk ofB a b c) (lk ofC a b c))
                                                      (lk uF (lk ofF x y z) (lk ofB x y z) (lk ofC x y z))))
                                                  (lk euG
                                                    (U.mm true
                                                      (U.sub IntKind.i64
                                                        (lk uF (lk ofF a b c) (lk ofB a b c) (lk ofC a b c))
                                                        (lk uF (lk ofF x y z) (lk ofB x y z) (lk ofC x y z)))
                                                      (U.sub IntKind.i64
                                                        (lk uF (lk ofF x y z) (lk ofB x y z) (lk ofC x y z))
                                                        (lk uF (lk ofF a b c) (lk ofB a b c) (lk ofC a b c))))
                                                    (lk uB (lk ofF a b c) (lk ofB a b c) (lk ofC a b c))))
                                                (1 : Int))))])))))))
                        (T.br (U.gt (lk ofC x y z) (1 : Int))
                          (T.ask
                            ((0 : Int) ≤
                                U.mm true
                                  (U.sub IntKind.i64 (lk uF (lk ofF a b c) (lk ofB a b c) (lk ofC a b c))
                                    (lk uF (lk ofF x y z) (lk ofB x y z) (lk ofC x y z)))
                                  (U.sub IntKind.i64 (lk uF (lk ofF x y z) (lk ofB x y z) (lk ofC x y z))
                                    (lk uF (lk ofF a b c) (lk ofB a b c) (lk ofC a b c))) ∧
                              U.mm true
                                    (U.sub IntKind.i64 (lk uF (lk ofF a b c) (lk ofB a b c) (lk ofC a b c))
                                      (lk uF (lk ofF x y z) (lk ofB x y z) (lk ofC x y z)))
                                    (U.sub IntKind.i64 (lk uF (lk ofF x y z) (lk ofB x y z) (lk ofC x y z))
                                      (lk uF (lk ofF a b c) (lk ofB a b c) (lk ofC a b c))) ≤
                                  (4000000 : Int) ∧
                                (0 : Int) ≤ lk uB (lk ofF x y z) (lk ofB x y z) (lk ofC x y z) ∧
                                  lk uB (lk ofF x y z) (lk ofB x y z) (lk ofC x y z) ≤ (4000000 : Int))
                            (T.br
                              (U.eq
                                (lk euG
                                  (U.mm true
                                    (U.sub IntKind.i64 (lk uF (lk ofF a b c) (lk ofB a b c) (lk ofC a b c))
                                      (lk uF (lk ofF x y z) (lk ofB x y z) (lk ofC x y z)))
                                    (U.sub IntKind.i64 (lk uF (lk ofF x y z) (lk ofB x y z) (lk ofC x y z))
                                      (lk uF (lk ofF a b c) (lk ofB a b c) (lk ofC a b c))))
                                  (lk uB (lk ofF x y z) (lk ofB x y z) (lk ofC x y z)))
                                (0 : Int))
                              (T.ask
                                ((0 : Int) < (1 : Int) →
                                  I64 ((1 : Int) - (1 : Int)) ∧
                                    I64 ((1 : Int) * ((1 : Int) - (1 : Int))) ∧
                                      I64
                                        (U.mm false (lk uF (lk ofF a b c) (lk ofB a b c) (lk ofC a b c))
                                            (lk uF (lk ofF x y z) (lk ofB x y z) (lk ofC x y z)) +
                                          (1 : Int) * ((1 : Int) - (1 : Int))))
                                (T.ret
                                  (SV.tup
                                    [SV.agg
                                        [SV.lit
                                            (Value.int IntKind.i64
                                              (lk nLow
                                                (U.mm false (lk uF (lk ofF a b c) (lk ofB a b c) (lk ofC a b c))
                                                  (lk uF (lk ofF x y z) (lk ofB x y z) (lk ofC x y z)))
                                                (1 : Int) (1 : Int))),
                                          SV.lit
                                            (Value.int IntKind.i64
                                              (lk nHigh
                                                (U.mm false (lk uF (lk ofF a b c) (lk ofB a b c) (lk ofC a b c))
                                                  (lk uF (lk ofF x y z) (lk ofB x y z) (lk ofC x y z)))
                                                (1 : Int) (1 : Int))),
                                          SV.lit
                                            (Value.int IntKind.i64
                                              (lk nStr
                                                (U.mm false (lk uF (lk ofF a b c) (lk ofB a b c) (lk ofC a b c))
                                                  (lk uF (lk ofF x y z) (lk ofB x y z) (lk ofC x y z)))
                                                (1 : Int) (1 : Int)))],
                                      SV.lit
                                        (Value.int IntKind.i64
                                          (lk nErr
                                            (U.mm false (lk uF (lk ofF a b c) (lk ofB a b c) (lk ofC a b c))
                                              (lk uF (lk ofF x y z) (lk ofB x y z) (lk ofC x y z)))
                                            (1 : Int) (1 : Int)))])))
                              (T.ask
                                (lk euG
                                    (U.mm true
                                      (U.sub IntKind.i64 (lk uF (lk ofF a b c) (lk ofB a b c) (lk ofC a b c))
                                        (lk uF (lk ofF x y z) (lk ofB x y z) (lk ofC x y z)))
                                      (U.sub IntKind.i64 (lk uF (lk ofF x y z) (lk ofB x y z) (lk ofC x y z))
                                        (lk uF (lk ofF a b c) (lk ofB a b c) (lk ofC a b c))))
                                    (lk uB (lk ofF x y z) (lk ofB x y z) (lk ofC x y z)) ≠
                                  (0 : Int))
                                (T.ask
                                  ((0 : Int) <
                                      U.add IntKind.i64
                                        (U.quo IntKind.i64
                                          (U.sub IntKind.i64
                                            (U.mm true
                                              (lk sLast (lk uF (lk ofF a b c) (lk ofB a b c) (lk ofC a b c))
                                                (lk uB (lk ofF a b c) (lk ofB a b c) (lk ofC a b c)) (lk ofC a b c))
                                              (lk sLast (lk uF (lk ofF x y z) (lk ofB x y z) (lk ofC x y z))
                                                (lk uB (lk ofF x y z) (lk ofB x y z) (lk ofC x y z)) (lk ofC x y z)))
                                            (U.mm false (lk uF (lk ofF a b c) (lk ofB a b c) (lk ofC a b c))
                                              (lk uF (lk ofF x y z) (lk ofB x y z) (lk ofC x y z))))
                                          (lk euG
                                            (U.mm true
                                              (U.sub IntKind.i64 (lk uF (lk ofF a b c) (lk ofB a b c) (lk ofC a b c))
                                                (lk uF (lk ofF x y z) (lk ofB x y z) (lk ofC x y z)))
                                              (U.sub IntKind.i64 (lk uF (lk ofF x y z) (lk ofB x y z) (lk ofC x y z))
                                                (lk uF (lk ofF a b c) (lk ofB a b c) (lk ofC a b c))))
                                            (lk uB (lk ofF x y z) (lk ofB x y z) (lk ofC x y z))))
                                        (1 : Int) →
                                    I64
                                        (U.add IntKind.i64
                                            (U.quo IntKind.i64
                                              (U.sub IntKind.i64
                                                (U.mm true
                                                  (lk sLast (lk uF (lk ofF a b c) (lk ofB a b c) (lk ofC a b c))
                                                    (lk uB (lk ofF a b c) (lk ofB a b c) (lk ofC a b c)) (lk ofC a b c))
                                                  (lk sLast (lk uF (lk ofF x y z) (lk ofB x y z) (lk ofC x y z))
                                                    (lk uB (lk ofF x y z) (lk ofB x y z) (lk ofC x y z))
                                                    (lk ofC x y z)))
                                                (U.mm false (lk uF (lk ofF a b c) (lk ofB a b c) (lk ofC a b c))
                                                  (lk uF (lk ofF x y z) (lk ofB x y z) (lk ofC x y z))))
                                              (lk euG
                                                (U.mm true
                                                  (U.sub IntKind.i64
                                                    (lk uF (lk ofF a b c) (lk ofB a b c) (lk ofC a b c))
                                                    (lk uF (lk ofF x y z) (lk ofB x y z) (lk ofC x y z)))
                                                  (U.sub IntKind.i64
                                                    (lk uF (lk ofF x y z) (lk ofB x y z) (lk ofC x y z))
                                                    (lk uF (lk ofF a b c) (lk ofB a b c) (lk ofC a b c))))
                                                (lk uB (lk ofF x y z) (lk ofB x y z) (lk ofC x y z))))
                                            (1 : Int) -
                                          (1 : Int)) ∧
                                      I64
                                          (lk euG
                                              (U.mm true
                                                (U.sub IntKind.i64 (lk uF (lk ofF a b c) (lk ofB a b c) (lk ofC a b c))
                                                  (lk uF (lk ofF x y z) (lk ofB x y z) (lk ofC x y z)))
                                                (U.sub IntKind.i64 (lk uF (lk ofF x y z) (lk ofB x y z) (lk ofC x y z))
                                                  (lk uF (lk ofF a b c) (lk ofB a b c) (lk ofC a b c))))
                                              (lk uB (lk ofF x y z) (lk ofB x y z) (lk ofC x y z)) *
                                            (U.add IntKind.i64
                                                (U.quo IntKind.i64
                                                  (U.sub IntKind.i64
                                                    (U.mm true
                                                      (lk sLast (lk uF (lk ofF a b c) (lk ofB a b c) (lk ofC a b c))
                                                        (lk uB (lk ofF a b c) (lk ofB a b c) (lk ofC a b c))
                                                        (lk ofC a b c))
                                                      (lk sLast (lk uF (lk ofF x y z) (lk ofB x y z) (lk ofC x y z))
                                                        (lk uB (lk ofF x y z) (lk ofB x y z) (lk ofC x y z))
                                                        (lk ofC x y z)))
                                                    (U.mm false (lk uF (lk ofF a b c) (lk ofB a b c) (lk ofC a b c))
                                                      (lk uF (lk ofF x y z) (lk ofB x y z) (lk ofC x y z))))
                                                  (lk euG
                                                    (U.mm true
                                                      (U.sub IntKind.i64
                                                        (lk uF (lk ofF a b c) (lk ofB a b c) (lk ofC a b c))
                                                        (lk uF (lk ofF x y z) (lk ofB x y z) (lk ofC x y z)))
                                                      (U.sub IntKind.i64
                                                        (lk uF (lk ofF x y z) (lk ofB x y z) (lk ofC x y z))
                                                        (lk uF (lk ofF a b c) (lk ofB a b c) (lk ofC a b c))))
                                                    (lk uB (lk ofF x y z) (lk ofB x y z) (lk ofC x y z))))
                                                (1 : Int) -
                                              (1 : Int))) ∧
                                        I64
                                          (U.mm false (lk uF (lk ofF a b c) (lk ofB a b c) (lk ofC a b c))
                                              (lk uF (lk ofF x y z) (lk ofB x y z) (lk ofC x y z)) +
                                            lk euG
                                                (U.mm true
                                                  (U.sub IntKind.i64
                                                    (lk uF (lk ofF a b c) (lk ofB a b c) (lk ofC a b c))
                                                    (lk uF (lk ofF x y z) (lk ofB x y z) (lk ofC x y z)))
                                                  (U.sub IntKind.i64
                                                    (lk uF (lk ofF x y z) (lk ofB x y z) (lk ofC x y z))
                                                    (lk uF (lk ofF a b c) (lk ofB a b c) (lk ofC a b c))))
                                                (lk uB (lk ofF x y z) (lk ofB x y z) (lk ofC x y z)) *
                                              (U.add IntKind.i64
                                                  (U.quo IntKind.i64
                                                    (U.sub IntKind.i64
                                                      (U.mm true
                                                        (lk sLast (lk uF (lk ofF a b c) (lk ofB a b c) (lk ofC a b c))
                                                          (lk uB (lk ofF a b c) (lk ofB a b c) (lk ofC a b c))
                                                          (lk ofC a b c))
                                                        (lk sLast (lk uF (lk ofF x y z) (lk ofB x y z) (lk ofC x y z))
                                                          (lk uB (lk ofF x y z) (lk ofB x y z) (lk ofC x y z))
                                                          (lk ofC x y z)))
                                                      (U.mm false (lk uF (lk ofF a b c) (lk ofB a b c) (lk ofC a b c))
                                                        (lk uF (lk ofF x y z) (lk ofB x y z) (lk ofC x y z))))
                                                    (lk euG
                                                      (U.mm true
                                                        (U.sub IntKind.i64
                                                          (lk uF (lk ofF a b c) (lk ofB a b c) (lk ofC a b c))
                                                          (lk uF (lk ofF x y z) (lk ofB x y z) (lk ofC x y z)))
                                                        (U.sub IntKind.i64
                                                          (lk uF (lk ofF x y z) (lk ofB x y z) (lk ofC x y z))
                                                          (lk uF (lk ofF a b c) (lk ofB a b c) (lk ofC a b c))))
                                                      (lk uB (lk ofF x y z) (lk ofB x y z) (lk ofC x y z))))
                                                  (1 : Int) -
                                                (1 : Int))))
                                  (T.ret
                                    (SV.tup
                                      [SV.agg
                                          [SV.lit
                                              (Value.int IntKind.i64
                                                (lk nLow
                                                  (U.mm false (lk uF (lk ofF a b c) (lk ofB a b c) (lk ofC a b c))
                                                    (lk uF (lk ofF x y z) (lk ofB x y z) (lk ofC x y z)))
                                                  (lk euG
                                                    (U.mm true
                                                      (U.sub IntKind.i64
                                                        (lk uF (lk ofF a b c) (lk ofB a b c) (lk ofC a b c))
                                                        (lk uF (lk ofF x y z) (lk ofB x y z) (lk ofC x y z)))
                                                      (U.sub IntKind.i64
                                                        (lk uF (lk ofF x y z) (lk ofB x y z) (lk ofC x y z))
                                                        (lk uF (lk ofF a b c) (lk ofB a b c) (lk ofC a b c))))
                                                    (lk uB (lk ofF x y z) (lk ofB x y z) (lk ofC x y z)))
                                                  (U.add IntKind.i64
                                                    (U.quo IntKind.i64
                                                      (U.sub IntKind.i64
                                                        (U.mm true
                                                          (lk sLast (lk uF (lk ofF a b c) (lk ofB a b c) (lk ofC a b c))
                                                            (lk uB (lk ofF a b c) (lk ofB a b c) (lk ofC a b c))
                                                            (lk ofC a b c))
                                                          (lk sLast (lk uF (lk ofF x y z) (lk ofB x y z) (lk ofC x y z))
                                                            (lk uB (lk ofF x y z) (lk ofB x y z) (lk ofC x y z))
                                                            (lk ofC x y z)))
                                                        (U.mm false (lk uF (lk ofF a b c) (lk ofB a b c) (lk ofC a b c))
                                                          (lk uF (lk ofF x y z) (lk ofB x y z) (lk ofC x y z))))
                                                      (lk euG
                                                        (U.mm true
                                                          (U.sub IntKind.i64
                                                            (lk uF (lk ofF a b c) (lk ofB a b c) (lk ofC a b c))
                                                            (lk uF (lk ofF x y z) (lk ofB x y z) (lk ofC x y z)))
                                                          (U.sub IntKind.i64
                                                            (lk uF (lk ofF x y z) (lk ofB x y z) (lk ofC x y z))
                                                            (lk uF (lk ofF a b c) (lk ofB a b c) (lk ofC a b c))))
                                                        (lk uB (lk ofF x y z) (lk ofB x y z) (lk ofC x y z))))
                                                    (1 : Int)))),
                                            SV.lit
                                              (Value.int IntKind.i64
                                                (lk nHigh
                                                  (U.mm false (lk uF (lk ofF a b c) (lk ofB a b c) (lk ofC a b c))
                                                    (lk uF (lk ofF x y z) (lk ofB x y z) (lk ofC x y z)))
                                                  (lk euG
                                                    (U.mm true
                                                      (U.sub IntKind.i64
                                                        (lk uF (lk ofF a b c) (lk ofB a b c) (lk ofC a b c))
                                                        (lk uF (lk ofF x y z) (lk ofB x y z) (lk ofC x y z)))
                                                      (U.sub IntKind.i64
                                                        (lk uF (lk ofF x y z) (lk ofB x y z) (lk ofC x y z))
                                                        (lk uF (lk ofF a b c) (lk ofB a b c) (lk ofC a b c))))
                                                    (lk uB (lk ofF x y z) (lk ofB x y z) (lk ofC x y z)))
                                                  (U.add IntKind.i64
                                                    (U.quo IntKind.i64
                                                      (U.sub IntKind.i64
                                                        (U.mm true
                                                          (lk sLast (lk uF (lk ofF a b c) (lk ofB a b c) (lk ofC a b c))
                                                            (lk uB (lk ofF a b c) (lk ofB a b c) (lk ofC a b c))
                                                            (lk ofC a b c))
                                                          (lk sLast (lk uF (lk ofF x y z) (lk ofB x y z) (lk ofC x y z))
                                                            (lk uB (lk ofF x y z) (lk ofB x y z) (lk ofC x y z))
                                                            (lk ofC x y z)))
                                                        (U.mm false (lk uF (lk ofF a b c) (lk ofB a b c) (lk ofC a b c))
                                                          (lk uF (lk ofF x y z) (lk ofB x y z) (lk ofC x y z))))
                                                      (lk euG
                                                        (U.mm true
                                                          (U.sub IntKind.i64
                                                            (lk uF (lk ofF a b c) (lk ofB a b c) (lk ofC a b c))
                                                            (lk uF (lk ofF x y z) (lk ofB x y z) (lk ofC x y z)))
                                                          (U.sub IntKind.i64
                                                            (lk uF (lk ofF x y z) (lk ofB x y z) (lk ofC x y z))
                                                            (lk uF (lk ofF a b c) (lk ofB a b c) (lk ofC a b c))))
                                                        (lk uB (lk ofF x y z) (lk ofB x y z) (lk ofC x y z))))
                                                    (1 : Int)))),
                                            SV.lit
                                              (Value.int IntKind.i64
                                                (lk nStr
                                                  (U.mm false (lk uF (lk ofF a b c) (lk ofB a b c) (lk ofC a b c))
                                                    (lk uF (lk ofF x y z) (lk ofB x y z) (lk ofC x y z)))
                                                  (lk euG
                                                    (U.mm true
                                                      (U.sub IntKind.i64
                                                        (lk uF (lk ofF a b c) (lk ofB a b c) (lk ofC a b c))
                                                        (lk uF (lk ofF x y z) (lk ofB x y z) (lk ofC x y z)))
                                                      (U.sub IntKind.i64
                                                        (lk uF (lk ofF x y z) (lk ofB x y z) (lk ofC x y z))
                                                        (lk uF (lk ofF a b c) (lk ofB a b c) (lk ofC a b c))))
                                                    (lk uB (lk ofF x y z) (lk ofB x y z) (lk ofC x y z)))
                                                  (U.add IntKind.i64
                                                    (U.quo IntKind.i64
                                                      (U.sub IntKind.i64
                                                        (U.mm true
                                                          (lk sLast (lk uF (lk ofF a b c) (lk ofB a b c) (lk ofC a b c))
                                                            (lk uB (lk ofF a b c) (lk ofB a b c) (lk ofC a b c))
                                                            (lk ofC a b c))
                                                          (lk sLast (lk uF (lk ofF x y z) (lk ofB x y z) (lk ofC x y z))
                                                            (lk uB (lk ofF x y z) (lk ofB x y z) (lk ofC x y z))
                                                            (lk ofC x y z)))
                                                        (U.mm false (lk uF (lk ofF a b c) (lk ofB a b c) (lk ofC a b c))
                                                          (lk uF (lk ofF x y z) (lk ofB x y z) (lk ofC x y z))))
                                                      (lk euG
                                                        (U.mm true
                                                          (U.sub IntKind.i64
                                                            (lk uF (lk ofF a b c) (lk ofB a b c) (lk ofC a b c))
                                                            (lk uF (lk ofF x y z) (lk ofB x y z) (lk ofC x y z)))
                                                          (U.sub IntKind.i64
                                                            (lk uF (lk ofF x y z) (lk ofB x y z) (lk ofC x y z))
                                                            (lk uF (lk ofF a b c) (lk ofB a b c) (lk ofC a b c))))
                                                        (lk uB (lk ofF x y z) (lk ofB x y z) (lk ofC x y z))))
                                                    (1 : Int))))],
                                        SV.lit
                                          (Value.int IntKind.i64
                                            (lk nErr
                                              (U.mm false (lk uF (lk ofF a b c) (lk ofB a b c) (lk ofC a b c))
                                                (lk uF (lk ofF x y z) (lk ofB x y z) (lk ofC x y z)))
                                              (lk euG
                                                (U.mm true
                                                  (U.sub IntKind.i64
                                                    (lk uF (lk ofF a b c) (lk ofB a b c) (lk ofC a b c))
                                                    (lk uF (lk ofF x y z) (lk ofB x y z) (lk ofC x y z)))
                                                  (U.sub IntKind.i64
                                                    (lk uF (lk ofF x y z) (lk ofB x y z) (lk ofC x y z))
                                                    (lk uF (lk ofF a b c) (lk ofB a b c) (lk ofC a b c))))
                                                (lk uB (lk ofF x y z) (lk ofB x y z) (lk ofC x y z)))
                                              (U.add IntKind.i64
                                                (U.quo IntKind.i64
                                                  (U.sub IntKind.i64
                                                    (U.mm true
                                                      (lk sLast (lk uF (lk ofF a b c) (lk ofB a b c) (lk ofC a b c))
                                                        (lk uB (lk ofF a b c) (lk ofB a b c) (lk ofC a b c))
                                                        (lk ofC a b c))
                                                      (lk sLast (lk uF (lk ofF x y z) (lk ofB x y z) (lk ofC x y z))
                                                        (lk uB (lk ofF x y z) (lk ofB x y z) (lk ofC x y z))
                                                        (lk ofC x y z)))
                                                    (U.mm false (lk uF (lk ofF a b c) (lk ofB a b c) (lk ofC a b c))
                                                      (lk uF (lk ofF x y z) (lk ofB x y z) (lk ofC x y z))))
                                                  (lk euG
                                                    (U.mm true
                                                      (U.sub IntKind.i64
                                                        (lk uF (lk ofF a b c) (lk ofB a b c) (lk ofC a b c))
                                                        (lk uF (lk ofF x y z) (lk ofB x y z) (lk ofC x y z)))
                                                      (U.sub IntKind.i64
                                                        (lk uF (lk ofF x y z) (lk ofB x y z) (lk ofC x y z))
                                                        (lk uF (lk ofF a b c) (lk ofB a b c) (lk ofC a b c))))
                                                    (lk uB (lk ofF x y z) (lk ofB x y z) (lk ofC x y z))))
                                                (1 : Int))))]))))))
                          (T.br
                            (U.eq
                              (U.mm true
                                (U.sub IntKind.i64 (lk uF (lk ofF a b c) (lk ofB a b c) (lk ofC a b c))
                                  (lk uF (lk ofF x y z) (lk ofB x y z) (lk ofC x y z)))
                                (U.sub IntKind.i64 (lk uF (lk ofF x y z) (lk ofB x y z) (lk ofC x y z))
                                  (lk uF (lk ofF a b c) (lk ofB a b c) (lk ofC a b c))))
                              (0 : Int))
                            (T.ask
                              ((0 : Int) < (1 : Int) →
                                I64 ((1 : Int) - (1 : Int)) ∧
                                  I64 ((1 : Int) * ((1 : Int) - (1 : Int))) ∧
                                    I64
                                      (U.mm false (lk uF (lk ofF a b c) (lk ofB a b c) (lk ofC a b c))
                                          (lk uF (lk ofF x y z) (lk ofB x y z) (lk ofC x y z)) +
                                        (1 : Int) * ((1 : Int) - (1 : Int))))
                              (T.ret
                                (SV.tup
                                  [SV.agg
                                      [SV.lit
                                          (Value.int IntKind.i64
                                            (lk nLow
                                              (U.mm false (lk uF (lk ofF a b c) (lk ofB a b c) (lk ofC a b c))
                                                (lk uF (lk ofF x y z) (lk ofB x y z) (lk ofC x y z)))
                                              (1 : Int) (1 : Int))),
                                        SV.lit
                                          (Value.int IntKind.i64
                                            (lk nHigh
                                              (U.mm false (lk uF (lk ofF a b c) (lk ofB a b c) (lk ofC a b c))
                                                (lk uF (lk ofF x y z) (lk ofB x y z) (lk ofC x y z)))
                                              (1 : Int) (1 : Int))),
                                        SV.lit
                                          (Value.int IntKind.i64
                                            (lk nStr
                                              (U.mm false (lk uF (lk ofF a b c) (lk ofB a b c) (lk ofC a b c))
                                                (lk uF (lk ofF x y z) (lk ofB x y z) (lk ofC x y z)))
                                              (1 : Int) (1 : Int)))],
                                    SV.lit
                                      (Value.int IntKind.i64
                                        (lk nErr
                                          (U.mm false (lk uF (lk ofF a b c) (lk ofB a b c) (lk ofC a b c))
                                            (lk uF (lk ofF x y z) (lk ofB x y z) (lk ofC x y z)))
                                          (1 : Int) (1 : Int)))])))
                            (T.ask
                              (U.mm true
                                  (U.sub IntKind.i64 (lk uF (lk ofF a b c) (lk ofB a b c) (lk ofC a b c))
                                    (lk uF (lk ofF x y z) (lk ofB x y z) (lk ofC x y z)))
                                  (U.sub IntKind.i64 (lk uF (lk ofF x y z) (lk ofB x y z) (lk ofC x y z))
                                    (lk uF (lk ofF a b c) (lk ofB a b c) (lk ofC a b c))) ≠
                                (0 : Int))
                              (T.ask
                                ((0 : Int) <
                                    U.add IntKind.i64
                                      (U.quo IntKind.i64
                                        (U.sub IntKind.i64
                                          (U.mm true
                                            (lk sLast (lk uF (lk ofF a b c) (lk ofB a b c) (lk ofC a b c))
                                              (lk uB (lk ofF a b c) (lk ofB a b c) (lk ofC a b c)) (lk ofC a b c))
                                            (lk sLast (lk uF (lk ofF x y z) (lk ofB x y z) (lk ofC x y z))
                                              (lk uB (lk ofF x y z) (lk ofB x y z) (lk ofC x y z)) (lk ofC x y z)))
                                          (U.mm false (lk uF (lk ofF a b c) (lk ofB a b c) (lk ofC a b c))
                                            (lk uF (lk ofF x y z) (lk ofB x y z) (lk ofC x y z))))
                                        (U.mm true
                                          (U.sub IntKind.i64 (lk uF (lk ofF a b c) (lk ofB a b c) (lk ofC a b c))
                                            (lk uF (lk ofF x y z) (lk ofB x y z) (lk ofC x y z)))
                                          (U.sub IntKind.i64 (lk uF (lk ofF x y z) (lk ofB x y z) (lk ofC x y z))
                                            (lk uF (lk ofF a b c) (lk ofB a b c) (lk ofC a b c)))))
                                      (1 : Int) →
                                  I64
                                      (U.add IntKind.i64
                                          (U.quo IntKind.i64
                                            (U.sub IntKind.i64
                                              (U.mm true
                                                (lk sLast (lk uF (lk ofF a b c) (lk ofB a b c) (lk ofC a b c))
                                                  (lk uB (lk ofF a b c) (lk ofB a b c) (lk ofC a b c)) (lk ofC a b c))
                                                (lk sLast (lk uF (lk ofF x y z) (lk ofB x y z) (lk ofC x y z))
                                                  (lk uB (lk ofF x y z) (lk ofB x y z) (lk ofC x y z)) (lk ofC x y z)))
                                              (U.mm false (lk uF (lk ofF a b c) (lk ofB a b c) (lk ofC a b c))
                                                (lk uF (lk ofF x y z) (lk ofB x y z) (lk ofC x y z))))
                                            (U.mm true
                                              (U.sub IntKind.i64 (lk uF (lk ofF a b c) (lk ofB a b c) (lk ofC a b c))
                                                (lk uF (lk ofF x y z) (lk ofB x y z) (lk ofC x y z)))
                                              (U.sub IntKind.i64 (lk uF (lk ofF x y z) (lk ofB x y z) (lk ofC x y z))
                                                (lk uF (lk ofF a b c) (lk ofB a b c) (lk ofC a b c)))))
                                          (1 : Int) -
                                        (1 : Int)) ∧
                                    I64
                                        (U.mm true
                                            (U.sub IntKind.i64 (lk uF (lk ofF a b c) (lk ofB a b c) (lk ofC a b c))
                                              (lk uF (lk ofF x y z) (lk ofB x y z) (lk ofC x y z)))
                                            (U.sub IntKind.i64 (lk uF (lk ofF x y z) (lk ofB x y z) (lk ofC x y z))
                                              (lk uF (lk ofF a b c) (lk ofB a b c) (lk ofC a b c))) *
                                          (U.add IntKind.i64
                                              (U.quo IntKind.i64
                                                (U.sub IntKind.i64
                                                  (U.mm true
                                                    (lk sLast (lk uF (lk ofF a b c) (lk ofB a b c) (lk ofC a b c))
                                                      (lk uB (lk ofF a b c) (lk ofB a b c) (lk ofC a b c))
                                                      (lk ofC a b c))
                                                    (lk sLast (lk uF (lk ofF x y z) (lk ofB x y z) (lk ofC x y z))
                                                      (lk uB (lk ofF x y z) (lk ofB x y z) (lk ofC x y z))
                                                      (lk ofC x y z)))
                                                  (U.mm false (lk uF (lk ofF a b c) (lk ofB a b c) (lk ofC a b c))
                                                    (lk uF (lk ofF x y z) (lk ofB x y z) (lk ofC x y z))))
                                                (U.mm true
                                                  (U.sub IntKind.i64
                                                    (lk uF (lk ofF a b c) (lk ofB a b c) (lk ofC a b c))
                                                    (lk uF (lk ofF x y z) (lk ofB x y z) (lk ofC x y z)))
                                                  (U.sub IntKind.i64
                                                    (lk uF (lk ofF x y z) (lk ofB x y z) (lk ofC x y z))
                                                    (lk uF (lk ofF a b c) (lk ofB a b c) (lk ofC a b c)))))
                                              (1 : Int) -
                                            (1 : Int))) ∧
                                      I64
                                        (U.mm false (lk uF (lk ofF a b c) (lk ofB a b c) (lk ofC a b c))
                                            (lk uF (lk ofF x y z) (lk ofB x y z) (lk ofC x y z)) +
                                          U.mm true
                                              (U.sub IntKind.i64 (lk uF (lk ofF a b c) (lk ofB a b c) (lk ofC a b c))
                                                (lk uF (lk ofF x y z) (lk ofB x y z) (lk ofC x y z)))
                                              (U.sub IntKind.i64 (lk uF (lk ofF x y z) (lk ofB x y z) (lk ofC x y z))
                                                (lk uF (lk ofF a b c) (lk ofB a b c) (lk ofC a b c))) *
                                            (U.add IntKind.i64
                                                (U.quo IntKind.i64
                                                  (U.sub IntKind.i64
                                                    (U.mm true
                                                      (lk sLast (lk uF (lk ofF a b c) (lk ofB a b c) (lk ofC a b c))
                                                        (lk uB (lk ofF a b c) (lk ofB a b c) (lk ofC a b c))
                                                        (lk ofC a b c))
                                                      (lk sLast (lk uF (lk ofF x y z) (lk ofB x y z) (lk ofC x y z))
                                                        (lk uB (lk ofF x y z) (lk ofB x y z) (lk ofC x y z))
                                                        (lk ofC x y z)))
                                                    (U.mm false (lk uF (lk ofF a b c) (lk ofB a b c) (lk ofC a b c))
                                                      (lk uF (lk ofF x y z) (lk ofB x y z) (lk ofC x y z))))
                                                  (U.mm true
                                                    (U.sub IntKind.i64
                                                      (lk uF (lk ofF a b c) (lk ofB a b c) (lk ofC a b c))
                                                      (lk uF (lk ofF x y z) (lk ofB x y z) (lk ofC x y z)))
                                                    (U.sub IntKind.i64
                                                      (lk uF (lk ofF x y z) (lk ofB x y z) (lk ofC x y z))
                                                      (lk uF (lk ofF a b c) (lk ofB a b c) (lk ofC a b c)))))
                                                (1 : Int) -
                                              (1 : Int))))
                                (T.ret
                                  (SV.tup
                                    [SV.agg
                                        [SV.lit
                                            (Value.int IntKind.i64
                                              (lk nLow
                                                (U.mm false (lk uF (lk ofF a b c) (lk ofB a b c) (lk ofC a b c))
                                                  (lk uF (lk ofF x y z) (lk ofB x y z) (lk ofC x y z)))
                                                (U.mm true
                                                  (U.sub IntKind.i64
                                                    (lk uF (lk ofF a b c) (lk ofB a b c) (lk ofC a b c))
                                                    (lk uF (lk ofF x y z) (lk ofB x y z) (lk ofC x y z)))
                                                  (U.sub IntKind.i64
                                                    (lk uF (lk ofF x y z) (lk ofB x y z) (lk ofC x y z))
                                                    (lk uF (lk ofF a b c) (lk ofB a b c) (lk ofC a b c))))
                                                (U.add IntKind.i64
                                                  (U.quo IntKind.i64
                                                    (U.sub IntKind.i64
                                                      (U.mm true
                                                        (lk sLast (lk uF (lk ofF a b c) (lk ofB a b c) (lk ofC a b c))
                                                          (lk uB (lk ofF a b c) (lk ofB a b c) (lk ofC a b c))
                                                          (lk ofC a b c))
                                                        (lk sLast (lk uF (lk ofF x y z) (lk ofB x y z) (lk ofC x y z))
                                                          (lk uB (lk ofF x y z) (lk ofB x y z) (lk ofC x y z))
                                                          (lk ofC x y z)))
                                                      (U.mm false (lk uF (lk ofF a b c) (lk ofB a b c) (lk ofC a b c))
                                                        (lk uF (lk ofF x y z) (lk ofB x y z) (lk ofC x y z))))
                                                    (U.mm true
                                                      (U.sub IntKind.i64
                                                        (lk uF (lk ofF a b c) (lk ofB a b c) (lk ofC a b c))
                                                        (lk uF (lk ofF x y z) (lk ofB x y z) (lk ofC x y z)))
                                                      (U.sub IntKind.i64
                                                        (lk uF (lk ofF x y z) (lk ofB x y z) (lk ofC x y z))
                                                        (lk uF (lk ofF a b c) (lk ofB a b c) (lk ofC a b c)))))
                                                  (1 : Int)))),
                                          SV.lit
                                            (Value.int IntKind.i64
                                              (lk nHigh
                                                (U.mm false (lk uF (lk ofF a b c) (lk ofB a b c) (lk ofC a b c))
                                                  (lk uF (lk ofF x y z) (lk ofB x y z) (lk ofC x y z)))
                                                (U.mm true
                                                  (U.sub IntKind.i64
                                                    (lk uF (lk ofF a b c) (lk ofB a b c) (lk ofC a b c))
                                                    (lk uF (lk ofF x y z) (lk ofB x y z) (lk ofC x y z)))
                                                  (U.sub IntKind.i64
                                                    (lk uF (lk ofF x y z) (lk ofB x y z) (lk ofC x y z))
                                                    (lk uF (lk ofF a b c) (lk ofB a b c) (lk ofC a b c))))
                                                (U.add IntKind.i64
                                                  (U.quo IntKind.i64
                                                    (U.sub IntKind.i64
                                                      (U.mm true
                                                        (lk sLast (lk uF (lk ofF a b c) (lk ofB a b c) (lk ofC a b c))
                                                          (lk uB (lk ofF a b c) (lk ofB a b c) (lk ofC a b c))
                                                          (lk ofC a b c))
                                                        (lk sLast (lk uF (lk ofF x y z) (lk ofB x y z) (lk ofC x y z))
                                                          (lk uB (lk ofF x y z) (lk ofB x y z) (lk ofC x y z))
                                                          (lk ofC x y z)))
                                                      (U.mm false (lk uF (lk ofF a b c) (lk ofB a b c) (lk ofC a b c))
                                                        (lk uF (lk ofF x y z) (lk ofB x y z) (lk ofC x y z))))
                                                    (U.mm true
                                                      (U.sub IntKind.i64
                                                        (lk uF (lk ofF a b c) (lk ofB a b c) (lk ofC a b c))
                                                        (lk uF (lk ofF x y z) (lk ofB x y z) (lk ofC x y z)))
                                                      (U.sub IntKind.i64
                                                        (lk uF (lk ofF x y z) (lk ofB x y z) (lk ofC x y z))
                                                        (lk uF (lk ofF a b c) (lk ofB a b c) (lk ofC a b c)))))
                                                  (1 : Int)))),
                                          SV.lit
                                            (Value.int IntKind.i64
                                              (lk nStr
                                                (U.mm false (lk uF (lk ofF a b c) (lk ofB a b c) (lk ofC a b c))
                                                  (lk uF (lk ofF x y z) (lk ofB x y z) (lk ofC x y z)))
                                                (U.mm true
                                                  (U.sub IntKind.i64
                                                    (lk uF (lk ofF a b c) (lk ofB a b c) (lk ofC a b c))
                                                    (lk uF (lk ofF x y z) (lk ofB x y z) (lk ofC x y z)))
                                                  (U.sub IntKind.i64
                                                    (lk uF (lk ofF x y z) (lk ofB x y z) (lk ofC x y z))
                                                    (lk uF (lk ofF a b c) (lk ofB a b c) (lk ofC a b c))))
                                                (U.add IntKind.i64
                                                  (U.quo IntKind.i64
                                                    (U.sub IntKind.i64
                                                      (U.mm true
                                                        (lk sLast (lk uF (lk ofF a b c) (lk ofB a b c) (lk ofC a b c))
                                                          (lk uB (lk ofF a b c) (lk ofB a b c) (lk ofC a b c))
                                                          (lk ofC a b c))
                                                        (lk sLast (lk uF (lk ofF x y z) (lk ofB x y z) (lk ofC x y z))
                                                          (lk uB (lk ofF x y z) (lk ofB x y z) (lk ofC x y z))
                                                          (lk ofC x y z)))
                                                      (U.mm false (lk uF (lk ofF a b c) (lk ofB a b c) (lk ofC a b c))
                                                        (lk uF (lk ofF x y z) (lk ofB x y z) (lk ofC x y z))))
                                                    (U.mm true
                                                      (U.sub IntKind.i64
                                                        (lk uF (lk ofF a b c) (lk ofB a b c) (lk ofC a b c))
                                                        (lk uF (lk ofF x y z) (lk ofB x y z) (lk ofC x y z)))
                                                      (U.sub IntKind.i64
                                                        (lk uF (lk ofF x y z) (lk ofB x y z) (lk ofC x y z))
                                                        (lk uF (lk ofF a b c) (lk ofB a b c) (lk ofC a b c)))))
                                                  (1 : Int))))],
                                      SV.lit
                                        (Value.int IntKind.i64
                                          (lk nErr
                                            (U.mm false (lk uF (lk ofF a b c) (lk ofB a b c) (lk ofC a b c))
                                              (lk uF (lk ofF x y z) (lk ofB x y z) (lk ofC x y z)))
                                            (U.mm true
                                              (U.sub IntKind.i64 (lk uF (lk ofF a b c) (lk ofB a b c) (lk ofC a b c))
                                                (lk uF (lk ofF x y z) (lk ofB x y z) (lk ofC x y z)))
                                              (U.sub IntKind.i64 (lk uF (lk ofF x y z) (lk ofB x y z) (lk ofC x y z))
                                                (lk uF (lk ofF a b c) (lk ofB a b c) (lk ofC a b c))))
                                            (U.add IntKind.i64
                                              (U.quo IntKind.i64
                                                (U.sub IntKind.i64
                                                  (U.mm true
                                                    (lk sLast (lk uF (lk ofF a b c) (lk ofB a b c) (lk ofC a b c))
                                                      (lk uB (lk ofF a b c) (lk ofB a b c) (lk ofC a b c))
                                                      (lk ofC a b c))
                                                    (lk sLast (lk uF (lk ofF x y z) (lk ofB x y z) (lk ofC x y z))
                                                      (lk uB (lk ofF x y z) (lk ofB x y z) (lk ofC x y z))
                                                      (lk ofC x y z)))
                                                  (U.mm false (lk uF (lk ofF a b c) (lk ofB a b c) (lk ofC a b c))
                                                    (lk uF (lk ofF x y z) (lk ofB x y z) (lk ofC x y z))))
                                                (U.mm true
                                                  (U.sub IntKind.i64
                                                    (lk uF (lk ofF a b c) (lk ofB a b c) (lk ofC a b c))
                                                    (lk uF (lk ofF x y z) (lk ofB x y z) (lk ofC x y z)))
                                                  (U.sub IntKind.i64
                                                    (lk uF (lk ofF x y z) (lk ofB x y z) (lk ofC x y z))
                                                    (lk uF (lk ofF a b c) (lk ofB a b c) (lk ofC a b c)))))
                                              (1 : Int))))])))))))))))))))) := by kernel_rfl
set_option maxHeartbeats 1000000 in
theorem Hull_ok : ConOK P 49 c_Hull := con_of (allOKL mixed ke_ok l49_ok) 10 49 fun args r h => by
  unfold c_Hull at h
  split at h
  · rename_i a b c x y z
    have hp := (T.is_ask h).1
    have h := (T.is_ask h).2
    obtain rfl := T.is_ret h
    rw [t_Hull]
    obtain ⟨ha, hb, hc, hx, hy, hz⟩ := hp
    have f1 : uF (ofF a b c) (ofB a b c) (ofC a b c) = sA a b c := rfl
    have f2 : uB (ofF a b c) (ofB a b c) (ofC a b c) = sS a b c := rfl
    have f3 : uF (ofF x y z) (ofB x y z) (ofC x y z) = sA x y z := rfl
    have f4 : uB (ofF x y z) (ofB x y z) (ofC x y z) = sS x y z := rfl
    simp only [lk_eq, f1, f2, f3, f4, mm_max, mm_min]
    refine ⟨⟨ha, hb, hc, hx, hy, hz⟩, fun h => ?_, fun h => ?_⟩
    · rw [U.ne_t] at h
      simp only [hlL, hlH, hlS, hlE, if_pos h]
      exact rfl
    · rw [U.ne_f] at h
      obtain ⟨r1, r2⟩ := ckd_right h
      have hn : ¬ ckd a b c x y z ≠ 0 := by simp [h]
      refine ⟨of_ask r1 ha hb hc, up_ask r1, of_ask r2 hx hy hz, up_ask r2, ?_⟩
      have s1 := up_ser r1
      have s2 := up_ser r2
      simp only [hlL, hlH, hlS, hlE, if_neg hn, haF, haB, haC]
      generalize sA a b c = A at *
      generalize sS a b c = s at *
      generalize ofC a b c = C at *
      generalize sA x y z = B at *
      generalize sS x y z = t at *
      generalize ofC x y z = D at *
      by_cases hC : C = 0
      · refine ⟨fun _ => ⟨fun hd => ?_, ?_⟩, fun h => absurd hC (by rwa [U.eq_f] at h)⟩
        · obtain ⟨b1, b2, b3, b4, b5, b6⟩ := s2.resolve_left (by omega)
          have hB1 := mulle (x := 0) (y := D - 1) b3 (by omega)
          rw [Int.mul_zero] at hB1
          unfold I64; omega
        · simp only [huF, huB, huC, if_pos hC]
          exact rfl
      by_cases hD : D = 0
      · refine ⟨fun h => absurd (by rwa [U.eq_t] at h) hC, fun _ => ⟨fun _ => ⟨fun hd => ?_, ?_⟩, fun h => absurd hD (by rwa [U.eq_f] at h)⟩⟩
        · obtain ⟨a1, a2, a3, a4, a5, a6⟩ := s1.resolve_left (by omega)
          have hA1 := mulle (x := 0) (y := C - 1) a3 (by omega)
          rw [Int.mul_zero] at hA1
          unfold I64; omega
        · simp only [huF, huB, huC, if_neg hC, if_pos hD]
          exact rfl
      obtain ⟨a1, a2, a3, a4, a5, a6⟩ := s1.resolve_left hC
      obtain ⟨b1, b2, b3, b4, b5, b6⟩ := s2.resolve_left hD
      have hA1 := mulle (x := 0) (y := C - 1) a3 (by omega)
      have hB1 := mulle (x := 0) (y := D - 1) b3 (by omega)
      rw [Int.mul_zero] at hA1 hB1
      have e1 : U.sub .i64 A B = A - B := U.sub64 (by unfold I64; omega)
      have e2 : U.sub .i64 B A = B - A := U.sub64 (by unfold I64; omega)
      have e3 : max (A - B) (B - A) = huD A B := rfl
      have e4 : max (sLast A s C) (sLast B t D) = huX A s C B t D := rfl
      have hXb : min A B ≤ huX A s C B t D ∧ huX A s C B t D ≤ 1000000 := by unfold huX sLast; omega
      have hDb : 0 ≤ huD A B ∧ huD A B ≤ 2000000 := by unfold huD; omega
      simp only [e1, e2, e3, e4]
      have f1 : U.sub .i64 (huX A s C B t D) (min A B) = huX A s C B t D - min A B := U.sub64 (by unfold I64; omega)
      have fin : ∀ g, hu2 A s C B t D = g → 0 ≤ g → T.All (fun x => x = SV.tup [SV.agg [SV.lit (.int .i64 (nLow (huF A s C B t D) (huB A s C B t D) (huC A s C B t D))), SV.lit (.int .i64 (nHigh (huF A s C B t D) (huB A s C B t D) (huC A s C B t D))), SV.lit (.int .i64 (nStr (huF A s C B t D) (huB A s C B t D) (huC A s C B t D)))], SV.lit (.int .i64 (nErr (huF A s C B t D) (huB A s C B t D) (huC A s C B t D)))])
          (T.br (U.eq g 0) (T.ask ((0 : Int) < 1 → I64 (1 - 1) ∧ I64 (1 * (1 - 1)) ∧ I64 (min A B + 1 * (1 - 1)))
              (T.ret (SV.tup [SV.agg [SV.lit (.int .i64 (nLow (min A B) 1 1)), SV.lit (.int .i64 (nHigh (min A B) 1 1)), SV.lit (.int .i64 (nStr (min A B) 1 1))], SV.lit (.int .i64 (nErr (min A B) 1 1))])))
            (T.ask (g ≠ 0) (T.ask (0 < U.add .i64 (U.quo .i64 (U.sub .i64 (huX A s C B t D) (min A B)) g) 1 → I64 (U.add .i64 (U.quo .i64 (U.sub .i64 (huX A s C B t D) (min A B)) g) 1 - 1) ∧ I64 (g * (U.add .i64 (U.quo .i64 (U.sub .i64 (huX A s C B t D) (min A B)) g) 1 - 1)) ∧ I64 (min A B + g * (U.add .i64 (U.quo .i64 (U.sub .i64 (huX A s C B t D) (min A B)) g) 1 - 1)))
              (T.ret (SV.tup [SV.agg [SV.lit (.int .i64 (nLow (min A B) g (U.add .i64 (U.quo .i64 (U.sub .i64 (huX A s C B t D) (min A B)) g) 1))), SV.lit (.int .i64 (nHigh (min A B) g (U.add .i64 (U.quo .i64 (U.sub .i64 (huX A s C B t D) (min A B)) g) 1))), SV.lit (.int .i64 (nStr (min A B) g (U.add .i64 (U.quo .i64 (U.sub .i64 (huX A s C B t D) (min A B)) g) 1)))], SV.lit (.int .i64 (nErr (min A B) g (U.add .i64 (U.quo .i64 (U.sub .i64 (huX A s C B t D) (min A B)) g) 1)))]))))) := fun g hg hg0 => by
        have hF : huF A s C B t D = min A B := by simp only [huF, if_neg hC, if_neg hD]
        by_cases hz : g = 0
        · have hBB : huB A s C B t D = 1 := by simp only [huB, if_neg hC, if_neg hD, hg, if_pos hz]
          have hCC : huC A s C B t D = 1 := by simp only [huC, if_neg hC, if_neg hD, hg, if_pos hz]
          rw [hF, hBB, hCC]
          refine ⟨fun _ => ⟨fun _ => by unfold I64; omega, rfl⟩, fun h => absurd hz (by rwa [U.eq_f] at h)⟩
        · have hBB : huB A s C B t D = g := by simp only [huB, if_neg hC, if_neg hD, hg, if_neg hz]
          have hCC : huC A s C B t D = (huX A s C B t D - min A B).tdiv g + 1 := by simp only [huC, if_neg hC, if_neg hD, hg, if_neg hz]
          have t1 := Int.tdiv_eq_ediv_of_nonneg (b := g) (show 0 ≤ huX A s C B t D - min A B by omega)
          obtain ⟨q1, q2, q3, q4, q5, q6, q7, q8⟩ := einv_q (x0 := huX A s C B t D - min A B) (y0 := g) (by omega) (by omega)
          have t2 : g * ((huX A s C B t D - min A B) / g) = (huX A s C B t D - min A B) / g * g := Int.mul_comm _ _
          have f2 : U.quo .i64 (huX A s C B t D - min A B) g = (huX A s C B t D - min A B).tdiv g := U.quo64 (by rw [t1]; unfold I64; omega)
          have f3 : U.add .i64 ((huX A s C B t D - min A B).tdiv g) 1 = (huX A s C B t D - min A B).tdiv g + 1 := U.add64 (by rw [t1]; unfold I64; omega)
          simp only [f1, f2, f3]
          rw [hF, hBB, hCC]
          refine ⟨fun h => absurd (by rwa [U.eq_t] at h) hz, fun _ => ⟨hz, fun _ => ?_, rfl⟩⟩
          rw [show (huX A s C B t D - min A B).tdiv g + 1 - 1 = (huX A s C B t D - min A B) / g by omega, t2]
          unfold I64; omega
      have hAC : I64 (C - 1) ∧ I64 (s * (C - 1)) ∧ I64 (A + s * (C - 1)) := by unfold I64; omega
      have hBD : I64 (D - 1) ∧ I64 (t * (D - 1)) ∧ I64 (B + t * (D - 1)) := by unfold I64; omega
      have g1 := eu_le hDb.1 a3
      have g2 := eu_le (show 0 ≤ euG (huD A B) s by omega) b3
      have g3 := eu_le hDb.1 b3
      refine ⟨fun h => absurd (by rwa [U.eq_t] at h) hC, fun _ => ⟨fun h => absurd (by rwa [U.eq_t] at h) hD, fun _ => ⟨hAC, hBD, fun h1 => ⟨⟨hDb.1, by omega, by omega, by omega⟩, fun h2 => ⟨⟨by omega, by omega, by omega, by omega⟩, fin _ ?_ (by omega)⟩, fun h2 => fin _ ?_ (by omega)⟩, fun h1 => ⟨fun h2 => ⟨⟨hDb.1, by omega, by omega, by omega⟩, fin _ ?_ (by omega)⟩, fun h2 => fin _ ?_ hDb.1⟩⟩⟩⟩
      · rw [U.gt_t] at h1 h2
        simp only [hu2, hu1, if_pos h1, if_pos h2]
      · rw [U.gt_t] at h1
        rw [U.gt_f] at h2
        simp only [hu2, hu1, if_pos h1, if_neg (show ¬ D > 1 by omega)]
      · rw [U.gt_f] at h1
        rw [U.gt_t] at h2
        simp only [hu2, hu1, if_neg (show ¬ C > 1 by omega), if_pos h2]
      · rw [U.gt_f] at h1 h2
        simp only [hu2, hu1, if_neg (show ¬ C > 1 by omega), if_neg (show ¬ D > 1 by omega)]
  · exact h.elim
end Go.RX.Span
