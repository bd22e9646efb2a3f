/- Ranges: what the law of the algebra of ranges returns. -/
import Derived.Test.YtfcafajfllegaaaSRj
set_option linter.unusedVariables false
set_option linter.unusedSimpArgs false
set_option maxRecDepth 100000
namespace Go.RX.Span
open Go Go.RX

noncomputable abbrev kf : List (Nat × Con) := (48, c_Intersect) :: (49, c_Hull) :: (50, c_Within) :: k8 --%K
theorem kf_ok : ∀ p ∈ kf, ConOK P p.1 p.2 := by
  intro p hp
  simp only [kf, List.mem_cons] at hp
  rcases hp with rfl | rfl | rfl | hp
  · exact Intersect_ok
  · exact Hull_ok
  · exact Within_ok
  · exact k8_ok p (by simpa [k8] using hp)
theorem right_i64' {a b c : Int} (h : Right a b c) : I64 a ∧ I64 b ∧ I64 c := by
  have h1 := h.1
  have h2 := right_c h
  unfold I64
  omega
noncomputable def c_SpanAlgebra : Con := fun args => match args with
  | [.agg [.lit (.int .i64 a), .lit (.int .i64 b), .lit (.int .i64 c)], .agg [.lit (.int .i64 x), .lit (.int .i64 y), .lit (.int .i64 z)], .agg [.lit (.int .i64 p), .lit (.int .i64 q), .lit (.int .i64 r)]] =>
    .ask (I64 a ∧ I64 b ∧ I64 c ∧ I64 x ∧ I64 y ∧ I64 z ∧ I64 p ∧ I64 q ∧ I64 r) (.ret (.lit (.bool true)))
  | _ => .stuck 1
set_option maxRecDepth 100000 in
theorem t_SpanAlgebra (a b c x y z p q r : Int) : conB Go.Proofs.Try.prog (conOf kf) noLoops 10 7 [.agg [.lit (.int .i64 a), .lit (.int .i64 b), .lit (.int .i64 c)], .agg [.lit (.int .i64 x), .lit (.int .i64 y), .lit (.int .i64 z)], .agg [.lit (.int .i64 p), .lit (.int .i64 q), .lit (.int .i64 r)]] =
    T.ask (I64 a ∧ I64 b ∧ I64 c)
    (T.br (U.ne (lk chk a b c) (0 : Int)) (T.ret (SV.lit (Value.bool true)))
      (T.ask (I64 x ∧ I64 y ∧ I64 z)
        (T.br (U.ne (lk chk x y z) (0 : Int)) (T.ret (SV.lit (Value.bool true)))
          (T.ask (I64 p ∧ I64 q ∧ I64 r)
            (T.br (U.ne (lk chk p q r) (0 : Int)) (T.ret (SV.lit (Value.bool true)))
              (T.ask (I64 a ∧ I64 b ∧ I64 c ∧ I64 x ∧ I64 y ∧ I64 z)
                (T.ask (I64 x ∧ I64 y ∧ I64 z ∧ I64 a ∧ I64 b ∧ I64 c)
                  (T.ask (I64 x ∧ I64 y ∧ I64 z ∧ I64 p ∧ I64 q ∧ I64 r)
                    (T.br (U.ne (lk isEr a b c x y z) (0 : Int)) (T.ret (SV.lit (Value.bool false)))
                      (T.br (U.ne (lk isEr x y z a b c) (0 : Int)) (T.ret (SV.lit (Value.bool false)))
                        (T.br (U.ne (lk isEr x y z p q r) (0 : Int)) (T.ret (SV.lit (Value.bool false)))
                          (T.ask
                            (I64 (lk isL a b c x y z) ∧
                              I64 (lk isH a b c x y z) ∧ I64 (lk isS a b c x y z) ∧ I64 p ∧ I64 q ∧ I64 r)
                            (T.ask
                              (I64 a ∧
                                I64 b ∧
                                  I64 c ∧
                                    I64 (lk isL x y z p q r) ∧ I64 (lk isH x y z p q r) ∧ I64 (lk isS x y z p q r))
                              (T.br
                                (U.ne (lk isEr (lk isL a b c x y z) (lk isH a b c x y z) (lk isS a b c x y z) p q r)
                                  (0 : Int))
                                (T.ret (SV.lit (Value.bool false)))
                                (T.br
                                  (U.ne (lk isEr a b c (lk isL x y z p q r) (lk isH x y z p q r) (lk isS x y z p q r))
                                    (0 : Int))
                                  (T.ret (SV.lit (Value.bool false)))
                                  (T.br
                                    (U.ne (lk isL (lk isL a b c x y z) (lk isH a b c x y z) (lk isS a b c x y z) p q r)
                                      (lk isL a b c (lk isL x y z p q r) (lk isH x y z p q r) (lk isS x y z p q r)))
                                    (T.ret (SV.lit (Value.bool false)))
                                    (T.br
                                      (U.ne
                                        (lk isH (lk isL a b c x y z) (lk isH a b c x y z) (lk isS a b c x y z) p q r)
                                        (lk isH a b c (lk isL x y z p q r) (lk isH x y z p q r) (lk isS x y z p q r)))
                                      (T.ret (SV.lit (Value.bool false)))
                                      (T.ask
                                        (I64
                                            (lk isL (lk isL a b c x y z) (lk isH a b c x y z) (lk isS a b c x y z) p q
                                              r) ∧
                                          I64
                                              (lk isH (lk isL a b c x y z) (lk isH a b c x y z) (lk isS a b c x y z) p q
                                                r) ∧
                                            I64
                                              (lk isS (lk isL a b c x y z) (lk isH a b c x y z) (lk isS a b c x y z) p q
                                                r))
                                        (T.ask
                                          (I64
                                              (lk isL a b c (lk isL x y z p q r) (lk isH x y z p q r)
                                                (lk isS x y z p q r)) ∧
                                            I64
                                                (lk isH a b c (lk isL x y z p q r) (lk isH x y z p q r)
                                                  (lk isS x y z p q r)) ∧
                                              I64
                                                (lk isS a b c (lk isL x y z p q r) (lk isH x y z p q r)
                                                  (lk isS x y z p q r)))
                                          (T.br
                                            (U.ne
                                              (lk size
                                                (lk isL (lk isL a b c x y z) (lk isH a b c x y z) (lk isS a b c x y z) p
                                                  q r)
                                                (lk isH (lk isL a b c x y z) (lk isH a b c x y z) (lk isS a b c x y z) p
                                                  q r)
                                                (lk isS (lk isL a b c x y z) (lk isH a b c x y z) (lk isS a b c x y z) p
                                                  q r))
                                              (lk size
                                                (lk isL a b c (lk isL x y z p q r) (lk isH x y z p q r)
                                                  (lk isS x y z p q r))
                                                (lk isH a b c (lk isL x y z p q r) (lk isH x y z p q r)
                                                  (lk isS x y z p q r))
                                                (lk isS a b c (lk isL x y z p q r) (lk isH x y z p q r)
                                                  (lk isS x y z p q r))))
                                            (T.ret (SV.lit (Value.bool false)))
                                            (T.br (U.ne (lk isL a b c x y z) (lk isL x y z a b c))
                                              (T.ret (SV.lit (Value.bool false)))
                                              (T.br (U.ne (lk isH a b c x y z) (lk isH x y z a b c))
                                                (T.ret (SV.lit (Value.bool false)))
                                                (T.ask
                                                  (I64 (lk isL a b c x y z) ∧
                                                    I64 (lk isH a b c x y z) ∧ I64 (lk isS a b c x y z))
                                                  (T.ask
                                                    (I64 (lk isL x y z a b c) ∧
                                                      I64 (lk isH x y z a b c) ∧ I64 (lk isS x y z a b c))
                                                    (T.br
                                                      (U.ne
                                                        (lk size (lk isL a b c x y z) (lk isH a b c x y z)
                                                          (lk isS a b c x y z))
                                                        (lk size (lk isL x y z a b c) (lk isH x y z a b c)
                                                          (lk isS x y z a b c)))
                                                      (T.ret (SV.lit (Value.bool false)))
                                                      (T.ask (I64 a ∧ I64 b ∧ I64 c ∧ I64 x ∧ I64 y ∧ I64 z)
                                                        (T.ask
                                                          (I64 a ∧
                                                            I64 b ∧
                                                              I64 c ∧
                                                                I64 (lk hlL a b c x y z) ∧
                                                                  I64 (lk hlH a b c x y z) ∧ I64 (lk hlS a b c x y z))
                                                          (T.ask
                                                            (I64 x ∧
                                                              I64 y ∧
                                                                I64 z ∧
                                                                  I64 (lk hlL a b c x y z) ∧
                                                                    I64 (lk hlH a b c x y z) ∧ I64 (lk hlS a b c x y z))
                                                            (T.br (U.ne (lk hlE a b c x y z) (0 : Int))
                                                              (T.ret (SV.lit (Value.bool false)))
                                                              (T.br
                                                                (U.ne
                                                                  (lk ckd a b c (lk hlL a b c x y z)
                                                                    (lk hlH a b c x y z) (lk hlS a b c x y z))
                                                                  (0 : Int))
                                                                (T.ret (SV.lit (Value.bool false)))
                                                                (T.br
                                                                  (U.ne
                                                                    (lk ckd x y z (lk hlL a b c x y z)
                                                                      (lk hlH a b c x y z) (lk hlS a b c x y z))
                                                                    (0 : Int))
                                                                  (T.ret (SV.lit (Value.bool false)))
                                                                  (T.br
                                                                    (U.not
                                                                      (lk wiB a b c (lk hlL a b c x y z)
                                                                        (lk hlH a b c x y z) (lk hlS a b c x y z)))
                                                                    (T.ret (SV.lit (Value.bool false)))
                                                                    (T.br
                                                                      (U.not
                                                                        (lk wiB x y z (lk hlL a b c x y z)
                                                                          (lk hlH a b c x y z) (lk hlS a b c x y z)))
                                                                      (T.ret (SV.lit (Value.bool false)))
                                                                      (T.ask
                                                                        (I64 a ∧ I64 b ∧ I64 c ∧ I64 p ∧ I64 q ∧ I64 r)
                                                                        (T.ask
                                                                          (I64 x ∧
                                                                            I64 y ∧ I64 z ∧ I64 p ∧ I64 q ∧ I64 r)
                                                                          (T.ask
                                                                            (I64 (lk hlL a b c x y z) ∧
                                                                              I64 (lk hlH a b c x y z) ∧
                                                                                I64 (lk hlS a b c x y z) ∧
                                                                                  I64 p ∧ I64 q ∧ I64 r)
                                                                            (T.br (U.eq (lk ckd a b c p q r) (0 : Int))
                                                                              (T.br
                                                                                (U.eq (lk ckd x y z p q r) (0 : Int))
                                                                                (T.br
                                                                                  (U.eq
                                                                                    (lk ckd (lk hlL a b c x y z)
                                                                                      (lk hlH a b c x y z)
                                                                                      (lk hlS a b c x y z) p q r)
                                                                                    (0 : Int))
                                                                                  (T.br (U.not (lk wiB a b c p q r))
                                                                                    (T.ret (SV.lit (Value.bool true)))
                                                                                    (T.br (U.not (lk wiB x y z p q r))
                                                                                      (T.ret (SV.lit (Value.bool true)))
                                                                                      (T.br
                                                                                        (lk wiB (lk hlL a b c x y z)
                                                                                          (lk hlH a b c x y z)
                                                                                          (lk hlS a b c x y z) p q r)
                                                                                        (T.ret
                                                                                          (SV.lit (Value.bool true)))
                                                                                        (T.ret
                                                                                          (SV.lit
                                                                                            (Value.bool false))))))
                                                                                  (T.ret (SV.lit (Value.bool false))))
                                                                                (T.ret (SV.lit (Value.bool false))))
                                                                              (T.ret
                                                                                (SV.lit
                                                                                  (Value.bool
                                                                                    false)))))))))))))))))))))))))))))))))))))))) := by kernel_rfl
set_option maxHeartbeats 1000000 in
theorem SpanAlgebra_ok : ConOK P 7 c_SpanAlgebra := con_of (allOK mixed kf_ok) 10 7 fun args r h => by
  unfold c_SpanAlgebra at h
  split at h
  · rename_i a b c x y z p q r
    have hp := (T.is_ask h).1
    have h := (T.is_ask h).2
    obtain rfl := T.is_ret h
    rw [t_SpanAlgebra]
    obtain ⟨ha, hb, hc, hx, hy, hz, hp, hq, hr⟩ := hp
    by_cases h1 : chk a b c = 0
    · by_cases h2 : chk x y z = 0
      · by_cases h3 : chk p q r = 0
        · have r1 := chk_zero.1 h1
          have r2 := chk_zero.1 h2
          have r3 := chk_zero.1 h3
          obtain ⟨i1, i2, i3⟩ := is_set r1 r2
          obtain ⟨j1, j2, j3⟩ := is_set r2 r1
          obtain ⟨k1, k2, k3⟩ := is_set r2 r3
          obtain ⟨l1, l2, l3⟩ := is_set i2 r3
          obtain ⟨m1, m2, m3⟩ := is_set r1 k2
          obtain ⟨n1, n2, n3⟩ := rin_ext i2 j2 (fun n => (i3 n).trans (And.comm.trans (j3 n).symm))
          obtain ⟨o1, o2, o3⟩ := rin_ext l2 m2 (fun n => (l3 n).trans (Iff.trans (and_congr_left' (i3 n)) (and_assoc.trans (Iff.trans (and_congr_right' (k3 n).symm) (m3 n).symm))))
          obtain ⟨u1, u2, u3, u4, u5⟩ := hl_set r1 r2
          have v1 := (wi_set r1 u2).2 u3
          have v2 := (wi_set r2 u2).2 u4
          have c1 := ckd_zero r1 u2
          have c2 := ckd_zero r2 u2
          have c3 := ckd_zero r1 r3
          have c4 := ckd_zero r2 r3
          have c5 := ckd_zero u2 r3
          have fin : wiB a b c p q r = true → wiB x y z p q r = true → wiB (hlL a b c x y z) (hlH a b c x y z) (hlS a b c x y z) p q r = true := fun g1 g2 =>
            (wi_set u2 r3).2 (u5 p q r ((wi_set r1 r3).1 g1) ((wi_set r2 r3).1 g2))
          obtain ⟨I1, I2, I3⟩ := right_i64' i2
          obtain ⟨J1, J2, J3⟩ := right_i64' j2
          obtain ⟨K1, K2, K3⟩ := right_i64' k2
          obtain ⟨L1, L2, L3⟩ := right_i64' l2
          obtain ⟨M1, M2, M3⟩ := right_i64' m2
          obtain ⟨U1, U2, U3⟩ := right_i64' u2
          have s1 := (size_eq' i2).trans (n3.trans (size_eq' j2).symm)
          have s2 := (size_eq' l2).trans (o3.trans (size_eq' m2).symm)
          have s3 := s2
          rw [o1, o2, n1, n2] at s3
          simp only [T.All, lk_eq, U.ne_eq, U.eq_eq, U.not_eq, h1, h2, h3, i1, j1, k1, l1, m1, u1, v1, v2, c1, c2, c3, c4, c5, o1, o2, s2, s1, ha, hb, hc, hx, hy, hz, hp, hq, hr, I1, I2, I3, J1, J2, J3, K1, K2, K3, L1, L2, L3, M1, M2, M3, U1, U2, U3, and_self, true_and, and_true]
          cases g1 : wiB a b c p q r
          · simp [n1, n2]
            exact s3
          · cases g2 : wiB x y z p q r
            · simp [n1, n2]
              exact s3
            · simp [n1, n2, fin g1 g2]
              exact s3
        · simp [T.All, U.ne_eq, lk_eq, h1, h2, h3, ha, hb, hc, hx, hy, hz, hp, hq, hr]
      · simp [T.All, U.ne_eq, lk_eq, h1, h2, ha, hb, hc, hx, hy, hz]
    · simp [T.All, U.ne_eq, lk_eq, h1, ha, hb, hc]
  · exact h.elim

theorem SpanAlgebra_walk (a b c x y z p q r : Int) (ha : I64 a) (hb : I64 b) (hc : I64 c) (hx : I64 x) (hy : I64 y) (hz : I64 z) (hp : I64 p) (hq : I64 q) (hr : I64 r) (w : World) :
    Calls P 7 #[.agg #[.int .i64 a, .int .i64 b, .int .i64 c], .agg #[.int .i64 x, .int .i64 y, .int .i64 z], .agg #[.int .i64 p, .int .i64 q, .int .i64 r]] w fun e w' => e = .returned (.bool true) ∧ Go.RowKit.Below w.heap.size w w' :=
  (SpanAlgebra_ok [.agg [.lit (.int .i64 a), .lit (.int .i64 b), .lit (.int .i64 c)], .agg [.lit (.int .i64 x), .lit (.int .i64 y), .lit (.int .i64 z)], .agg [.lit (.int .i64 p), .lit (.int .i64 q), .lit (.int .i64 r)]] (.lit (.bool true)) ⟨⟨ha, hb, hc, hx, hy, hz, hp, hq, hr⟩, rfl⟩ (fun _ => False) w
    [.agg #[.int .i64 a, .int .i64 b, .int .i64 c], .agg #[.int .i64 x, .int .i64 y, .int .i64 z], .agg #[.int .i64 p, .int .i64 q, .int .i64 r]] (fun _ h => h.elim) ⟨_, _, rfl, ⟨[_, _, _], rfl, _, _, rfl, rfl, _, _, rfl, rfl, _, _, rfl, rfl, rfl⟩, _, _, rfl, ⟨[_, _, _], rfl, _, _, rfl, rfl, _, _, rfl, rfl, _, _, rfl, rfl, rfl⟩, _, _, rfl, ⟨[_, _, _], rfl, _, _, rfl, rfl, _, _, rfl, rfl, _, _, rfl, rfl, rfl⟩, rfl⟩).mono
    fun e w' ⟨v, h1, h2, h3⟩ => ⟨by rw [h1, show v = .bool true from h3], h2⟩
end Go.RX.Span
