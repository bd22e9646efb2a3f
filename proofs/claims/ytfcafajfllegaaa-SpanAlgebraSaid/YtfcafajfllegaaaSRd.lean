/- What two series have both: the walk. -/
import Derived.Test.YtfcafajfllegaaaSRc
import Derived.Test.YtfcafajfllegaaaSRb
import Derived.Test.YtfcafajfllegaaaSPk
set_option linter.unusedVariables false
set_option linter.unusedSimpArgs false
set_option maxRecDepth 100000
namespace Go.RX.Span
open Go Go.RX

noncomputable abbrev kc : List (Nat × Con) := [(118, c_euclid), (115, c_last)] --%K
theorem kc_ok : ∀ p ∈ kc, ConOK P p.1 p.2 := by
  intro p hp
  simp only [kc, List.mem_cons, List.not_mem_nil, or_false] at hp
  rcases hp with rfl | rfl
  · exact euclid_ok
  · exact k7_ok (115, c_last) (by simp [k7, k6, k5, k4, k3, k2, k1])
theorem tmod_bnd {x m : Int} (hm : 1 ≤ m) : -m < x.tmod m ∧ x.tmod m < m := by
  have h1 := Int.tmod_lt_of_pos x (show 0 < m by omega)
  have h2 := Int.tmod_lt_of_pos (-x) (show 0 < m by omega)
  rw [Int.neg_tmod] at h2
  omega
theorem tdiv_bnd {x g N : Int} (hg : 1 ≤ g) (h : -N ≤ x ∧ x ≤ N) : -N ≤ x.tdiv g ∧ x.tdiv g ≤ N := by
  have h1 : (x.tdiv g).natAbs ≤ x.natAbs := by rw [Int.natAbs_tdiv]; exact Nat.div_le_self _ _
  omega
noncomputable def c_common : Con := fun args => match args with
  | [.agg [.lit (.int .i64 A), .lit (.int .i64 s), .lit (.int .i64 C)], .agg [.lit (.int .i64 B), .lit (.int .i64 t), .lit (.int .i64 D)]] =>
    .ask (Ser A s C ∧ Ser B t D) (.ret (.agg [.lit (.int .i64 (lk cmFst A s C B t D)), .lit (.int .i64 (lk cmBy A s C B t D)), .lit (.int .i64 (lk cmCnt A s C B t D))]))
  | _ => .stuck 1
set_option maxRecDepth 100000 in
theorem t_common (A s C B t D : Int) : conB Go.Proofs.Try.prog (conOf kc) noLoops 10 117 [.agg [.lit (.int .i64 A), .lit (.int .i64 s), .lit (.int .i64 C)], .agg [.lit (.int .i64 B), .lit (.int .i64 t), .lit (.int .i64 D)]] =
    T.br (U.eq C (0 : Int))
    (T.ret
      (SV.agg
        [SV.lit (Value.int IntKind.i64 (0 : Int)), SV.lit (Value.int IntKind.i64 (0 : Int)),
          SV.lit (Value.int IntKind.i64 (0 : Int))]))
    (T.br (U.eq D (0 : Int))
      (T.ret
        (SV.agg
          [SV.lit (Value.int IntKind.i64 (0 : Int)), SV.lit (Value.int IntKind.i64 (0 : Int)),
            SV.lit (Value.int IntKind.i64 (0 : Int))]))
      (T.ask ((0 : Int) ≤ s ∧ s ≤ (4000000 : Int) ∧ (0 : Int) ≤ t ∧ t ≤ (4000000 : Int))
        (T.ask (lk euG s t ≠ (0 : Int))
          (T.br (U.ne (U.rem (U.sub IntKind.i64 B A) (lk euG s t)) (0 : Int))
            (T.ret
              (SV.agg
                [SV.lit (Value.int IntKind.i64 (0 : Int)), SV.lit (Value.int IntKind.i64 (0 : Int)),
                  SV.lit (Value.int IntKind.i64 (0 : Int))]))
            (T.ask (lk euG s t ≠ (0 : Int))
              (T.ask (lk euG s t ≠ (0 : Int))
                (T.ask (U.quo IntKind.i64 t (lk euG s t) ≠ (0 : Int))
                  (T.ask (U.quo IntKind.i64 t (lk euG s t) ≠ (0 : Int))
                    (T.ask (U.quo IntKind.i64 t (lk euG s t) ≠ (0 : Int))
                      (T.ask (I64 (C - (1 : Int)) ∧ I64 (s * (C - (1 : Int))) ∧ I64 (A + s * (C - (1 : Int))))
                        (T.ask (I64 (D - (1 : Int)) ∧ I64 (t * (D - (1 : Int))) ∧ I64 (B + t * (D - (1 : Int))))
                          (T.ask (U.mul IntKind.i64 s (U.quo IntKind.i64 t (lk euG s t)) ≠ (0 : Int))
                            (T.br
                              (U.lt
                                (U.add IntKind.i64 A
                                  (U.mul IntKind.i64 s
                                    (U.rem
                                      (U.mul IntKind.i64
                                        (U.rem (U.quo IntKind.i64 (U.sub IntKind.i64 B A) (lk euG s t))
                                          (U.quo IntKind.i64 t (lk euG s t)))
                                        (U.rem (lk euX s t) (U.quo IntKind.i64 t (lk euG s t))))
                                      (U.quo IntKind.i64 t (lk euG s t)))))
                                (U.mm true A B))
                              (T.br
                                (U.gt
                                  (U.rem
                                    (U.sub IntKind.i64 (U.mm true A B)
                                      (U.add IntKind.i64 A
                                        (U.mul IntKind.i64 s
                                          (U.rem
                                            (U.mul IntKind.i64
                                              (U.rem (U.quo IntKind.i64 (U.sub IntKind.i64 B A) (lk euG s t))
                                                (U.quo IntKind.i64 t (lk euG s t)))
                                              (U.rem (lk euX s t) (U.quo IntKind.i64 t (lk euG s t))))
                                            (U.quo IntKind.i64 t (lk euG s t))))))
                                    (U.mul IntKind.i64 s (U.quo IntKind.i64 t (lk euG s t))))
                                  (0 : Int))
                                (T.br
                                  (U.gt
                                    (U.add IntKind.i64 (U.mm true A B)
                                      (U.sub IntKind.i64 (U.mul IntKind.i64 s (U.quo IntKind.i64 t (lk euG s t)))
                                        (U.rem
                                          (U.sub IntKind.i64 (U.mm true A B)
                                            (U.add IntKind.i64 A
                                              (U.mul IntKind.i64 s
                                                (U.rem
                                                  (U.mul IntKind.i64
                                                    (U.rem (U.quo IntKind.i64 (U.sub IntKind.i64 B A) (lk euG s t))
                                                      (U.quo IntKind.i64 t (lk euG s t)))
                                                    (U.rem (lk euX s t) (U.quo IntKind.i64 t (lk euG s t))))
                                                  (U.quo IntKind.i64 t (lk euG s t))))))
                                          (U.mul IntKind.i64 s (U.quo IntKind.i64 t (lk euG s t))))))
                                    (U.mm false (lk sLast A s C) (lk sLast B t D)))
                                  (T.ret
                                    (SV.agg
                                      [SV.lit (Value.int IntKind.i64 (0 : Int)),
                                        SV.lit (Value.int IntKind.i64 (0 : Int)),
                                        SV.lit (Value.int IntKind.i64 (0 : Int))]))
                                  (T.ask (U.mul IntKind.i64 s (U.quo IntKind.i64 t (lk euG s t)) ≠ (0 : Int))
                                    (T.ret
                                      (SV.agg
                                        [SV.lit
                                            (Value.int IntKind.i64
                                              (U.add IntKind.i64 (U.mm true A B)
                                                (U.sub IntKind.i64
                                                  (U.mul IntKind.i64 s (U.quo IntKind.i64 t (lk euG s t)))
                                                  (U.rem
                                                    (U.sub IntKind.i64 (U.mm true A B)
                                                      (U.add IntKind.i64 A
                                                        (U.mul IntKind.i64 s
                                                          (U.rem
                                                            (U.mul IntKind.i64
                                                              (U.rem
                                                                (U.quo IntKind.i64 (U.sub IntKind.i64 B A) (lk euG s t))
                                                                (U.quo IntKind.i64 t (lk euG s t)))
                                                              (U.rem (lk euX s t) (U.quo IntKind.i64 t (lk euG s t))))
                                                            (U.quo IntKind.i64 t (lk euG s t))))))
                                                    (U.mul IntKind.i64 s (U.quo IntKind.i64 t (lk euG s t))))))),
                                          SV.lit
                                            (Value.int IntKind.i64
                                              (U.mul IntKind.i64 s (U.quo IntKind.i64 t (lk euG s t)))),
                                          SV.lit
                                            (Value.int IntKind.i64
                                              (U.add IntKind.i64
                                                (U.quo IntKind.i64
                                                  (U.sub IntKind.i64 (U.mm false (lk sLast A s C) (lk sLast B t D))
                                                    (U.add IntKind.i64 (U.mm true A B)
                                                      (U.sub IntKind.i64
                                                        (U.mul IntKind.i64 s (U.quo IntKind.i64 t (lk euG s t)))
                                                        (U.rem
                                                          (U.sub IntKind.i64 (U.mm true A B)
                                                            (U.add IntKind.i64 A
                                                              (U.mul IntKind.i64 s
                                                                (U.rem
                                                                  (U.mul IntKind.i64
                                                                    (U.rem
                                                                      (U.quo IntKind.i64 (U.sub IntKind.i64 B A)
                                                                        (lk euG s t))
                                                                      (U.quo IntKind.i64 t (lk euG s t)))
                                                                    (U.rem (lk euX s t)
                                                                      (U.quo IntKind.i64 t (lk euG s t))))
                                                                  (U.quo IntKind.i64 t (lk euG s t))))))
                                                          (U.mul IntKind.i64 s (U.quo IntKind.i64 t (lk euG s t)))))))
                                                  (U.mul IntKind.i64 s (U.quo IntKind.i64 t (lk euG s t))))
                                                (1 : Int)))]))))
                                (T.br (U.gt (U.mm true A B) (U.mm false (lk sLast A s C) (lk sLast B t D)))
                                  (T.ret
                                    (SV.agg
                                      [SV.lit (Value.int IntKind.i64 (0 : Int)),
                                        SV.lit (Value.int IntKind.i64 (0 : Int)),
                                        SV.lit (Value.int IntKind.i64 (0 : Int))]))
                                  (T.ask (U.mul IntKind.i64 s (U.quo IntKind.i64 t (lk euG s t)) ≠ (0 : Int))
                                    (T.ret
                                      (SV.agg
                                        [SV.lit (Value.int IntKind.i64 (U.mm true A B)),
                                          SV.lit
                                            (Value.int IntKind.i64
                                              (U.mul IntKind.i64 s (U.quo IntKind.i64 t (lk euG s t)))),
                                          SV.lit
                                            (Value.int IntKind.i64
                                              (U.add IntKind.i64
                                                (U.quo IntKind.i64
                                                  (U.sub IntKind.i64 (U.mm false (lk sLast A s C) (lk sLast B t D))
                                                    (U.mm true A B))
                                                  (U.mul IntKind.i64 s (U.quo IntKind.i64 t (lk euG s t))))
                                                (1 : Int)))])))))
                              (T.ask (U.mul IntKind.i64 s (U.quo IntKind.i64 t (lk euG s t)) ≠ (0 : Int))
                                (T.br
                                  (U.gt
                                    (U.sub IntKind.i64
                                      (U.add IntKind.i64 A
                                        (U.mul IntKind.i64 s
                                          (U.rem
                                            (U.mul IntKind.i64
                                              (U.rem (U.quo IntKind.i64 (U.sub IntKind.i64 B A) (lk euG s t))
                                                (U.quo IntKind.i64 t (lk euG s t)))
                                              (U.rem (lk euX s t) (U.quo IntKind.i64 t (lk euG s t))))
                                            (U.quo IntKind.i64 t (lk euG s t)))))
                                      (U.mul IntKind.i64
                                        (U.quo IntKind.i64
                                          (U.sub IntKind.i64
                                            (U.add IntKind.i64 A
                                              (U.mul IntKind.i64 s
                                                (U.rem
                                                  (U.mul IntKind.i64
                                                    (U.rem (U.quo IntKind.i64 (U.sub IntKind.i64 B A) (lk euG s t))
                                                      (U.quo IntKind.i64 t (lk euG s t)))
                                                    (U.rem (lk euX s t) (U.quo IntKind.i64 t (lk euG s t))))
                                                  (U.quo IntKind.i64 t (lk euG s t)))))
                                            (U.mm true A B))
                                          (U.mul IntKind.i64 s (U.quo IntKind.i64 t (lk euG s t))))
                                        (U.mul IntKind.i64 s (U.quo IntKind.i64 t (lk euG s t)))))
                                    (U.mm false (lk sLast A s C) (lk sLast B t D)))
                                  (T.ret
                                    (SV.agg
                                      [SV.lit (Value.int IntKind.i64 (0 : Int)),
                                        SV.lit (Value.int IntKind.i64 (0 : Int)),
                                        SV.lit (Value.int IntKind.i64 (0 : Int))]))
                                  (T.ask (U.mul IntKind.i64 s (U.quo IntKind.i64 t (lk euG s t)) ≠ (0 : Int))
                                    (T.ret
                                      (SV.agg
                                        [SV.lit
                                            (Value.int IntKind.i64
                                              (U.sub IntKind.i64
                                                (U.add IntKind.i64 A
                                                  (U.mul IntKind.i64 s
                                                    (U.rem
                                                      (U.mul IntKind.i64
                                                        (U.rem (U.quo IntKind.i64 (U.sub IntKind.i64 B A) (lk euG s t))
                                                          (U.quo IntKind.i64 t (lk euG s t)))
                                                        (U.rem (lk euX s t) (U.quo IntKind.i64 t (lk euG s t))))
                                                      (U.quo IntKind.i64 t (lk euG s t)))))
                                                (U.mul IntKind.i64
                                                  (U.quo IntKind.i64
                                                    (U.sub IntKind.i64
                                                      (U.add IntKind.i64 A
                                                        (U.mul IntKind.i64 s
                                                          (U.rem
                                                            (U.mul IntKind.i64
                                                              (U.rem
                                                                (U.quo IntKind.i64 (U.sub IntKind.i64 B A) (lk euG s t))
                                                                (U.quo IntKind.i64 t (lk euG s t)))
                                                              (U.rem (lk euX s t) (U.quo IntKind.i64 t (lk euG s t))))
                                                            (U.quo IntKind.i64 t (lk euG s t)))))
                                                      (U.mm true A B))
                                                    (U.mul IntKind.i64 s (U.quo IntKind.i64 t (lk euG s t))))
                                                  (U.mul IntKind.i64 s (U.quo IntKind.i64 t (lk euG s t)))))),
                                          SV.lit
                                            (Value.int IntKind.i64
                                              (U.mul IntKind.i64 s (U.quo IntKind.i64 t (lk euG s t)))),
                                          SV.lit
                                            (Value.int IntKind.i64
                                              (U.add IntKind.i64
                                                (U.quo IntKind.i64
                                                  (U.sub IntKind.i64 (U.mm false (lk sLast A s C) (lk sLast B t D))
                                                    (U.sub IntKind.i64
                                                      (U.add IntKind.i64 A
                                                        (U.mul IntKind.i64 s
                                                          (U.rem
                                                            (U.mul IntKind.i64
                                                              (U.rem
                                                                (U.quo IntKind.i64 (U.sub IntKind.i64 B A) (lk euG s t))
                                                                (U.quo IntKind.i64 t (lk euG s t)))
                                                              (U.rem (lk euX s t) (U.quo IntKind.i64 t (lk euG s t))))
                                                            (U.quo IntKind.i64 t (lk euG s t)))))
                                                      (U.mul IntKind.i64
                                                        (U.quo IntKind.i64
                                                          (U.sub IntKind.i64
                                                            (U.add IntKind.i64 A
                                                              (U.mul IntKind.i64 s
                                                                (U.rem
                                                                  (U.mul IntKind.i64
                                                                    (U.rem
                                                                      (U.quo IntKind.i64 (U.sub IntKind.i64 B A)
                                                                        (lk euG s t))
                                                                      (U.quo IntKind.i64 t (lk euG s t)))
                                                                    (U.rem (lk euX s t)
                                                                      (U.quo IntKind.i64 t (lk euG s t))))
                                                                  (U.quo IntKind.i64 t (lk euG s t)))))
                                                            (U.mm true A B))
                                                          (U.mul IntKind.i64 s (U.quo IntKind.i64 t (lk euG s t))))
                                                        (U.mul IntKind.i64 s (U.quo IntKind.i64 t (lk euG s t))))))
                                                  (U.mul IntKind.i64 s (U.quo IntKind.i64 t (lk euG s t))))
                                                (1 : Int)))])))))))))))))))))) := by kernel_rfl
set_option maxHeartbeats 1000000 in
theorem common_ok : ConOK P 117 c_common := con_of (allOK mixed kc_ok) 10 117 fun args r h => by
  unfold c_common at h
  split at h
  · rename_i A s C B t D
    have hp := (T.is_ask h).1
    have h := (T.is_ask h).2
    obtain rfl := T.is_ret h
    rw [t_common]
    obtain ⟨hA, hB⟩ := hp
    by_cases hC : C = 0
    · have e : cmE A s C B t D = true := decide_eq_true (.inl hC)
      refine ⟨fun _ => ?_, fun h => absurd hC (by rwa [U.eq_f] at h)⟩
      simp only [lk_eq, cmFst, cmBy, cmCnt, e, if_true]
      exact rfl
    by_cases hD : D = 0
    · have e : cmE A s C B t D = true := decide_eq_true (.inr (.inl hD))
      refine ⟨fun h => absurd (by rwa [U.eq_t] at h) hC, fun _ => ⟨fun _ => ?_, fun h => absurd hD (by rwa [U.eq_f] at h)⟩⟩
      simp only [lk_eq, cmFst, cmBy, cmCnt, e, if_true]
      exact rfl
    obtain ⟨a1, a2, a3, a4, a5, a6⟩ : 1 ≤ C ∧ C ≤ 2000001 ∧ 1 ≤ s ∧ s ≤ 2000000 ∧ -1000000 ≤ A ∧ A + s * (C - 1) ≤ 1000000 := by rcases hA with h | h; exact absurd h hC; exact h
    obtain ⟨b1, b2, b3, b4, b5, b6⟩ : 1 ≤ D ∧ D ≤ 2000001 ∧ 1 ≤ t ∧ t ≤ 2000000 ∧ -1000000 ≤ B ∧ B + t * (D - 1) ≤ 1000000 := by rcases hB with h | h; exact absurd h hD; exact h
    obtain ⟨g1, g2, s', m, u, g3, g4, g5, g6, g7, g8, g9, g10⟩ := eu_facts a3 b3
    have hA1 := mulle (x := 0) (y := C - 1) a3 (by omega)
    have hB1 := mulle (x := 0) (y := D - 1) b3 (by omega)
    rw [Int.mul_zero] at hA1 hB1
    have e1 : U.sub .i64 B A = B - A := U.sub64 (by unfold I64; omega)
    have hQ := tdiv_bnd (x := B - A) (N := 2000000) g1 (by omega)
    have e2 : U.quo .i64 (B - A) (euG s t) = (B - A).tdiv (euG s t) := U.quo64 (by unfold I64; omega)
    have e3 : U.quo .i64 t (euG s t) = m := by rw [← g10]; exact U.quo64 (by show I64 (cmM t (euG s t)); rw [g10]; unfold I64; omega)
    have hQ1 := tmod_bnd (x := (B - A).tdiv (euG s t)) g6
    have hX1 := tmod_bnd (x := euX s t) g6
    have hP := mul_bnd (x := ((B - A).tdiv (euG s t)).tmod m) (y := (euX s t).tmod m) (X := 2000000) (Y := 2000000) (by omega) (by omega)
    have e4 : U.mul .i64 (((B - A).tdiv (euG s t)).tmod m) ((euX s t).tmod m) = ((B - A).tdiv (euG s t)).tmod m * (euX s t).tmod m := U.mul64 (by unfold I64; omega)
    have hK := tmod_bnd (x := ((B - A).tdiv (euG s t)).tmod m * (euX s t).tmod m) g6
    have hKe : cmK A B (euG s t) (cmM t (euG s t)) (euX s t) = (((B - A).tdiv (euG s t)).tmod m * (euX s t).tmod m).tmod m := by rw [g10]; rfl
    have hF0 : cmF0 A s B t = A + s * (((B - A).tdiv (euG s t)).tmod m * (euX s t).tmod m).tmod m := by unfold cmF0; rw [hKe]
    have hY : cmY s t = s * m := by unfold cmY; rw [g10]
    have hSK := mul_bnd (x := s) (y := (((B - A).tdiv (euG s t)).tmod m * (euX s t).tmod m).tmod m) (X := 2000000) (Y := 2000000) (by omega) (by omega)
    have hSM := mul_bnd (x := s) (y := m) (X := 2000000) (Y := 2000000) (by omega) (by omega)
    have hSM1 := mulle (s := s) (x := 1) (y := m) a3 g6
    rw [Int.mul_one] at hSM1
    have e5 : U.mul .i64 s (((((B - A).tdiv (euG s t)).tmod m * (euX s t).tmod m)).tmod m) = s * (((B - A).tdiv (euG s t)).tmod m * (euX s t).tmod m).tmod m := U.mul64 (by unfold I64; omega)
    have e6 : U.add .i64 A (s * (((B - A).tdiv (euG s t)).tmod m * (euX s t).tmod m).tmod m) = cmF0 A s B t := by rw [hF0]; exact U.add64 (by unfold I64; omega)
    have e7 : U.mul .i64 s m = cmY s t := by rw [hY]; exact U.mul64 (by unfold I64; omega)
    have hF0b : -4000001000000 ≤ cmF0 A s B t ∧ cmF0 A s B t ≤ 4000001000000 := by rw [hF0]; omega
    have hYb : 1 ≤ cmY s t ∧ cmY s t ≤ 4000000000000 := by rw [hY]; omega
    obtain ⟨v1, v2, _⟩ := cmUp_spec (f := cmF0 A s B t) (low := max A B) hYb.1
    have hHi : min (sLast A s C) (sLast B t D) = cmHi A s C B t D := rfl
    have hHb : -1000000 ≤ cmHi A s C B t D ∧ cmHi A s C B t D ≤ 1000000 := by unfold cmHi sLast; omega
    obtain ⟨L, hL⟩ : ∃ L, L = max A B := ⟨_, rfl⟩
    have hLb : -1000000 ≤ L ∧ L ≤ 1000000 := by
      have : A ≤ 1000000 := by omega
      omega
    have e8 : U.sub .i64 L (cmF0 A s B t) = L - cmF0 A s B t := U.sub64 (by unfold I64; omega)
    have e9 : U.sub .i64 (cmF0 A s B t) L = cmF0 A s B t - L := U.sub64 (by unfold I64; omega)
    have hqb := tdiv_bnd (x := cmF0 A s B t - L) (g := cmY s t) (N := 8000000000000) hYb.1 (by omega)
    have e10 : U.quo .i64 (cmF0 A s B t - L) (cmY s t) = (cmF0 A s B t - L).tdiv (cmY s t) := U.quo64 (by unfold I64; omega)
    simp only [lk_eq, mm_max, mm_min, U.rem_eq, e1, e2, e3, e4, e5, e6, e7, hHi, ← hL, e8, e9, e10]
    have hV : cmV A s B t = cmUp (cmF0 A s B t) L (cmY s t) := by rw [hL]; rfl
    rw [← hL, ← hV] at v1 v2
    have fin : ∀ v, cmV A s B t = v → (B - A).tmod (euG s t) = 0 → T.All (fun x => x = SV.agg [SV.lit (.int .i64 (cmFst A s C B t D)), SV.lit (.int .i64 (cmBy A s C B t D)), SV.lit (.int .i64 (cmCnt A s C B t D))])
        (T.br (U.gt v (cmHi A s C B t D)) (T.ret (SV.agg [SV.lit (.int .i64 0), SV.lit (.int .i64 0), SV.lit (.int .i64 0)]))
          (T.ask (cmY s t ≠ 0) (T.ret (SV.agg [SV.lit (.int .i64 v), SV.lit (.int .i64 (cmY s t)), SV.lit (.int .i64 (U.add .i64 (U.quo .i64 (U.sub .i64 (cmHi A s C B t D) v) (cmY s t)) 1))])))) := fun v hv hz => by
      by_cases hgt : cmHi A s C B t D < v
      · have e : cmE A s C B t D = true := decide_eq_true (.inr (.inr (.inr (by rw [hv]; exact hgt))))
        refine ⟨fun _ => ?_, fun h => absurd hgt (by rw [U.gt_f] at h; omega)⟩
        simp only [cmFst, cmBy, cmCnt, e, if_true]
        exact rfl
      · have e : cmE A s C B t D = false := decide_eq_false (by
          rintro (h | h | h | h)
          · exact hC h
          · exact hD h
          · exact h hz
          · rw [hv] at h; exact hgt h)
        refine ⟨fun h => absurd (by rw [U.gt_t] at h; omega) hgt, fun _ => ⟨by omega, ?_⟩⟩
        have f1 : U.sub .i64 (cmHi A s C B t D) v = cmHi A s C B t D - v := U.sub64 (by unfold I64; omega)
        have hqv := tdiv_bnd (x := cmHi A s C B t D - v) (g := cmY s t) (N := 8000000000000) hYb.1 (by omega)
        have f2 : U.quo .i64 (cmHi A s C B t D - v) (cmY s t) = (cmHi A s C B t D - v).tdiv (cmY s t) := U.quo64 (by unfold I64; omega)
        have f3 : U.add .i64 ((cmHi A s C B t D - v).tdiv (cmY s t)) 1 = (cmHi A s C B t D - v).tdiv (cmY s t) + 1 := U.add64 (by unfold I64; omega)
        rw [f1, f2, f3]
        simp only [cmFst, cmBy, cmCnt, e, hv]
        exact rfl
    have hAC : I64 (C - 1) ∧ I64 (s * (C - 1)) ∧ I64 (A + s * (C - 1)) := by unfold I64; omega
    have hBD : I64 (D - 1) ∧ I64 (t * (D - 1)) ∧ I64 (B + t * (D - 1)) := by unfold I64; omega
    refine ⟨fun h => absurd (by rwa [U.eq_t] at h) hC, fun _ => ⟨fun h => absurd (by rwa [U.eq_t] at h) hD, fun _ => ⟨by omega, by omega, fun h => ?_, fun h => ⟨by omega, by omega, by omega, by omega, by omega, hAC, hBD, by omega, fun hlt => ⟨fun hd => ?_, fun hd => ?_⟩, fun hge => ⟨by omega, ?_⟩⟩⟩⟩⟩
    · rw [U.ne_t] at h
      have e : cmE A s C B t D = true := decide_eq_true (.inr (.inr (.inl h)))
      simp only [cmFst, cmBy, cmCnt, e, if_true]
      exact rfl
    · rw [U.lt_t] at hlt
      rw [U.gt_t] at hd
      rw [U.ne_f] at h
      have hdb := tmod_bnd (x := L - cmF0 A s B t) hYb.1
      have f1 : U.sub .i64 (cmY s t) ((L - cmF0 A s B t).tmod (cmY s t)) = cmY s t - (L - cmF0 A s B t).tmod (cmY s t) := U.sub64 (by unfold I64; omega)
      have f2 : U.add .i64 L (cmY s t - (L - cmF0 A s B t).tmod (cmY s t)) = L + (cmY s t - (L - cmF0 A s B t).tmod (cmY s t)) := U.add64 (by unfold I64; omega)
      rw [f1, f2]
      exact fin _ (by rw [hV]; unfold cmUp; rw [if_pos hlt, if_pos hd]) h
    · rw [U.lt_t] at hlt
      rw [U.gt_f] at hd
      rw [U.ne_f] at h
      exact fin _ (by rw [hV]; unfold cmUp; rw [if_pos hlt, if_neg (by omega)]) h
    · rw [U.lt_f] at hge
      rw [U.ne_f] at h
      have t1 := Int.tdiv_eq_ediv_of_nonneg (b := cmY s t) (show 0 ≤ cmF0 A s B t - L by omega)
      have t2 := Int.mul_ediv_add_emod (cmF0 A s B t - L) (cmY s t)
      have t3 := Int.emod_nonneg (cmF0 A s B t - L) (show cmY s t ≠ 0 by omega)
      have t4 := Int.emod_lt_of_pos (cmF0 A s B t - L) (show 0 < cmY s t by omega)
      have t5 : (cmF0 A s B t - L).tdiv (cmY s t) * cmY s t = cmY s t * ((cmF0 A s B t - L) / cmY s t) := by rw [t1, Int.mul_comm]
      have f1 : U.mul .i64 ((cmF0 A s B t - L).tdiv (cmY s t)) (cmY s t) = (cmF0 A s B t - L).tdiv (cmY s t) * cmY s t := U.mul64 (by rw [t5]; unfold I64; omega)
      have f2 : U.sub .i64 (cmF0 A s B t) ((cmF0 A s B t - L).tdiv (cmY s t) * cmY s t) = cmF0 A s B t - (cmF0 A s B t - L).tdiv (cmY s t) * cmY s t := U.sub64 (by rw [t5]; unfold I64; omega)
      rw [f1, f2]
      exact fin _ (by rw [hV]; unfold cmUp; rw [if_neg (by omega)]) h
  · exact h.elim
end Go.RX.Span
