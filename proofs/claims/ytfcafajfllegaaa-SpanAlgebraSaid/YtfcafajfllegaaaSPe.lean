/- Ranges: Check, Size, Position, Has, Nth of the program and of the reference. -/
import Derived.Test.YtfcafajfllegaaaSPd
set_option linter.unusedVariables false
set_option linter.unusedSimpArgs false
set_option maxRecDepth 100000
namespace Go.RX.Span
open Go Go.RX

noncomputable abbrev k1 : List (Nat × Con) := [(95, c_within), (115, c_last), (100, c_of), (96, c_normal), (105, c_turned), (97, c_within), (98, c_Empty), (102, c_IsEmpty), (101, c_step), (103, c_mod), (99, c_Normal)] --%K
theorem k1_ok : ∀ p ∈ k1, ConOK P p.1 p.2 := by
  simp only [k1, List.mem_cons, List.not_mem_nil, or_false, forall_eq_or_imp, forall_eq]
  exact ⟨within_ok, last_ok, of_ok, normal_ok, turned_ok, rwithin_ok, Empty_ok, IsEmpty_ok, step_ok, mod_ok, Normal_ok⟩

set_option maxHeartbeats 2000000 in
set_option maxRecDepth 100000 in
theorem t_Check (a b c : Int) : conB Go.Proofs.Try.prog (conOf k1) noLoops 10 25 [.agg [.lit (.int .i64 a), .lit (.int .i64 b), .lit (.int .i64 c)]] =
    T.br (U.eq a b)
    (T.br (U.not (U.andb (U.eq a (1 : Int)) (U.andb (U.eq b (0 : Int)) (U.eq c (1 : Int)))))
      (T.br (U.not (U.eq c (1 : Int)))
        (T.br (U.ge a b) (T.ret (SV.lit (Value.int IntKind.i64 (2 : Int))))
          (T.br (U.eq c (0 : Int)) (T.ret (SV.lit (Value.int IntKind.i64 (2 : Int))))
            (T.br (U.lt c (0 : Int))
              (T.ask (U.sub IntKind.u64 (0 : Int) (U.wrap IntKind.u64 c) ≠ (0 : Int))
                (T.br
                  (U.ne
                    (U.rem (U.wrap IntKind.u64 (U.sub IntKind.i64 b a))
                      (U.sub IntKind.u64 (0 : Int) (U.wrap IntKind.u64 c)))
                    (0 : Int))
                  (T.ret (SV.lit (Value.int IntKind.i64 (2 : Int))))
                  (T.br (U.not (lk lim a)) (T.ret (SV.lit (Value.int IntKind.i64 (4 : Int))))
                    (T.br (U.not (lk lim b)) (T.ret (SV.lit (Value.int IntKind.i64 (4 : Int))))
                      (T.ret (SV.lit (Value.int IntKind.i64 (0 : Int))))))))
              (T.ask (U.wrap IntKind.u64 c ≠ (0 : Int))
                (T.br (U.ne (U.rem (U.wrap IntKind.u64 (U.sub IntKind.i64 b a)) (U.wrap IntKind.u64 c)) (0 : Int))
                  (T.ret (SV.lit (Value.int IntKind.i64 (2 : Int))))
                  (T.br (U.not (lk lim a)) (T.ret (SV.lit (Value.int IntKind.i64 (4 : Int))))
                    (T.br (U.not (lk lim b)) (T.ret (SV.lit (Value.int IntKind.i64 (4 : Int))))
                      (T.ret (SV.lit (Value.int IntKind.i64 (0 : Int)))))))))))
        (T.br (U.not (lk lim a)) (T.ret (SV.lit (Value.int IntKind.i64 (4 : Int))))
          (T.br (U.not (lk lim b)) (T.ret (SV.lit (Value.int IntKind.i64 (4 : Int))))
            (T.ret (SV.lit (Value.int IntKind.i64 (0 : Int)))))))
      (T.br (U.not (lk lim a)) (T.ret (SV.lit (Value.int IntKind.i64 (4 : Int))))
        (T.br (U.not (lk lim b)) (T.ret (SV.lit (Value.int IntKind.i64 (4 : Int))))
          (T.ret (SV.lit (Value.int IntKind.i64 (0 : Int)))))))
    (T.br (U.not (U.andb (U.eq a (1 : Int)) (U.andb (U.eq b (0 : Int)) (U.eq c (1 : Int)))))
      (T.br (U.ge a b) (T.ret (SV.lit (Value.int IntKind.i64 (2 : Int))))
        (T.br (U.eq c (0 : Int)) (T.ret (SV.lit (Value.int IntKind.i64 (2 : Int))))
          (T.br (U.lt c (0 : Int))
            (T.ask (U.sub IntKind.u64 (0 : Int) (U.wrap IntKind.u64 c) ≠ (0 : Int))
              (T.br
                (U.ne
                  (U.rem (U.wrap IntKind.u64 (U.sub IntKind.i64 b a))
                    (U.sub IntKind.u64 (0 : Int) (U.wrap IntKind.u64 c)))
                  (0 : Int))
                (T.ret (SV.lit (Value.int IntKind.i64 (2 : Int))))
                (T.br (U.not (lk lim a)) (T.ret (SV.lit (Value.int IntKind.i64 (4 : Int))))
                  (T.br (U.not (lk lim b)) (T.ret (SV.lit (Value.int IntKind.i64 (4 : Int))))
                    (T.ret (SV.lit (Value.int IntKind.i64 (0 : Int))))))))
            (T.ask (U.wrap IntKind.u64 c ≠ (0 : Int))
              (T.br (U.ne (U.rem (U.wrap IntKind.u64 (U.sub IntKind.i64 b a)) (U.wrap IntKind.u64 c)) (0 : Int))
                (T.ret (SV.lit (Value.int IntKind.i64 (2 : Int))))
                (T.br (U.not (lk lim a)) (T.ret (SV.lit (Value.int IntKind.i64 (4 : Int))))
                  (T.br (U.not (lk lim b)) (T.ret (SV.lit (Value.int IntKind.i64 (4 : Int))))
                    (T.ret (SV.lit (Value.int IntKind.i64 (0 : Int)))))))))))
      (T.br (U.not (lk lim a)) (T.ret (SV.lit (Value.int IntKind.i64 (4 : Int))))
        (T.br (U.not (lk lim b)) (T.ret (SV.lit (Value.int IntKind.i64 (4 : Int))))
          (T.ret (SV.lit (Value.int IntKind.i64 (0 : Int))))))) := by kernel_rfl
set_option maxHeartbeats 2000000 in
theorem Check_ok : ConOK P 25 c_Check := con_of (allOK mixed k1_ok) 10 25 fun args r h => by
  unfold c_Check at h
  split at h
  · rename_i a b c
    have ha := (T.is_ask h).1.1
    have hb := (T.is_ask h).1.2.1
    have hc := (T.is_ask h).1.2.2
    have h := (T.is_ask h).2
    obtain rfl := T.is_ret h
    rw [t_Check]
    have r1 : a < b → c < 0 → _ := fun h => (chk_rem h ha hb hc).1
    have r2 : a < b → 0 ≤ c → _ := fun h => (chk_rem h ha hb hc).2
    have n1 : c < 0 → U.sub .u64 0 (U.wrap .u64 c) = -c := fun h => u64_neg h hc
    have n2 : 0 ≤ c → U.wrap .u64 c = c := fun h => u64_pos h hc
    generalize U.rem (U.wrap .u64 (U.sub .i64 b a)) (U.sub .u64 0 (U.wrap .u64 c)) = x1 at *
    generalize U.rem (U.wrap .u64 (U.sub .i64 b a)) (U.wrap .u64 c) = x2 at *
    generalize U.sub .u64 0 (U.wrap .u64 c) = y1 at *
    generalize U.wrap .u64 c = y2 at *
    simp only [T.All, U.le_t, U.le_f, U.lt_t, U.lt_f, U.gt_t, U.gt_f, U.ge_t, U.ge_f, U.eq_t, U.eq_f, U.ne_t, U.ne_f, U.not_t, U.not_f, U.andb_t, U.andb_f, SV.lit.injEq, SV.agg.injEq, SV.tup.injEq, List.cons.injEq, Value.int.injEq, Value.bool.injEq, true_and, and_true, lk_eq, lim_t, lim_f]
    unfold chk
    generalize (b - a) % c = q at *
    clear ha hb hc h
    repeat' (first | refine And.intro ?_ ?_ | intro _)
    all_goals first
      | omega
      | (split <;> first | omega | (split <;> omega))
  · exact h.elim

set_option maxRecDepth 100000 in
theorem t_rCheck (a b c : Int) : conB Go.Proofs.Try.prog (conOf k1) noLoops 10 26 [.agg [.lit (.int .i64 a), .lit (.int .i64 b), .lit (.int .i64 c)]] =
    T.br (lk isE a b c) (T.ret (SV.lit (Value.int IntKind.i64 (0 : Int))))
    (T.br (U.gt a b) (T.ret (SV.lit (Value.int IntKind.i64 (2 : Int))))
      (T.br (U.eq a b)
        (T.br (U.ne c (1 : Int)) (T.ret (SV.lit (Value.int IntKind.i64 (2 : Int))))
          (T.br (U.lt a b)
            (T.br (U.eq c (0 : Int)) (T.ret (SV.lit (Value.int IntKind.i64 (2 : Int))))
              (T.ask (c ≠ (0 : Int) ∧ I64 b ∧ I64 c)
                (T.ask (c ≠ (0 : Int) ∧ I64 a ∧ I64 c)
                  (T.br (U.ne (lk rmod b c) (lk rmod a c)) (T.ret (SV.lit (Value.int IntKind.i64 (2 : Int))))
                    (T.br (U.not (lk lim a)) (T.ret (SV.lit (Value.int IntKind.i64 (4 : Int))))
                      (T.br (U.not (lk lim b)) (T.ret (SV.lit (Value.int IntKind.i64 (4 : Int))))
                        (T.ret (SV.lit (Value.int IntKind.i64 (0 : Int))))))))))
            (T.br (U.not (lk lim a)) (T.ret (SV.lit (Value.int IntKind.i64 (4 : Int))))
              (T.br (U.not (lk lim b)) (T.ret (SV.lit (Value.int IntKind.i64 (4 : Int))))
                (T.ret (SV.lit (Value.int IntKind.i64 (0 : Int))))))))
        (T.br (U.lt a b)
          (T.br (U.eq c (0 : Int)) (T.ret (SV.lit (Value.int IntKind.i64 (2 : Int))))
            (T.ask (c ≠ (0 : Int) ∧ I64 b ∧ I64 c)
              (T.ask (c ≠ (0 : Int) ∧ I64 a ∧ I64 c)
                (T.br (U.ne (lk rmod b c) (lk rmod a c)) (T.ret (SV.lit (Value.int IntKind.i64 (2 : Int))))
                  (T.br (U.not (lk lim a)) (T.ret (SV.lit (Value.int IntKind.i64 (4 : Int))))
                    (T.br (U.not (lk lim b)) (T.ret (SV.lit (Value.int IntKind.i64 (4 : Int))))
                      (T.ret (SV.lit (Value.int IntKind.i64 (0 : Int))))))))))
          (T.br (U.not (lk lim a)) (T.ret (SV.lit (Value.int IntKind.i64 (4 : Int))))
            (T.br (U.not (lk lim b)) (T.ret (SV.lit (Value.int IntKind.i64 (4 : Int))))
              (T.ret (SV.lit (Value.int IntKind.i64 (0 : Int))))))))) := by kernel_rfl
set_option maxHeartbeats 2000000 in
theorem rCheck_ok : ConOK P 26 c_Check := con_of (allOK mixed k1_ok) 10 26 fun args r h => by
  unfold c_Check at h
  split at h
  · rename_i a b c
    have ha := (T.is_ask h).1.1
    have hb := (T.is_ask h).1.2.1
    have hc := (T.is_ask h).1.2.2
    have h := (T.is_ask h).2
    obtain rfl := T.is_ret h
    rw [t_rCheck]
    simp only [T.All, U.le_t, U.le_f, U.lt_t, U.lt_f, U.gt_t, U.gt_f, U.ge_t, U.ge_f, U.eq_t, U.eq_f, U.ne_t, U.ne_f, U.not_t, U.not_f, U.andb_t, U.andb_f, SV.lit.injEq, SV.agg.injEq, SV.tup.injEq, List.cons.injEq, Value.int.injEq, Value.bool.injEq, true_and, and_true, lk_eq, lim_t, lim_f, isE, decide_eq_true_eq, decide_eq_false_iff_not]
    have hq : (b - a) % c = 0 ↔ rmod b c = rmod a c := emod_sub_zero
    unfold chk
    generalize (b - a) % c = q at *
    generalize rmod b c = q1 at *
    generalize rmod a c = q2 at *
    clear h
    unfold I64 at *
    repeat' (first | refine And.intro ?_ ?_ | intro _)
    all_goals first
      | assumption
      | omega
      | (split <;> first | omega | (split <;> omega))
  · exact h.elim

theorem right_c {a b c : Int} (h : Right a b c) : c ≠ 0 ∧ -2000000 ≤ c ∧ c ≤ 2000000 := by
  obtain ⟨hl, h | h | h⟩ := h
  · omega
  · omega
  · have hd := Int.dvd_of_emod_eq_zero h.2.2
    have h1 := Int.le_of_dvd (by omega) hd
    have h2 := Int.le_of_dvd (by omega) ((Int.neg_dvd).2 hd)
    omega

theorem right_of {a b c : Int} (h : Right a b c) (hne : a ≤ b) : 0 < ofC a b c := by
  have hc := right_c h
  unfold ofC
  rw [if_neg (by omega)]
  split
  · have := (div_le_self' (a := b - a) (b := -c) (by omega) (by omega)).1; omega
  · have := (div_le_self' (a := b - a) (b := c) (by omega) (by omega)).1; omega

noncomputable abbrev k2 : List (Nat × Con) := (25, c_Check) :: (26, c_Check) :: k1 --%K
theorem k2_ok : ∀ p ∈ k2, ConOK P p.1 p.2 := by
  intro p hp
  simp only [k2, List.mem_cons] at hp
  rcases hp with rfl | rfl | hp
  · exact Check_ok
  · exact rCheck_ok
  · exact k1_ok p (by simpa [k1] using hp)

set_option maxRecDepth 100000 in
theorem t_Size (a b c : Int) : conB Go.Proofs.Try.prog (conOf k2) noLoops 10 27 [.agg [.lit (.int .i64 a), .lit (.int .i64 b), .lit (.int .i64 c)]] =
    T.ask (I64 a ∧ I64 b ∧ I64 c)
    (T.br (U.ne (lk chk a b c) (0 : Int)) (T.ret (SV.lit (Value.int IntKind.i64 (0 : Int))))
      (T.ask
        (a ≤ b →
          c ≠ (0 : Int) ∧
            (-9223372036854775807 : Int) ≤ c ∧ b - a < (9223372036854775807 : Int) ∧ I64 a ∧ I64 b ∧ I64 c)
        (T.ret (SV.lit (Value.int IntKind.i64 (lk ofC a b c)))))) := by kernel_rfl
theorem Size_ok : ConOK P 27 c_Size := con_of (allOK mixed k2_ok) 10 27 fun args r h => by
  unfold c_Size at h
  split at h
  · rename_i a b c
    have hp := (T.is_ask h).1
    have h := (T.is_ask h).2
    obtain rfl := T.is_ret h
    rw [t_Size]
    simp only [T.All, U.le_t, U.le_f, U.lt_t, U.lt_f, U.gt_t, U.gt_f, U.ge_t, U.ge_f, U.eq_t, U.eq_f, U.ne_t, U.ne_f, U.not_t, U.not_f, U.andb_t, U.andb_f, SV.lit.injEq, SV.agg.injEq, SV.tup.injEq, List.cons.injEq, Value.int.injEq, Value.bool.injEq, true_and, and_true, lk_eq]
    unfold size
    refine ⟨hp, fun h => by rw [if_neg h], fun h => ⟨fun hab => ?_, by rw [if_pos h]⟩⟩
    have hr := chk_zero.1 h
    have hc := right_c hr
    have hl := hr.1
    exact ⟨hc.1, by omega, by omega, hp⟩
  · exact h.elim

set_option maxRecDepth 100000 in
theorem t_rSize (a b c : Int) : conB Go.Proofs.Try.prog (conOf k2) noLoops 10 28 [.agg [.lit (.int .i64 a), .lit (.int .i64 b), .lit (.int .i64 c)]] =
    T.ask (I64 a ∧ I64 b ∧ I64 c)
    (T.br (U.ne (lk chk a b c) (0 : Int)) (T.ret (SV.lit (Value.int IntKind.i64 (0 : Int))))
      (T.br (lk isE a b c) (T.ret (SV.lit (Value.int IntKind.i64 (0 : Int))))
        (T.ask (I64 (-c))
          (T.ask (lk absI c ≠ (0 : Int))
            (T.ret
              (SV.lit
                (Value.int IntKind.i64
                  (U.add IntKind.i64 (U.quo IntKind.i64 (U.sub IntKind.i64 b a) (lk absI c)) (1 : Int))))))))) := by kernel_rfl
theorem rSize_ok : ConOK P 28 c_Size := con_of (allOK mixed k2_ok) 10 28 fun args r h => by
  unfold c_Size at h
  split at h
  · rename_i a b c
    have hp := (T.is_ask h).1
    have h := (T.is_ask h).2
    obtain rfl := T.is_ret h
    rw [t_rSize]
    simp only [T.All, U.le_t, U.le_f, U.lt_t, U.lt_f, U.gt_t, U.gt_f, U.ge_t, U.ge_f, U.eq_t, U.eq_f, U.ne_t, U.ne_f, U.not_t, U.not_f, U.andb_t, U.andb_f, SV.lit.injEq, SV.agg.injEq, SV.tup.injEq, List.cons.injEq, Value.int.injEq, Value.bool.injEq, true_and, and_true, lk_eq, isE, decide_eq_true_eq, decide_eq_false_iff_not]
    unfold size
    refine ⟨hp, fun h => by rw [if_neg h], fun h => ⟨fun he => ?_, fun he => ?_⟩⟩
    · rw [if_pos h]; obtain ⟨rfl, rfl, rfl⟩ := he; rfl
    · have hr := chk_zero.1 h
      have hc := right_c hr
      have hl := hr.1
      have hab : a ≤ b := by have := hr.2; omega
      have ea : absI c ≠ 0 ∧ 0 < absI c ∧ absI c ≤ 2000000 := by unfold absI; split <;> omega
      have hd := div_le_self' (a := b - a) (b := absI c) (by omega) (by omega)
      refine ⟨by unfold I64; omega, ea.1, ?_⟩
      rw [if_pos h, U.sub64 (by unfold I64; omega), U.quo64 (by rw [tdiv_pos (by omega)]; unfold I64; omega), tdiv_pos (by omega), U.add64 (by unfold I64; omega)]
      have n1 : ¬ a > b := by omega
      simp only [ofC, if_neg n1, absI]
      split <;> rfl
  · exact h.elim
end Go.RX.Span
