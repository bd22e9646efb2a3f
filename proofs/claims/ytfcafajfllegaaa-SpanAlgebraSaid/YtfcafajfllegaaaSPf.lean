/- Ranges: Position, Has, Nth, Of of the program and of the reference. -/
import Derived.Test.YtfcafajfllegaaaSPe
set_option linter.unusedVariables false
set_option linter.unusedSimpArgs false
set_option maxRecDepth 100000
namespace Go.RX.Span
open Go Go.RX

noncomputable abbrev k3 : List (Nat × Con) := (27, c_Size) :: (28, c_Size) :: k2 --%K
theorem k3_ok : ∀ p ∈ k3, ConOK P p.1 p.2 := by
  intro p hp
  simp only [k3, List.mem_cons] at hp
  rcases hp with rfl | rfl | hp
  · exact Size_ok
  · exact rSize_ok
  · exact k2_ok p (by simpa [k2] using hp)

theorem right_dvd {a b c : Int} (h : Right a b c) (hab : a ≤ b) : c ∣ b - a := by
  obtain ⟨hl, h | h | h⟩ := h
  · omega
  · rw [h.2]; exact Int.one_dvd _
  · exact Int.dvd_of_emod_eq_zero h.2.2

theorem in_iff {a b c n : Int} (h : Right a b c) (hab : a ≤ b) : c ∣ n - b ↔ (n - a) % c = 0 := by
  have hd := right_dvd h hab
  have e : n - a = (n - b) + (b - a) := by omega
  constructor
  · intro h1; rw [e]; exact Int.emod_eq_zero_of_dvd (Int.dvd_add h1 hd)
  · intro h1
    have h2 := Int.dvd_of_emod_eq_zero h1
    rw [e] at h2
    exact (Int.dvd_add_left hd).1 h2

theorem tmod_zero {x c : Int} : x.tmod c = 0 ↔ c ∣ x := ⟨Int.dvd_of_tmod_eq_zero, fun h => Int.tmod_eq_zero_of_dvd h⟩

theorem pos_down {b c n : Int} (h : n ≤ b) (hc : c < 0) : (n - b).tdiv c = (b - n) / (-c) := by
  have e1 : n - b = -(b - n) := by omega
  have e2 : c = -(-c) := by omega
  conv => lhs; rw [e1, e2]
  rw [Int.neg_tdiv, Int.tdiv_neg, Int.neg_neg, tdiv_pos (by omega)]

set_option maxRecDepth 100000 in
theorem t_Position (a b c n : Int) : conB Go.Proofs.Try.prog (conOf k3) noLoops 10 23 [.agg [.lit (.int .i64 a), .lit (.int .i64 b), .lit (.int .i64 c)], .lit (.int .i64 n)] =
    T.ask (I64 a ∧ I64 b ∧ I64 c)
    (T.br (U.ne (lk chk a b c) (0 : Int))
      (T.ret (SV.tup [SV.lit (Value.int IntKind.i64 (0 : Int)), SV.lit (Value.bool false)]))
      (T.br (U.lt n a) (T.ret (SV.tup [SV.lit (Value.int IntKind.i64 (0 : Int)), SV.lit (Value.bool false)]))
        (T.br (U.gt n b) (T.ret (SV.tup [SV.lit (Value.int IntKind.i64 (0 : Int)), SV.lit (Value.bool false)]))
          (T.ask
            (a ≤ b →
              c ≠ (0 : Int) ∧
                (-9223372036854775807 : Int) ≤ c ∧ b - a < (9223372036854775807 : Int) ∧ I64 a ∧ I64 b ∧ I64 c)
            (T.ask (lk ofB a b c ≠ (0 : Int))
              (T.br (U.ne (U.rem (U.sub IntKind.i64 n (lk ofF a b c)) (lk ofB a b c)) (0 : Int))
                (T.ret (SV.tup [SV.lit (Value.int IntKind.i64 (0 : Int)), SV.lit (Value.bool false)]))
                (T.ask (lk ofB a b c ≠ (0 : Int))
                  (T.ret
                    (SV.tup
                      [SV.lit
                          (Value.int IntKind.i64
                            (U.quo IntKind.i64 (U.sub IntKind.i64 n (lk ofF a b c)) (lk ofB a b c))),
                        SV.lit (Value.bool true)]))))))))) := by kernel_rfl
theorem Position_ok : ConOK P 23 c_Position := con_of (allOK mixed k3_ok) 10 23 fun args r h => by
  unfold c_Position at h
  split at h
  · rename_i a b c n
    have hp := (T.is_ask h).1
    have h := (T.is_ask h).2
    obtain rfl := T.is_ret h
    rw [t_Position]
    simp only [T.All, U.le_t, U.le_f, U.lt_t, U.lt_f, U.gt_t, U.gt_f, U.ge_t, U.ge_f, U.eq_t, U.eq_f, U.ne_t, U.ne_f, U.not_t, U.not_f, U.andb_t, U.andb_f, SV.lit.injEq, SV.agg.injEq, SV.tup.injEq, List.cons.injEq, Value.int.injEq, Value.bool.injEq, true_and, and_true, lk_eq]
    refine ⟨hp, fun h => ?_, fun h => ⟨fun h1 => ?_, fun h1 => ⟨fun h2 => ?_, fun h2 => ?_⟩⟩⟩
    · have e : has a b c n = false := by simp [has, h]
      simp [pos, e]
    · have e : has a b c n = false := by simp [has]; omega
      simp [pos, e]
    · have e : has a b c n = false := by simp [has]; omega
      simp [pos, e]
    · have hr := chk_zero.1 h
      have hc := right_c hr
      have hl := hr.1
      have hab : a ≤ b := by omega
      have n1 : ¬ a > b := by omega
      refine ⟨fun _ => ⟨hc.1, by omega, by omega, hp⟩, by simp [ofB, n1]; exact hc.1, fun h3 => ?_, fun h3 => ⟨by simp [ofB, n1]; exact hc.1, ?_⟩⟩
      · have e : has a b c n = false := by
          simp only [ofF, ofB, if_neg n1] at h3
          rw [U.sub64 (by unfold I64; split <;> omega), U.rem_eq, Ne, tmod_zero] at h3
          simp only [has, decide_eq_false_iff_not]
          rintro ⟨_, _, _, g⟩
          split at h3
          · exact h3 ((in_iff hr hab).2 g)
          · exact h3 (Int.dvd_of_emod_eq_zero g)
        simp [pos, e]
      · simp only [ofF, ofB, if_neg n1] at h3 ⊢
        rw [U.sub64 (by unfold I64; split <;> omega), U.rem_eq, tmod_zero] at h3
        rw [U.sub64 (by unfold I64; split <;> omega)]
        have e : has a b c n = true := by
          simp only [has, decide_eq_true_eq]
          refine ⟨h, h1, h2, ?_⟩
          split at h3
          · exact (in_iff hr hab).1 h3
          · exact Int.emod_eq_zero_of_dvd h3
        by_cases hneg : c < 0
        · simp only [pos, e, if_pos hneg, if_true]
          have hd := div_le_self' (a := b - n) (b := -c) (by omega) (by omega)
          rw [U.quo64 (by rw [pos_down h2 hneg]; unfold I64; omega), pos_down h2 hneg]
          simp
        · simp only [pos, e, if_neg hneg, if_true]
          have hd := div_le_self' (a := n - a) (b := c) (by omega) (by omega)
          rw [U.quo64 (by rw [tdiv_pos (by omega)]; unfold I64; omega), tdiv_pos (by omega)]
          simp
  · exact h.elim

theorem size_pos {a b c : Int} : size a b c > 0 ↔ chk a b c = 0 ∧ a ≤ b := by
  unfold size
  split
  · rename_i h
    refine ⟨fun h1 => ⟨h, ?_⟩, fun h1 => right_of (chk_zero.1 h) h1.2⟩
    unfold ofC at h1
    split at h1 <;> omega
  · rename_i h; exact ⟨fun h1 => by omega, fun h1 => absurd h1.1 h⟩

set_option maxRecDepth 100000 in
theorem t_rHas (a b c n : Int) : conB Go.Proofs.Try.prog (conOf k3) noLoops 10 30 [.agg [.lit (.int .i64 a), .lit (.int .i64 b), .lit (.int .i64 c)], .lit (.int .i64 n)] =
    T.ask (I64 a ∧ I64 b ∧ I64 c)
    (T.br (U.gt (lk size a b c) (0 : Int))
      (T.br (U.ge n a)
        (T.br (U.le n b)
          (T.ask (I64 (-c))
            (T.ask (lk absI c ≠ (0 : Int))
              (T.ret (SV.lit (Value.bool (U.eq (U.rem (U.sub IntKind.i64 n a) (lk absI c)) (0 : Int)))))))
          (T.ret (SV.lit (Value.bool false))))
        (T.ret (SV.lit (Value.bool false))))
      (T.ret (SV.lit (Value.bool false)))) := by kernel_rfl
theorem rHas_ok : ConOK P 30 c_Has := con_of (allOK mixed k3_ok) 10 30 fun args r h => by
  unfold c_Has at h
  split at h
  · rename_i a b c n
    have hp := (T.is_ask h).1
    have h := (T.is_ask h).2
    obtain rfl := T.is_ret h
    rw [t_rHas]
    simp only [T.All, U.le_t, U.le_f, U.lt_t, U.lt_f, U.gt_t, U.gt_f, U.ge_t, U.ge_f, U.eq_t, U.eq_f, U.ne_t, U.ne_f, U.not_t, U.not_f, U.andb_t, U.andb_f, SV.lit.injEq, SV.agg.injEq, SV.tup.injEq, List.cons.injEq, Value.int.injEq, Value.bool.injEq, true_and, and_true, lk_eq]
    refine ⟨hp, fun h => ?_, fun h => ?_⟩
    · obtain ⟨h0, hab⟩ := size_pos.1 h
      have hr := chk_zero.1 h0
      have hc := right_c hr
      have hl := hr.1
      refine ⟨fun h1 => ⟨fun h2 => ⟨by unfold I64; omega, by unfold absI; split <;> omega, ?_⟩, fun h2 => ?_⟩, fun h1 => ?_⟩
      · have ea : absI c ≠ 0 := by unfold absI; split <;> omega
        have edvd : absI c ∣ n - a ↔ c ∣ n - a := by
          unfold absI; split
          · exact Int.neg_dvd
          · rfl
        rw [U.sub64 (by unfold I64; omega), U.rem_eq, U.eq_eq, Bool.eq_iff_iff]
        simp only [has, decide_eq_true_eq, beq_iff_eq]
        rw [tmod_zero, edvd]
        exact ⟨fun g => ⟨h0, h1, h2, Int.emod_eq_zero_of_dvd g⟩, fun g => Int.dvd_of_emod_eq_zero g.2.2.2⟩
      · simp [has]; omega
      · simp [has]; omega
    · have e : ¬ (chk a b c = 0 ∧ a ≤ b) := fun g => by have := size_pos.2 g; omega
      simp only [has]
      refine (decide_eq_false ?_).symm
      rintro ⟨g1, g2, g3, _⟩
      exact e ⟨g1, by omega⟩
  · exact h.elim

noncomputable abbrev k4 : List (Nat × Con) := (23, c_Position) :: (30, c_Has) :: k3 --%K
theorem k4_ok : ∀ p ∈ k4, ConOK P p.1 p.2 := by
  intro p hp
  simp only [k4, List.mem_cons] at hp
  rcases hp with rfl | rfl | hp
  · exact Position_ok
  · exact rHas_ok
  · exact k3_ok p (by simpa [k3] using hp)

set_option maxRecDepth 100000 in
theorem t_Has (a b c n : Int) : conB Go.Proofs.Try.prog (conOf k4) noLoops 10 29 [.agg [.lit (.int .i64 a), .lit (.int .i64 b), .lit (.int .i64 c)], .lit (.int .i64 n)] =
    T.ask (I64 a ∧ I64 b ∧ I64 c) (T.ret (SV.lit (Value.bool (lk has a b c n)))) := by kernel_rfl
theorem Has_ok : ConOK P 29 c_Has := con_of (allOK mixed k4_ok) 10 29 fun args r h => by
  unfold c_Has at h
  split at h
  · rename_i a b c n
    have hp := (T.is_ask h).1
    have h := (T.is_ask h).2
    obtain rfl := T.is_ret h
    rw [t_Has]
    simp only [T.All, U.le_t, U.le_f, U.lt_t, U.lt_f, U.gt_t, U.gt_f, U.ge_t, U.ge_f, U.eq_t, U.eq_f, U.ne_t, U.ne_f, U.not_t, U.not_f, U.andb_t, U.andb_f, SV.lit.injEq, SV.agg.injEq, SV.tup.injEq, List.cons.injEq, Value.int.injEq, Value.bool.injEq, true_and, and_true, lk_eq]
    exact hp
  · exact h.elim

set_option maxRecDepth 100000 in
theorem t_rPosition (a b c n : Int) : conB Go.Proofs.Try.prog (conOf k4) noLoops 10 24 [.agg [.lit (.int .i64 a), .lit (.int .i64 b), .lit (.int .i64 c)], .lit (.int .i64 n)] =
    T.ask (I64 a ∧ I64 b ∧ I64 c)
    (T.br (U.not (lk has a b c n))
      (T.ret (SV.tup [SV.lit (Value.int IntKind.i64 (0 : Int)), SV.lit (Value.bool false)]))
      (T.br (U.lt c (0 : Int))
        (T.ask (I64 (-c))
          (T.ask (lk absI c ≠ (0 : Int))
            (T.ret
              (SV.tup
                [SV.lit (Value.int IntKind.i64 (U.quo IntKind.i64 (U.sub IntKind.i64 b n) (lk absI c))),
                  SV.lit (Value.bool true)]))))
        (T.ask (I64 (-c))
          (T.ask (lk absI c ≠ (0 : Int))
            (T.ret
              (SV.tup
                [SV.lit (Value.int IntKind.i64 (U.quo IntKind.i64 (U.sub IntKind.i64 n a) (lk absI c))),
                  SV.lit (Value.bool true)])))))) := by kernel_rfl
theorem rPosition_ok : ConOK P 24 c_Position := con_of (allOK mixed k4_ok) 10 24 fun args r h => by
  unfold c_Position at h
  split at h
  · rename_i a b c n
    have hp := (T.is_ask h).1
    have h := (T.is_ask h).2
    obtain rfl := T.is_ret h
    rw [t_rPosition]
    simp only [T.All, U.le_t, U.le_f, U.lt_t, U.lt_f, U.gt_t, U.gt_f, U.ge_t, U.ge_f, U.eq_t, U.eq_f, U.ne_t, U.ne_f, U.not_t, U.not_f, U.andb_t, U.andb_f, SV.lit.injEq, SV.agg.injEq, SV.tup.injEq, List.cons.injEq, Value.int.injEq, Value.bool.injEq, true_and, and_true, lk_eq]
    refine ⟨hp, fun h => ?_, fun h => ?_⟩
    · simp [pos, h]
    · have g := h
      simp only [has, decide_eq_true_eq] at g
      obtain ⟨h0, h1, h2, h3⟩ := g
      have hr := chk_zero.1 h0
      have hc := right_c hr
      have hl := hr.1
      have i64c : I64 (-c) := by unfold I64; omega
      refine ⟨fun hneg => ⟨i64c, ?_⟩, fun hneg => ⟨i64c, ?_⟩⟩
      · have ea : absI c = -c := by simp [absI, hneg]
        rw [ea]
        have hd := div_le_self' (a := b - n) (b := -c) (by omega) (by omega)
        rw [U.sub64 (by unfold I64; omega), U.quo64 (by rw [tdiv_pos (by omega)]; unfold I64; omega), tdiv_pos (by omega)]
        simp only [pos, h, if_true, if_pos hneg]
        exact ⟨by omega, by simp⟩
      · have n2 : ¬ c < 0 := by omega
        have ea : absI c = c := by simp [absI, n2]
        rw [ea]
        have hd := div_le_self' (a := n - a) (b := c) (by omega) (by omega)
        rw [U.sub64 (by unfold I64; omega), U.quo64 (by rw [tdiv_pos (by omega)]; unfold I64; omega), tdiv_pos (by omega)]
        simp only [pos, h, if_true, if_neg n2]
        exact ⟨by omega, by simp⟩
  · exact h.elim

theorem nth_in {a b c k : Int} (hr : Right a b c) (hab : a ≤ b) (h0 : 0 ≤ k) (h1 : k < ofC a b c) :
    a ≤ ofF a b c + ofB a b c * k ∧ ofF a b c + ofB a b c * k ≤ b := by
  have hc := right_c hr
  have n1 : ¬ a > b := by omega
  unfold ofC at h1
  simp only [ofF, ofB, if_neg n1] at h1 ⊢
  by_cases hneg : c < 0
  · simp only [if_pos hneg] at h1 ⊢
    have := Int.mul_ediv_self_le (x := b - a) (k := -c) (by omega)
    have h2 : -c * k ≤ -c * ((b - a) / -c) := Int.mul_le_mul_of_nonneg_left (by omega) (by omega)
    have h3 : 0 ≤ -c * k := Int.mul_nonneg (by omega) h0
    rw [Int.neg_mul] at h2 h3
    omega
  · simp only [if_neg hneg] at h1 ⊢
    have := Int.mul_ediv_self_le (x := b - a) (k := c) (by omega)
    have h2 : c * k ≤ c * ((b - a) / c) := Int.mul_le_mul_of_nonneg_left (by omega) (by omega)
    have h3 : 0 ≤ c * k := Int.mul_nonneg (by omega) h0
    omega

theorem ofC_pos {a b c k : Int} (h0 : 0 ≤ k) (h1 : k < ofC a b c) : a ≤ b := by
  unfold ofC at h1
  split at h1 <;> omega

set_option maxRecDepth 100000 in
theorem t_Nth (a b c k : Int) : conB Go.Proofs.Try.prog (conOf k4) noLoops 10 21 [.agg [.lit (.int .i64 a), .lit (.int .i64 b), .lit (.int .i64 c)], .lit (.int .i64 k)] =
    T.ask (I64 a ∧ I64 b ∧ I64 c)
    (T.br (U.ne (lk chk a b c) (0 : Int))
      (T.ret (SV.tup [SV.lit (Value.int IntKind.i64 (0 : Int)), SV.lit (Value.int IntKind.i64 (lk chk a b c))]))
      (T.ask
        (a ≤ b →
          c ≠ (0 : Int) ∧
            (-9223372036854775807 : Int) ≤ c ∧ b - a < (9223372036854775807 : Int) ∧ I64 a ∧ I64 b ∧ I64 c)
        (T.br (U.lt k (0 : Int))
          (T.ret (SV.tup [SV.lit (Value.int IntKind.i64 (0 : Int)), SV.lit (Value.int IntKind.i64 (4 : Int))]))
          (T.br (U.ge k (lk ofC a b c))
            (T.ret (SV.tup [SV.lit (Value.int IntKind.i64 (0 : Int)), SV.lit (Value.int IntKind.i64 (4 : Int))]))
            (T.ret
              (SV.tup
                [SV.lit (Value.int IntKind.i64 (U.add IntKind.i64 (lk ofF a b c) (U.mul IntKind.i64 (lk ofB a b c) k))),
                  SV.lit (Value.int IntKind.i64 (0 : Int))])))))) := by kernel_rfl
theorem Nth_ok : ConOK P 21 c_Nth := con_of (allOK mixed k4_ok) 10 21 fun args r h => by
  unfold c_Nth at h
  split at h
  · rename_i a b c k
    have hp := (T.is_ask h).1
    have h := (T.is_ask h).2
    obtain rfl := T.is_ret h
    rw [t_Nth]
    simp only [T.All, U.le_t, U.le_f, U.lt_t, U.lt_f, U.gt_t, U.gt_f, U.ge_t, U.ge_f, U.eq_t, U.eq_f, U.ne_t, U.ne_f, U.not_t, U.not_f, U.andb_t, U.andb_f, SV.lit.injEq, SV.agg.injEq, SV.tup.injEq, List.cons.injEq, Value.int.injEq, Value.bool.injEq, true_and, and_true, lk_eq]
    refine ⟨hp, fun h => ?_, fun h => ⟨fun hab => ?_, fun h1 => ?_, fun h1 => ⟨fun h2 => ?_, fun h2 => ?_⟩⟩⟩
    · simp [nth, nthE, h]
    · have hr := chk_zero.1 h
      have hc := right_c hr
      have hl := hr.1
      exact ⟨hc.1, by omega, by omega, hp⟩
    · simp [nth, nthE, h, h1]
    · simp [nth, nthE, h, h2]
    · have hr := chk_zero.1 h
      have hc := right_c hr
      have hl := hr.1
      have hab := ofC_pos h1 h2
      have hin := nth_in hr hab h1 h2
      have e : ¬ (k < 0 ∨ k ≥ ofC a b c) := by omega
      have hF : a ≤ ofF a b c ∧ ofF a b c ≤ b := by unfold ofF; split; · omega
                                                    · split <;> omega
      rw [U.mul64 (by unfold I64; omega), U.add64 (by unfold I64; omega)]
      simp [nth, nthE, h, e]
  · exact h.elim

set_option maxRecDepth 100000 in
theorem t_rNth (a b c k : Int) : conB Go.Proofs.Try.prog (conOf k4) noLoops 10 22 [.agg [.lit (.int .i64 a), .lit (.int .i64 b), .lit (.int .i64 c)], .lit (.int .i64 k)] =
    T.ask (I64 a ∧ I64 b ∧ I64 c)
    (T.br (U.ne (lk chk a b c) (0 : Int))
      (T.ret (SV.tup [SV.lit (Value.int IntKind.i64 (0 : Int)), SV.lit (Value.int IntKind.i64 (lk chk a b c))]))
      (T.br (U.lt k (0 : Int))
        (T.ret (SV.tup [SV.lit (Value.int IntKind.i64 (0 : Int)), SV.lit (Value.int IntKind.i64 (4 : Int))]))
        (T.ask (I64 a ∧ I64 b ∧ I64 c)
          (T.br (U.ge k (lk size a b c))
            (T.ret (SV.tup [SV.lit (Value.int IntKind.i64 (0 : Int)), SV.lit (Value.int IntKind.i64 (4 : Int))]))
            (T.br (U.lt c (0 : Int))
              (T.ret
                (SV.tup
                  [SV.lit (Value.int IntKind.i64 (U.add IntKind.i64 b (U.mul IntKind.i64 k c))),
                    SV.lit (Value.int IntKind.i64 (0 : Int))]))
              (T.ret
                (SV.tup
                  [SV.lit (Value.int IntKind.i64 (U.add IntKind.i64 a (U.mul IntKind.i64 k c))),
                    SV.lit (Value.int IntKind.i64 (0 : Int))]))))))) := by kernel_rfl
theorem rNth_ok : ConOK P 22 c_Nth := con_of (allOK mixed k4_ok) 10 22 fun args r h => by
  unfold c_Nth at h
  split at h
  · rename_i a b c k
    have hp := (T.is_ask h).1
    have h := (T.is_ask h).2
    obtain rfl := T.is_ret h
    rw [t_rNth]
    simp only [T.All, U.le_t, U.le_f, U.lt_t, U.lt_f, U.gt_t, U.gt_f, U.ge_t, U.ge_f, U.eq_t, U.eq_f, U.ne_t, U.ne_f, U.not_t, U.not_f, U.andb_t, U.andb_f, SV.lit.injEq, SV.agg.injEq, SV.tup.injEq, List.cons.injEq, Value.int.injEq, Value.bool.injEq, true_and, and_true, lk_eq]
    refine ⟨hp, fun h => ?_, fun h => ⟨fun h1 => ?_, fun h1 => ⟨hp, fun h2 => ?_, fun h2 => ?_⟩⟩⟩
    · simp [nth, nthE, h]
    · simp [nth, nthE, h, h1]
    · simp only [size, h, if_true] at h2
      simp [nth, nthE, h, h2]
    · simp only [size, h, if_true] at h2
      have hr := chk_zero.1 h
      have hc := right_c hr
      have hl := hr.1
      have hab := ofC_pos h1 h2
      have hin := nth_in hr hab h1 h2
      have n1 : ¬ a > b := by omega
      have e : ¬ (k < 0 ∨ k ≥ ofC a b c) := by omega
      refine ⟨fun hneg => ?_, fun hneg => ?_⟩
      · simp only [ofF, ofB, if_neg n1, if_pos hneg] at hin
        rw [U.mul64 (by rw [Int.mul_comm]; unfold I64; omega), Int.mul_comm k c, U.add64 (by unfold I64; omega)]
        simp [nth, nthE, h, e, ofF, ofB, n1, hneg]
      · have n2 : ¬ c < 0 := by omega
        simp only [ofF, ofB, if_neg n1, if_neg n2] at hin
        rw [U.mul64 (by rw [Int.mul_comm]; unfold I64; omega), Int.mul_comm k c, U.add64 (by unfold I64; omega)]
        simp [nth, nthE, h, e, ofF, ofB, n1, n2]
  · exact h.elim
end Go.RX.Span
