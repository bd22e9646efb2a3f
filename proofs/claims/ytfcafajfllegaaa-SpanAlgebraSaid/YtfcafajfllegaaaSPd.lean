/- Ranges: the error of a range, in both texts; the reference's small functions. -/
import Derived.Test.YtfcafajfllegaaaSPc
set_option linter.unusedVariables false
set_option linter.unusedSimpArgs false
set_option maxRecDepth 100000
namespace Go.RX.Span
open Go Go.RX

theorem u64_neg {b : Int} (h0 : b < 0) (h : I64 b) : U.sub .u64 0 (U.wrap .u64 b) = -b := by
  rw [U.sub_eq, U.wrap_eq, IntKind.wrap_u64, IntKind.wrap_u64]; unfold I64 at h; omega
theorem u64_pos {b : Int} (h0 : 0 ≤ b) (h : I64 b) : U.wrap .u64 b = b := by
  rw [U.wrap_eq, IntKind.wrap_u64]; unfold I64 at h; omega
theorem u64_sub {m r : Int} (h0 : 0 ≤ r) (h1 : r ≤ m) (h : m ≤ 9223372036854775808) : U.sub .u64 m r = m - r := by
  rw [U.sub_eq, IntKind.wrap_u64]; omega
theorem u64_diff {a b : Int} (h : a < b) (ha : I64 a) (hb : I64 b) : U.wrap .u64 (U.sub .i64 b a) = b - a := by
  rw [U.sub_eq, U.wrap_eq, IntKind.wrap_u64, IntKind.wrap_i64]; unfold I64 at ha hb; omega

set_option maxRecDepth 100000 in
theorem t_Empty  : conB Go.Proofs.Try.prog (conOf []) noLoops 10 98 [] =
    T.ret
    (SV.agg
      [SV.lit (Value.int IntKind.i64 (1 : Int)), SV.lit (Value.int IntKind.i64 (0 : Int)),
        SV.lit (Value.int IntKind.i64 (1 : Int))]) := by kernel_rfl
theorem Empty_ok : ConOK P 98 c_Empty := con_of (allOK mixed (l := []) (by simp)) 10 98 fun args r h => by
  unfold c_Empty at h
  split at h
  · obtain rfl := T.is_ret h
    rw [t_Empty]; simp only [T.All]
  · exact h.elim
noncomputable abbrev e0 : List (Nat × Con) := [(98, c_Empty)] --%K
theorem e0_ok : ∀ p ∈ e0, ConOK P p.1 p.2 := by simp only [e0, List.mem_singleton, forall_eq]; exact Empty_ok

set_option maxRecDepth 100000 in
theorem t_IsEmpty (a b c : Int) : conB Go.Proofs.Try.prog (conOf e0) noLoops 10 102 [.agg [.lit (.int .i64 a), .lit (.int .i64 b), .lit (.int .i64 c)]] =
    T.ret (SV.lit (Value.bool (U.andb (U.eq a (1 : Int)) (U.andb (U.eq b (0 : Int)) (U.eq c (1 : Int)))))) := by kernel_rfl
theorem IsEmpty_ok : ConOK P 102 c_IsEmpty := con_of (allOK mixed e0_ok) 10 102 fun args r h => by
  unfold c_IsEmpty at h
  split at h
  · rename_i a b c
    obtain rfl := T.is_ret h
    rw [t_IsEmpty]
    simp only [T.All, U.le_t, U.le_f, U.lt_t, U.lt_f, U.gt_t, U.gt_f, U.ge_t, U.ge_f, U.eq_t, U.eq_f, U.ne_t, U.ne_f, U.not_t, U.not_f, U.andb_t, U.andb_f, SV.lit.injEq, SV.agg.injEq, SV.tup.injEq, List.cons.injEq, Value.int.injEq, Value.bool.injEq, true_and, and_true, lk_eq]
    unfold isE
    rw [U.andb_eq, U.andb_eq, U.eq_eq, U.eq_eq, U.eq_eq, Bool.eq_iff_iff]
    simp
  · exact h.elim

set_option maxRecDepth 100000 in
theorem t_step (a b c : Int) : conB Go.Proofs.Try.prog (conOf []) noLoops 10 101 [.agg [.lit (.int .i64 a), .lit (.int .i64 b), .lit (.int .i64 c)]] =
    T.br (U.lt c (0 : Int)) (T.ret (SV.lit (Value.int IntKind.i64 (U.sub IntKind.i64 (0 : Int) c))))
    (T.ret (SV.lit (Value.int IntKind.i64 c))) := by kernel_rfl
theorem step_ok : ConOK P 101 c_step := con_of (allOK mixed (l := []) (by simp)) 10 101 fun args r h => by
  unfold c_step at h
  split at h
  · rename_i a b c
    have hp := (T.is_ask h).1
    have h := (T.is_ask h).2
    obtain rfl := T.is_ret h
    rw [t_step]
    simp only [T.All, U.le_t, U.le_f, U.lt_t, U.lt_f, U.gt_t, U.gt_f, U.ge_t, U.ge_f, U.eq_t, U.eq_f, U.ne_t, U.ne_f, U.not_t, U.not_f, U.andb_t, U.andb_f, SV.lit.injEq, SV.agg.injEq, SV.tup.injEq, List.cons.injEq, Value.int.injEq, Value.bool.injEq, true_and, and_true, lk_eq]
    unfold absI
    refine ⟨fun h => ?_, fun h => ?_⟩
    · rw [if_pos h, U.sub64 (by unfold I64 at hp ⊢; omega)]; omega
    · rw [if_neg (by omega)]
  · exact h.elim

set_option maxRecDepth 100000 in
theorem t_mod (a b : Int) : conB Go.Proofs.Try.prog (conOf []) noLoops 10 103 [.lit (.int .i64 a), .lit (.int .i64 b)] =
    T.br (U.lt b (0 : Int))
    (T.br (U.ge a (0 : Int))
      (T.ask (U.sub IntKind.u64 (0 : Int) (U.wrap IntKind.u64 b) ≠ (0 : Int))
        (T.ret
          (SV.lit
            (Value.int IntKind.u64
              (U.rem (U.wrap IntKind.u64 a) (U.sub IntKind.u64 (0 : Int) (U.wrap IntKind.u64 b)))))))
      (T.ask (U.sub IntKind.u64 (0 : Int) (U.wrap IntKind.u64 b) ≠ (0 : Int))
        (T.br
          (U.eq
            (U.rem (U.sub IntKind.u64 (0 : Int) (U.wrap IntKind.u64 a))
              (U.sub IntKind.u64 (0 : Int) (U.wrap IntKind.u64 b)))
            (0 : Int))
          (T.ret (SV.lit (Value.int IntKind.u64 (0 : Int))))
          (T.ret
            (SV.lit
              (Value.int IntKind.u64
                (U.sub IntKind.u64 (U.sub IntKind.u64 (0 : Int) (U.wrap IntKind.u64 b))
                  (U.rem (U.sub IntKind.u64 (0 : Int) (U.wrap IntKind.u64 a))
                    (U.sub IntKind.u64 (0 : Int) (U.wrap IntKind.u64 b))))))))))
    (T.br (U.ge a (0 : Int))
      (T.ask (U.wrap IntKind.u64 b ≠ (0 : Int))
        (T.ret (SV.lit (Value.int IntKind.u64 (U.rem (U.wrap IntKind.u64 a) (U.wrap IntKind.u64 b))))))
      (T.ask (U.wrap IntKind.u64 b ≠ (0 : Int))
        (T.br (U.eq (U.rem (U.sub IntKind.u64 (0 : Int) (U.wrap IntKind.u64 a)) (U.wrap IntKind.u64 b)) (0 : Int))
          (T.ret (SV.lit (Value.int IntKind.u64 (0 : Int))))
          (T.ret
            (SV.lit
              (Value.int IntKind.u64
                (U.sub IntKind.u64 (U.wrap IntKind.u64 b)
                  (U.rem (U.sub IntKind.u64 (0 : Int) (U.wrap IntKind.u64 a)) (U.wrap IntKind.u64 b))))))))) := by kernel_rfl
theorem mod_ok : ConOK P 103 c_mod := con_of (allOK mixed (l := []) (by simp)) 10 103 fun args r h => by
  unfold c_mod at h
  split at h
  · rename_i a b
    have hb := (T.is_ask h).1.1
    have ha64 := (T.is_ask h).1.2.1
    have hb64 := (T.is_ask h).1.2.2
    have h := (T.is_ask h).2
    obtain rfl := T.is_ret h
    rw [t_mod]
    have core : ∀ m : Int, 0 < m → m ≤ 9223372036854775808 → (∀ x, x % m = x % b) →
        ((0 ≤ a → U.rem (U.wrap .u64 a) m = rmod a b) ∧ (a < 0 → (U.rem (U.sub .u64 0 (U.wrap .u64 a)) m = 0 → 0 = rmod a b) ∧
          (U.rem (U.sub .u64 0 (U.wrap .u64 a)) m ≠ 0 → U.sub .u64 m (U.rem (U.sub .u64 0 (U.wrap .u64 a)) m) = rmod a b))) := by
      intro m hm hm2 hmb
      unfold rmod
      refine ⟨fun h0 => by rw [u64_pos h0 ha64, U.rem_eq, tmod_pos h0, hmb], fun h0 => ?_⟩
      rw [u64_neg h0 ha64, U.rem_eq, tmod_pos (by omega)]
      refine ⟨fun h1 => by rw [← hmb]; exact (emod_neg_zero h1).symm, fun h1 => ?_⟩
      have h2 := Int.emod_nonneg (-a) (show m ≠ 0 by omega)
      have h3 := Int.emod_lt_of_pos (-a) hm
      rw [u64_sub h2 (by omega) hm2, emod_neg_lhs hm h1, hmb]
    simp only [T.All, U.le_t, U.le_f, U.lt_t, U.lt_f, U.gt_t, U.gt_f, U.ge_t, U.ge_f, U.eq_t, U.eq_f, U.ne_t, U.ne_f, U.not_t, U.not_f, U.andb_t, U.andb_f, SV.lit.injEq, SV.agg.injEq, SV.tup.injEq, List.cons.injEq, Value.int.injEq, Value.bool.injEq, true_and, and_true, lk_eq]
    have hbb : I64 b := hb64
    unfold I64 at hb64
    refine ⟨fun h0 => ?_, fun h0 => ?_⟩
    · rw [u64_neg h0 hbb]
      obtain ⟨c1, c2⟩ := core (-b) (by omega) (by omega) (fun x => Int.emod_neg x b)
      exact ⟨fun h1 => ⟨by omega, c1 h1⟩, fun h1 => ⟨by omega, (c2 h1).1, (c2 h1).2⟩⟩
    · rw [u64_pos h0 hbb]
      obtain ⟨c1, c2⟩ := core b (by omega) (by omega) (fun x => rfl)
      exact ⟨fun h1 => ⟨hb, c1 h1⟩, fun h1 => ⟨hb, (c2 h1).1, (c2 h1).2⟩⟩
  · exact h.elim

set_option maxRecDepth 100000 in
theorem t_Normal (l h s : Int) (d : Bool) : conB Go.Proofs.Try.prog (conOf e0) noLoops 10 99 [.lit (.int .i64 l), .lit (.int .i64 h), .lit (.int .i64 s), .lit (.bool d)] =
    T.br (U.gt l h)
    (T.ret
      (SV.agg
        [SV.lit (Value.int IntKind.i64 (1 : Int)), SV.lit (Value.int IntKind.i64 (0 : Int)),
          SV.lit (Value.int IntKind.i64 (1 : Int))]))
    (T.br (U.eq l h)
      (T.ret
        (SV.agg
          [SV.lit (Value.int IntKind.i64 l), SV.lit (Value.int IntKind.i64 h),
            SV.lit (Value.int IntKind.i64 (1 : Int))]))
      (T.br d
        (T.ret
          (SV.agg
            [SV.lit (Value.int IntKind.i64 l), SV.lit (Value.int IntKind.i64 h),
              SV.lit (Value.int IntKind.i64 (U.sub IntKind.i64 (0 : Int) s))]))
        (T.ret
          (SV.agg
            [SV.lit (Value.int IntKind.i64 l), SV.lit (Value.int IntKind.i64 h), SV.lit (Value.int IntKind.i64 s)])))) := by kernel_rfl
theorem Normal_ok : ConOK P 99 c_Normal := con_of (allOK mixed e0_ok) 10 99 fun args r h => by
  unfold c_Normal at h
  split at h
  · rename_i l h' s d
    have hp := (T.is_ask h).1
    have h := (T.is_ask h).2
    obtain rfl := T.is_ret h
    rw [t_Normal]
    simp only [T.All, U.le_t, U.le_f, U.lt_t, U.lt_f, U.gt_t, U.gt_f, U.ge_t, U.ge_f, U.eq_t, U.eq_f, U.ne_t, U.ne_f, U.not_t, U.not_f, U.andb_t, U.andb_f, SV.lit.injEq, SV.agg.injEq, SV.tup.injEq, List.cons.injEq, Value.int.injEq, Value.bool.injEq, true_and, and_true, lk_eq]
    unfold rnL rnH rnS
    refine ⟨fun h => ?_, fun h => ⟨fun h2 => ?_, fun h2 => ⟨fun h3 => ?_, fun h3 => ?_⟩⟩⟩
    · have n1 : l ≥ h' := by omega
      simp [h, n1]
    · subst h2; simp
    · have n1 : ¬ l > h' := by omega
      have n2 : ¬ l ≥ h' := by omega
      rw [U.sub64 (by have := hp (by omega) h3; unfold I64 at this ⊢; omega)]
      simp [n1, n2, h3]
    · have n1 : ¬ l > h' := by omega
      have n2 : ¬ l ≥ h' := by omega
      simp [n1, n2, h3]
  · exact h.elim

set_option maxRecDepth 100000 in
theorem t_rwithin (n : Int) : conB Go.Proofs.Try.prog (conOf []) noLoops 10 97 [.lit (.int .i64 n)] =
    T.br (U.ge n (-1000000 : Int)) (T.ret (SV.lit (Value.bool (U.le n (1000000 : Int)))))
    (T.ret (SV.lit (Value.bool false))) := by kernel_rfl
theorem rwithin_ok : ConOK P 97 c_within := con_of (allOK mixed (l := []) (by simp)) 10 97 fun args r h => by
  unfold c_within at h
  split at h
  · rename_i n
    obtain rfl := T.is_ret h
    rw [t_rwithin]
    simp only [T.All, U.le_t, U.le_f, U.lt_t, U.lt_f, U.gt_t, U.gt_f, U.ge_t, U.ge_f, U.eq_t, U.eq_f, U.ne_t, U.ne_f, U.not_t, U.not_f, U.andb_t, U.andb_f, SV.lit.injEq, SV.agg.injEq, SV.tup.injEq, List.cons.injEq, Value.int.injEq, Value.bool.injEq, true_and, and_true, lk_eq]
    rw [U.le_eq]
    unfold lim
    refine ⟨fun h => by simp [h], fun h => ?_⟩
    have : ¬ (-1000000 ≤ n) := by omega
    simp [this]
  · exact h.elim

/-- The remainders that Check takes, in both directions. -/
theorem chk_rem {a b c : Int} (h : a < b) (ha : I64 a) (hb : I64 b) (hc : I64 c) :
    (c < 0 → U.rem (U.wrap .u64 (U.sub .i64 b a)) (U.sub .u64 0 (U.wrap .u64 c)) = (b - a) % c) ∧
    (0 ≤ c → U.rem (U.wrap .u64 (U.sub .i64 b a)) (U.wrap .u64 c) = (b - a) % c) := by
  refine ⟨fun h0 => ?_, fun h0 => ?_⟩
  · rw [u64_diff h ha hb, u64_neg h0 hc, U.rem_eq, tmod_pos (by omega), Int.emod_neg]
  · rw [u64_diff h ha hb, u64_pos h0 hc, U.rem_eq, tmod_pos (by omega)]
end Go.RX.Span
