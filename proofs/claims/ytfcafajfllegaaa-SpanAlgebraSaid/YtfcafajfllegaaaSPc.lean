/- Ranges: layer 1's small functions meet their contracts. -/
import Derived.Test.YtfcafajfllegaaaSPb
import Derived.Test.YtfcafajfllegaaaProg
import Derived.KernelRfl
set_option linter.unusedVariables false
set_option linter.unusedSimpArgs false
set_option maxRecDepth 100000
namespace Go.RX.Span
open Go Go.RX

noncomputable abbrev P := Go.Proofs.Try.prog
theorem mixed : P.follows .mixedOrders = true := by kernel_rfl

set_option maxRecDepth 100000 in
theorem t_within (n : Int) : conB Go.Proofs.Try.prog (conOf []) noLoops 10 95 [.lit (.int .i64 n)] =
    T.br (U.ge n (-1000000 : Int)) (T.ret (SV.lit (Value.bool (U.le n (1000000 : Int)))))
    (T.ret (SV.lit (Value.bool false))) := by kernel_rfl
theorem within_ok : ConOK P 95 c_within := con_of (allOK mixed (l := []) (by simp)) 10 95 fun args r h => by
  unfold c_within at h
  split at h
  · rename_i n
    obtain rfl := T.is_ret h
    rw [t_within]
    simp only [T.All, U.le_t, U.le_f, U.lt_t, U.lt_f, U.gt_t, U.gt_f, U.ge_t, U.ge_f, U.eq_t, U.eq_f, U.ne_t, U.ne_f, U.not_t, U.not_f, U.andb_t, U.andb_f, SV.lit.injEq, SV.agg.injEq, SV.tup.injEq, List.cons.injEq, Value.int.injEq, Value.bool.injEq, true_and, and_true, lk_eq]
    rw [U.le_eq]
    unfold lim
    refine ⟨fun h => by simp [h], fun h => ?_⟩
    have : ¬ (-1000000 ≤ n) := by omega
    simp [this]
  · exact h.elim

set_option maxRecDepth 100000 in
theorem t_last (a b c : Int) : conB Go.Proofs.Try.prog (conOf []) noLoops 10 115 [.agg [.lit (.int .i64 a), .lit (.int .i64 b), .lit (.int .i64 c)]] =
    T.ret (SV.lit (Value.int IntKind.i64 (U.add IntKind.i64 a (U.mul IntKind.i64 b (U.sub IntKind.i64 c (1 : Int)))))) := by kernel_rfl
theorem last_ok : ConOK P 115 c_last := con_of (allOK mixed (l := []) (by simp)) 10 115 fun args r h => by
  unfold c_last at h
  split at h
  · rename_i a b c
    have hp := (T.is_ask h).1
    have h1 := hp.1
    have h2 := hp.2.1
    have h3 := hp.2.2
    have h := (T.is_ask h).2
    obtain rfl := T.is_ret h
    rw [t_last]
    simp only [T.All, U.le_t, U.le_f, U.lt_t, U.lt_f, U.gt_t, U.gt_f, U.ge_t, U.ge_f, U.eq_t, U.eq_f, U.ne_t, U.ne_f, U.not_t, U.not_f, U.andb_t, U.andb_f, SV.lit.injEq, SV.agg.injEq, SV.tup.injEq, List.cons.injEq, Value.int.injEq, Value.bool.injEq, true_and, and_true, lk_eq]
    rw [U.sub64 h1, U.mul64 h2, U.add64 h3]; rfl
  · exact h.elim

theorem tdiv_pos {a b : Int} (h : 0 ≤ a) : a.tdiv b = a / b := Int.tdiv_eq_ediv_of_nonneg h
theorem div_le_self' {a b : Int} (ha : 0 ≤ a) (hb : 0 < b) : 0 ≤ a / b ∧ a / b ≤ a :=
  ⟨Int.ediv_nonneg ha (by omega), Int.ediv_le_self b ha⟩

set_option maxRecDepth 100000 in
theorem t_of (a b c : Int) : conB Go.Proofs.Try.prog (conOf []) noLoops 10 100 [.agg [.lit (.int .i64 a), .lit (.int .i64 b), .lit (.int .i64 c)]] =
    T.br (U.gt a b)
    (T.ret
      (SV.agg
        [SV.lit (Value.int IntKind.i64 (0 : Int)), SV.lit (Value.int IntKind.i64 (0 : Int)),
          SV.lit (Value.int IntKind.i64 (0 : Int))]))
    (T.br (U.lt c (0 : Int))
      (T.ask (U.sub IntKind.i64 (0 : Int) c ≠ (0 : Int))
        (T.ret
          (SV.agg
            [SV.lit (Value.int IntKind.i64 b), SV.lit (Value.int IntKind.i64 c),
              SV.lit
                (Value.int IntKind.i64
                  (U.add IntKind.i64 (U.quo IntKind.i64 (U.sub IntKind.i64 b a) (U.sub IntKind.i64 (0 : Int) c))
                    (1 : Int)))])))
      (T.ask (c ≠ (0 : Int))
        (T.ret
          (SV.agg
            [SV.lit (Value.int IntKind.i64 a), SV.lit (Value.int IntKind.i64 c),
              SV.lit
                (Value.int IntKind.i64 (U.add IntKind.i64 (U.quo IntKind.i64 (U.sub IntKind.i64 b a) c) (1 : Int)))])))) := by kernel_rfl
theorem of_ok : ConOK P 100 c_of := con_of (allOK mixed (l := []) (by simp)) 10 100 fun args r h => by
  unfold c_of at h
  split at h
  · rename_i a b c
    have hp := (T.is_ask h).1
    have h := (T.is_ask h).2
    obtain rfl := T.is_ret h
    rw [t_of]
    simp only [T.All, U.le_t, U.le_f, U.lt_t, U.lt_f, U.gt_t, U.gt_f, U.ge_t, U.ge_f, U.eq_t, U.eq_f, U.ne_t, U.ne_f, U.not_t, U.not_f, U.andb_t, U.andb_f, SV.lit.injEq, SV.agg.injEq, SV.tup.injEq, List.cons.injEq, Value.int.injEq, Value.bool.injEq, true_and, and_true, lk_eq]
    unfold I64 at hp
    refine ⟨fun h => ?_, fun h => ⟨fun h2 => ?_, fun h2 => ?_⟩⟩
    · unfold ofF ofB ofC; rw [if_pos (by omega), if_pos (by omega), if_pos (by omega)]; exact ⟨rfl, rfl, rfl⟩
    · obtain ⟨g1, g2, g3, g4, g5, g6⟩ := hp h
      have e1 : U.sub .i64 0 c = -c := by rw [U.sub64 (by unfold I64; omega)]; omega
      have e2 : U.sub .i64 b a = b - a := U.sub64 (by unfold I64; omega)
      have hd := div_le_self' (a := b - a) (b := -c) (by omega) (by omega)
      rw [e1, e2, U.quo64 (by rw [tdiv_pos (by omega)]; unfold I64; omega), tdiv_pos (by omega), U.add64 (by unfold I64; omega)]
      have n1 : ¬ a > b := by omega
      refine ⟨by omega, ?_, ?_, ?_⟩ <;> simp [ofF, ofB, ofC, h2, n1]
    · obtain ⟨g1, g2, g3, g4, g5, g6⟩ := hp h
      have e2 : U.sub .i64 b a = b - a := U.sub64 (by unfold I64; omega)
      have hd := div_le_self' (a := b - a) (b := c) (by omega) (by omega)
      rw [e2, U.quo64 (by rw [tdiv_pos (by omega)]; unfold I64; omega), tdiv_pos (by omega), U.add64 (by unfold I64; omega)]
      have n1 : ¬ a > b := by omega
      have n2 : ¬ c < 0 := by omega
      refine ⟨by omega, ?_, ?_, ?_⟩ <;> simp [ofF, ofB, ofC, n1, n2]
  · exact h.elim

noncomputable abbrev k0 : List (Nat × Con) := [(95, c_within), (115, c_last), (100, c_of)] --%K
theorem k0_ok : ∀ p ∈ k0, ConOK P p.1 p.2 := by
  simp only [k0, List.mem_cons, List.not_mem_nil, or_false, forall_eq_or_imp, forall_eq]
  exact ⟨within_ok, last_ok, of_ok⟩

theorem mm_min (a b : Int) : U.mm false a b = min a b := by rw [U.mm_eq]; simp only [Bool.false_eq_true, if_false]; split <;> omega
theorem mm_max (a b : Int) : U.mm true a b = max a b := by rw [U.mm_eq]; simp only [if_true]; split <;> omega

set_option maxRecDepth 100000 in
theorem t_normal (a b c : Int) : conB Go.Proofs.Try.prog (conOf k0) noLoops 10 96 [.agg [.lit (.int .i64 a), .lit (.int .i64 b), .lit (.int .i64 c)]] =
    T.br (U.le c (0 : Int))
    (T.ret
      (SV.tup
        [SV.agg
            [SV.lit (Value.int IntKind.i64 (1 : Int)), SV.lit (Value.int IntKind.i64 (0 : Int)),
              SV.lit (Value.int IntKind.i64 (1 : Int))],
          SV.lit (Value.int IntKind.i64 (0 : Int))]))
    (T.ask (I64 (c - (1 : Int)) ∧ I64 (b * (c - (1 : Int))) ∧ I64 (a + b * (c - (1 : Int))))
      (T.ask (I64 (c - (1 : Int)) ∧ I64 (b * (c - (1 : Int))) ∧ I64 (a + b * (c - (1 : Int))))
        (T.br (U.eq c (1 : Int))
          (T.br (U.not (lk lim (U.mm false a (lk sLast a b c))))
            (T.ret
              (SV.tup
                [SV.agg
                    [SV.lit (Value.int IntKind.i64 (0 : Int)), SV.lit (Value.int IntKind.i64 (0 : Int)),
                      SV.lit (Value.int IntKind.i64 (0 : Int))],
                  SV.lit (Value.int IntKind.i64 (4 : Int))]))
            (T.br (U.not (lk lim (U.mm true a (lk sLast a b c))))
              (T.ret
                (SV.tup
                  [SV.agg
                      [SV.lit (Value.int IntKind.i64 (0 : Int)), SV.lit (Value.int IntKind.i64 (0 : Int)),
                        SV.lit (Value.int IntKind.i64 (0 : Int))],
                    SV.lit (Value.int IntKind.i64 (4 : Int))]))
              (T.ret
                (SV.tup
                  [SV.agg
                      [SV.lit (Value.int IntKind.i64 (U.mm false a (lk sLast a b c))),
                        SV.lit (Value.int IntKind.i64 (U.mm true a (lk sLast a b c))),
                        SV.lit (Value.int IntKind.i64 (1 : Int))],
                    SV.lit (Value.int IntKind.i64 (0 : Int))]))))
          (T.br (U.not (lk lim (U.mm false a (lk sLast a b c))))
            (T.ret
              (SV.tup
                [SV.agg
                    [SV.lit (Value.int IntKind.i64 (0 : Int)), SV.lit (Value.int IntKind.i64 (0 : Int)),
                      SV.lit (Value.int IntKind.i64 (0 : Int))],
                  SV.lit (Value.int IntKind.i64 (4 : Int))]))
            (T.br (U.not (lk lim (U.mm true a (lk sLast a b c))))
              (T.ret
                (SV.tup
                  [SV.agg
                      [SV.lit (Value.int IntKind.i64 (0 : Int)), SV.lit (Value.int IntKind.i64 (0 : Int)),
                        SV.lit (Value.int IntKind.i64 (0 : Int))],
                    SV.lit (Value.int IntKind.i64 (4 : Int))]))
              (T.ret
                (SV.tup
                  [SV.agg
                      [SV.lit (Value.int IntKind.i64 (U.mm false a (lk sLast a b c))),
                        SV.lit (Value.int IntKind.i64 (U.mm true a (lk sLast a b c))),
                        SV.lit (Value.int IntKind.i64 b)],
                    SV.lit (Value.int IntKind.i64 (0 : Int))]))))))) := by kernel_rfl
theorem normal_ok : ConOK P 96 c_normal := con_of (allOK mixed k0_ok) 10 96 fun args r h => by
  unfold c_normal at h
  split at h
  · rename_i a b c
    have hp := (T.is_ask h).1
    have h := (T.is_ask h).2
    obtain rfl := T.is_ret h
    rw [t_normal]
    simp only [T.All, U.le_t, U.le_f, U.lt_t, U.lt_f, U.gt_t, U.gt_f, U.ge_t, U.ge_f, U.eq_t, U.eq_f, U.ne_t, U.ne_f, U.not_t, U.not_f, U.andb_t, U.andb_f, SV.lit.injEq, SV.agg.injEq, SV.tup.injEq, List.cons.injEq, Value.int.injEq, Value.bool.injEq, true_and, and_true, lk_eq, mm_min, mm_max, lim_t, lim_f]
    refine ⟨fun h => ?_, fun h => ⟨hp h, hp h, fun h2 => ⟨fun h3 => ?_, fun h3 => ⟨fun h4 => ?_, fun h4 => ?_⟩⟩, fun h2 => ⟨fun h3 => ?_, fun h3 => ⟨fun h4 => ?_, fun h4 => ?_⟩⟩⟩⟩
    · simp [nLow, nHigh, nStr, nErr, h]
    all_goals
      have hc : ¬ c ≤ 0 := by omega
      have e : nErr a b c = 4 ∨ nErr a b c = 0 := by unfold nErr; rw [if_neg hc]; split <;> simp
    · have e : nErr a b c = 4 := by unfold nErr; rw [if_neg hc, if_neg (by omega)]
      simp [nLow, nHigh, nStr, hc, e]
    · have e : nErr a b c = 4 := by unfold nErr; rw [if_neg hc, if_neg (by omega)]
      simp [nLow, nHigh, nStr, hc, e]
    · subst h2
      have e : nErr a b 1 = 0 := by unfold nErr; rw [if_neg hc, if_pos (by omega)]
      simp [nLow, nHigh, nStr, e]
    · have e : nErr a b c = 4 := by unfold nErr; rw [if_neg hc, if_neg (by omega)]
      simp [nLow, nHigh, nStr, hc, e]
    · have e : nErr a b c = 4 := by unfold nErr; rw [if_neg hc, if_neg (by omega)]
      simp [nLow, nHigh, nStr, hc, e]
    · have e : nErr a b c = 0 := by unfold nErr; rw [if_neg hc, if_pos (by omega)]
      simp [nLow, nHigh, nStr, hc, e, h2]
  · exact h.elim

set_option maxRecDepth 100000 in
theorem t_turned (a b c : Int) : conB Go.Proofs.Try.prog (conOf k0) noLoops 10 105 [.agg [.lit (.int .i64 a), .lit (.int .i64 b), .lit (.int .i64 c)]] =
    T.br (U.eq c (0 : Int))
    (T.ret
      (SV.agg [SV.lit (Value.int IntKind.i64 a), SV.lit (Value.int IntKind.i64 b), SV.lit (Value.int IntKind.i64 c)]))
    (T.ask (I64 (c - (1 : Int)) ∧ I64 (b * (c - (1 : Int))) ∧ I64 (a + b * (c - (1 : Int))))
      (T.ret
        (SV.agg
          [SV.lit (Value.int IntKind.i64 (lk sLast a b c)),
            SV.lit (Value.int IntKind.i64 (U.sub IntKind.i64 (0 : Int) b)), SV.lit (Value.int IntKind.i64 c)]))) := by kernel_rfl
theorem turned_ok : ConOK P 105 c_turned := con_of (allOK mixed k0_ok) 10 105 fun args r h => by
  unfold c_turned at h
  split at h
  · rename_i a b c
    have hp := (T.is_ask h).1
    have h := (T.is_ask h).2
    obtain rfl := T.is_ret h
    rw [t_turned]
    simp only [T.All, U.le_t, U.le_f, U.lt_t, U.lt_f, U.gt_t, U.gt_f, U.ge_t, U.ge_f, U.eq_t, U.eq_f, U.ne_t, U.ne_f, U.not_t, U.not_f, U.andb_t, U.andb_f, SV.lit.injEq, SV.agg.injEq, SV.tup.injEq, List.cons.injEq, Value.int.injEq, Value.bool.injEq, true_and, and_true, lk_eq]
    unfold tF tB
    refine ⟨fun h => ?_, fun h => ?_⟩
    · rw [if_pos h, if_pos h]; exact ⟨rfl, rfl⟩
    · obtain ⟨h1, h2, h3, h4⟩ := hp h
      rw [if_neg h, if_neg h, U.sub64 (by unfold I64 at h4 ⊢; omega)]
      exact ⟨⟨h1, h2, h3⟩, rfl, by omega⟩
  · exact h.elim
end Go.RX.Span
