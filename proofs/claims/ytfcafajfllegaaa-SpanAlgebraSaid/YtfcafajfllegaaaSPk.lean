/- Ranges: Count of the program and of the reference. -/
import Derived.Test.YtfcafajfllegaaaSPi
import Derived.Test.YtfcafajfllegaaaRXp
set_option linter.unusedVariables false
set_option linter.unusedSimpArgs false
set_option maxRecDepth 100000
namespace Go.RX.Span
open Go Go.RX

/-- What a right range with numbers is made of: its step, and how many steps it has. -/
theorem parts {a b c : Int} (hr : Right a b c) (hab : a ≤ b) :
    1 ≤ absI c ∧ absI c ≤ 2000000 ∧ 1 ≤ ofC a b c ∧ ofC a b c ≤ 2000001 ∧ absI c * (ofC a b c - 1) = b - a ∧ ofB a b c = c ∧ ofF a b c = (if c < 0 then b else a) ∧ (c = absI c ∨ c = -absI c) ∧ (c < 0 → a < b) ∧ (a = b → c = 1) := by
  have hc := right_c hr
  have hl := hr.1
  have n1 : ¬ a > b := by omega
  obtain ⟨s1, s2, s3, s4, s5⟩ := series_of hr hab
  have hneg : c < 0 → a < b := fun h => by rcases hr.2 with h' | h' | h' <;> omega
  refine ⟨?_, ?_, by omega, s2, ?_, by simp [ofB, n1], by simp [ofF, n1], ?_, hneg, fun h => by rcases hr.2 with h' | h' | h' <;> omega⟩
  · unfold absI; split <;> omega
  · unfold absI; split <;> omega
  · unfold absI ofC
    rw [if_neg n1]
    have hd : c ∣ b - a := by
      rcases hr.2 with h | h | h
      · omega
      · rw [show b - a = 0 by omega]; exact Int.dvd_zero _
      · exact Int.dvd_of_emod_eq_zero h.2.2
    by_cases h : c < 0
    · rw [if_pos h, if_pos h]
      have := Int.mul_ediv_cancel' ((Int.neg_dvd).2 hd)
      rw [show (b - a) / -c + 1 - 1 = (b - a) / -c by omega]; exact this
    · rw [if_neg h, if_neg h]
      have := Int.mul_ediv_cancel' hd
      rw [show (b - a) / c + 1 - 1 = (b - a) / c by omega]; exact this
  · unfold absI; split <;> omega

/-- A product by a step lies between. -/
theorem mulle {s x y : Int} (hs : 1 ≤ s) (h : x ≤ y) : s * x ≤ s * y := Int.mul_le_mul_of_nonneg_left h (by omega)
theorem mul0 {s k : Int} (hs : 1 ≤ s) : (s * k = 0) ↔ k = 0 := by
  constructor
  · intro h
    rcases Int.mul_eq_zero.1 h with h | h
    · omega
    · exact h
  · intro h; rw [h, Int.mul_zero]

/-- A series made normal, upwards and downwards. -/
theorem nUp {F s C : Int} (hs : 1 ≤ s) (hC : 1 ≤ C) (h1 : -1000000 ≤ F) (h2 : F + s * (C - 1) ≤ 1000000) :
    nErr F s C = 0 ∧ nLow F s C = F ∧ nHigh F s C = F + s * (C - 1) ∧ nStr F s C = (if C = 1 then 1 else s) := by
  have h0 := mulle (x := 0) (y := C - 1) hs (by omega)
  rw [Int.mul_zero] at h0
  have n1 : ¬ C ≤ 0 := by omega
  have e : nErr F s C = 0 := by
    unfold nErr sLast; rw [if_neg n1, if_pos (by omega)]
  refine ⟨e, ?_, ?_, ?_⟩
  · simp only [nLow, e, if_neg n1, if_true, sLast]; omega
  · simp only [nHigh, e, if_neg n1, if_true, sLast]; omega
  · simp only [nStr, e, if_neg n1, if_true]
theorem nDn {F s C : Int} (hs : 1 ≤ s) (hC : 1 ≤ C) (h1 : F ≤ 1000000) (h2 : -1000000 ≤ F - s * (C - 1)) :
    nErr F (-s) C = 0 ∧ nLow F (-s) C = F - s * (C - 1) ∧ nHigh F (-s) C = F ∧ nStr F (-s) C = (if C = 1 then 1 else -s) := by
  have h0 := mulle (x := 0) (y := C - 1) hs (by omega)
  rw [Int.mul_zero] at h0
  have n1 : ¬ C ≤ 0 := by omega
  have e : nErr F (-s) C = 0 := by
    unfold nErr sLast; rw [if_neg n1, Int.neg_mul, if_pos (by omega)]
  refine ⟨e, ?_, ?_, ?_⟩
  · simp only [nLow, e, if_neg n1, if_true, sLast, Int.neg_mul]; omega
  · simp only [nHigh, e, if_neg n1, if_true, sLast, Int.neg_mul]; omega
  · simp only [nStr, e, if_neg n1, if_true]
theorem nth_eq' {a b c k : Int} (hr : Right a b c) (hab : a ≤ b) (h0 : 0 ≤ k) (h1 : k < ofC a b c) : nth a b c k = if c < 0 then b - absI c * k else a + absI c * k := by
  obtain ⟨p1, p2, p3, p4, p5, p6, p7, p8, p9, p10⟩ := parts hr hab
  have e : nthE a b c k = 0 := by
    unfold nthE; rw [if_neg (by rw [chk_zero.2 hr]; simp), if_neg (by omega)]
  simp only [nth, e, ne_eq, not_true_eq_false, if_false, p6, p7]
  by_cases h : c < 0
  · rw [if_pos h, if_pos h]
    have : absI c = -c := by simp [absI, h]
    rw [this, Int.neg_mul]; omega
  · rw [if_neg h, if_neg h]
    have : absI c = c := by simp [absI, h]
    rw [this]
theorem size_eq' {a b c : Int} (hr : Right a b c) : size a b c = ofC a b c := by simp [size, chk_zero.2 hr]

def cntE (a b c n : Int) : Int := if chk a b c ≠ 0 then chk a b c else if n > ofC a b c ∨ n < -ofC a b c then 5 else 0
def cntFrom (a b c n : Int) : Int := if n < 0 then ofC a b c + n else 0
def cntTo (a b c n : Int) : Int := if n < 0 then ofC a b c - 1 else n - 1
def cntLow (a b c n : Int) : Int := if cntE a b c n ≠ 0 then 0 else if n = 0 then 1 else if c < 0 then b - absI c * cntTo a b c n else a + absI c * cntFrom a b c n
def cntHigh (a b c n : Int) : Int := if cntE a b c n ≠ 0 then 0 else if n = 0 then 0 else if c < 0 then b - absI c * cntFrom a b c n else a + absI c * cntTo a b c n
def cntStr (a b c n : Int) : Int := if cntE a b c n ≠ 0 then 0 else if n = 0 then 1 else if n = 1 ∨ n = -1 then 1 else c

theorem ofC_bnd {a b c : Int} (hr : Right a b c) : 0 ≤ ofC a b c ∧ ofC a b c ≤ 2000001 := by
  by_cases hab : a ≤ b
  · have := parts hr hab; omega
  · have := empty_of (c := c) hab; omega
/-- What the program asks of a right range that it turns into a series. -/
theorem of_ask {a b c : Int} (hr : Right a b c) (ha : I64 a) (hb : I64 b) (hc' : I64 c) : a ≤ b → c ≠ 0 ∧ -9223372036854775807 ≤ c ∧ b - a < 9223372036854775807 ∧ I64 a ∧ I64 b ∧ I64 c := fun hab => by
  have hc := right_c hr
  have hl := hr.1
  exact ⟨hc.1, by omega, by omega, ha, hb, hc'⟩
/-- Signs, products. -/
theorem absI_neg {c : Int} (h : c < 0) : absI c = -c := by simp [absI, h]
theorem absI_pos {c : Int} (h : ¬ c < 0) : absI c = c := by simp [absI, h]

noncomputable def c_Count : Con := fun args => match args with
  | [.agg [.lit (.int .i64 a), .lit (.int .i64 b), .lit (.int .i64 c)], .lit (.int .i64 n)] =>
    .ask (I64 a ∧ I64 b ∧ I64 c ∧ I64 n) (.ret (.tup [.agg [.lit (.int .i64 (lk cntLow a b c n)), .lit (.int .i64 (lk cntHigh a b c n)), .lit (.int .i64 (lk cntStr a b c n))], .lit (.int .i64 (lk cntE a b c n))]))
  | _ => .stuck 1

set_option maxRecDepth 100000 in
theorem t_Count (a b c n : Int) : conB Go.Proofs.Try.prog (conOf k7) noLoops 10 35 [.agg [.lit (.int .i64 a), .lit (.int .i64 b), .lit (.int .i64 c)], .lit (.int .i64 n)] =
    T.ask (I64 a ∧ I64 b ∧ I64 c)
    (T.br (U.ne (lk chk a b c) (0 : Int))
      (T.ret
        (SV.tup
          [SV.agg
              [SV.lit (Value.int IntKind.i64 (0 : Int)), SV.lit (Value.int IntKind.i64 (0 : Int)),
                SV.lit (Value.int IntKind.i64 (0 : Int))],
            SV.lit (Value.int IntKind.i64 (lk chk a b c))]))
      (T.ask
        (a ≤ b →
          c ≠ (0 : Int) ∧
            (-9223372036854775807 : Int) ≤ c ∧ b - a < (9223372036854775807 : Int) ∧ I64 a ∧ I64 b ∧ I64 c)
        (T.br (U.gt n (lk ofC a b c))
          (T.ret
            (SV.tup
              [SV.agg
                  [SV.lit (Value.int IntKind.i64 (0 : Int)), SV.lit (Value.int IntKind.i64 (0 : Int)),
                    SV.lit (Value.int IntKind.i64 (0 : Int))],
                SV.lit (Value.int IntKind.i64 (5 : Int))]))
          (T.br (U.lt n (U.sub IntKind.i64 (0 : Int) (lk ofC a b c)))
            (T.ret
              (SV.tup
                [SV.agg
                    [SV.lit (Value.int IntKind.i64 (0 : Int)), SV.lit (Value.int IntKind.i64 (0 : Int)),
                      SV.lit (Value.int IntKind.i64 (0 : Int))],
                  SV.lit (Value.int IntKind.i64 (5 : Int))]))
            (T.br (U.lt n (0 : Int))
              (T.ask
                ((0 : Int) < U.sub IntKind.i64 (0 : Int) n →
                  I64 (U.sub IntKind.i64 (0 : Int) n - (1 : Int)) ∧
                    I64 (lk ofB a b c * (U.sub IntKind.i64 (0 : Int) n - (1 : Int))) ∧
                      I64
                        (U.add IntKind.i64 (lk ofF a b c)
                            (U.mul IntKind.i64 (lk ofB a b c) (U.add IntKind.i64 (lk ofC a b c) n)) +
                          lk ofB a b c * (U.sub IntKind.i64 (0 : Int) n - (1 : Int))))
                (T.ret
                  (SV.tup
                    [SV.agg
                        [SV.lit
                            (Value.int IntKind.i64
                              (lk nLow
                                (U.add IntKind.i64 (lk ofF a b c)
                                  (U.mul IntKind.i64 (lk ofB a b c) (U.add IntKind.i64 (lk ofC a b c) n)))
                                (lk ofB a b c) (U.sub IntKind.i64 (0 : Int) n))),
                          SV.lit
                            (Value.int IntKind.i64
                              (lk nHigh
                                (U.add IntKind.i64 (lk ofF a b c)
                                  (U.mul IntKind.i64 (lk ofB a b c) (U.add IntKind.i64 (lk ofC a b c) n)))
                                (lk ofB a b c) (U.sub IntKind.i64 (0 : Int) n))),
                          SV.lit
                            (Value.int IntKind.i64
                              (lk nStr
                                (U.add IntKind.i64 (lk ofF a b c)
                                  (U.mul IntKind.i64 (lk ofB a b c) (U.add IntKind.i64 (lk ofC a b c) n)))
                                (lk ofB a b c) (U.sub IntKind.i64 (0 : Int) n)))],
                      SV.lit
                        (Value.int IntKind.i64
                          (lk nErr
                            (U.add IntKind.i64 (lk ofF a b c)
                              (U.mul IntKind.i64 (lk ofB a b c) (U.add IntKind.i64 (lk ofC a b c) n)))
                            (lk ofB a b c) (U.sub IntKind.i64 (0 : Int) n)))])))
              (T.ask
                ((0 : Int) < n →
                  I64 (n - (1 : Int)) ∧
                    I64 (lk ofB a b c * (n - (1 : Int))) ∧ I64 (lk ofF a b c + lk ofB a b c * (n - (1 : Int))))
                (T.ret
                  (SV.tup
                    [SV.agg
                        [SV.lit (Value.int IntKind.i64 (lk nLow (lk ofF a b c) (lk ofB a b c) n)),
                          SV.lit (Value.int IntKind.i64 (lk nHigh (lk ofF a b c) (lk ofB a b c) n)),
                          SV.lit (Value.int IntKind.i64 (lk nStr (lk ofF a b c) (lk ofB a b c) n))],
                      SV.lit (Value.int IntKind.i64 (lk nErr (lk ofF a b c) (lk ofB a b c) n))])))))))) := by kernel_rfl
theorem Count_ok : ConOK P 35 c_Count := con_of (allOK mixed k7_ok) 10 35 fun args r h => by
  unfold c_Count at h
  split at h
  · rename_i a b c n
    have hp := (T.is_ask h).1
    have h := (T.is_ask h).2
    obtain rfl := T.is_ret h
    rw [t_Count]
    simp only [T.All, U.le_t, U.le_f, U.lt_t, U.lt_f, U.gt_t, U.gt_f, U.ge_t, U.ge_f, U.eq_t, U.eq_f, U.ne_t, U.ne_f, U.not_t, U.not_f, U.andb_t, U.andb_f, SV.lit.injEq, SV.agg.injEq, SV.tup.injEq, List.cons.injEq, Value.int.injEq, Value.bool.injEq, true_and, and_true, lk_eq, lim_t, lim_f]
    refine ⟨⟨hp.1, hp.2.1, hp.2.2.1⟩, fun h => ?_, fun h => ⟨fun hab => ?_, fun h1 => ?_, fun h1 => ⟨fun h2 => ?_, fun h2 => ⟨fun h3 => ?_, fun h3 => ?_⟩⟩⟩⟩
    · have e : cntE a b c n = chk a b c := by simp [cntE, h]
      simp [cntLow, cntHigh, cntStr, e, h]
    · exact of_ask (chk_zero.1 h) hp.1 hp.2.1 hp.2.2.1 hab
    · have e : cntE a b c n = 5 := by unfold cntE; rw [if_neg (by simp [h]), if_pos (by omega)]
      simp [cntLow, cntHigh, cntStr, e]
    all_goals
      have hr := chk_zero.1 h
      have hl := hr.1
      have hcb := ofC_bnd hr
      have e1 : U.sub .i64 0 (ofC a b c) = -ofC a b c := by rw [U.sub64 (by unfold I64; omega)]; omega
      rw [e1] at h2
    · have e : cntE a b c n = 5 := by unfold cntE; rw [if_neg (by simp [h]), if_pos (by omega)]
      simp [cntLow, cntHigh, cntStr, e]
    all_goals
      have e : cntE a b c n = 0 := by unfold cntE; rw [if_neg (by simp [h]), if_neg (by omega)]
    · -- the last ones
      have hab : a ≤ b := Decidable.byContradiction fun h' => by have := empty_of (c := c) h'; omega
      obtain ⟨p1, p2, p3, p4, p5, p6, p7, p8, p9, p10⟩ := parts hr hab
      have e2 : U.sub .i64 0 n = -n := by rw [U.sub64 (by unfold I64; omega)]; omega
      have e3 : U.add .i64 (ofC a b c) n = ofC a b c + n := U.add64 (by unfold I64; omega)
      have m0 := mulle (x := 0) (y := ofC a b c + n) p1 (by omega)
      have m1 := mulle (x := ofC a b c + n) (y := ofC a b c - 1) p1 (by omega)
      have m2 := mulle (x := 0) (y := -n - 1) p1 (by omega)
      have m3 : absI c * (ofC a b c - 1) = absI c * (ofC a b c + n) + absI c * (-n - 1) := by rw [← Int.mul_add]; congr 1; omega
      have n1 : ¬ n = 0 := by omega
      rw [Int.mul_zero] at m0 m2
      rw [e2, e3, p6, p7]
      simp only [cntLow, cntHigh, cntStr, e, ne_eq, not_true_eq_false, if_false, if_neg n1, cntFrom, cntTo, if_pos h3]
      generalize ofC a b c = C at *
      by_cases hc : c < 0
      · have ec := absI_neg hc
        have ec' : c = -absI c := by omega
        generalize absI c = s at *
        subst ec'
        simp only [if_pos hc, Int.neg_mul]
        rw [U.mul64 (by unfold I64; rw [Int.neg_mul]; omega), Int.neg_mul, U.add64 (by unfold I64; omega)]
        obtain ⟨q1, q2, q3, q4⟩ := nDn (F := b + -(s * (C + n))) (s := s) (C := -n) p1 (by omega) (by omega) (by omega)
        rw [q1, q2, q3, q4]
        refine ⟨fun _ => by unfold I64; omega, ⟨by omega, by omega, ?_⟩, rfl⟩
        by_cases hn : n = -1
        · rw [if_pos (by omega), if_pos (by omega)]
        · rw [if_neg (by omega), if_neg (by omega)]
      · have ec := absI_pos hc
        generalize absI c = s at *
        subst ec
        simp only [if_neg hc]
        rw [U.mul64 (by unfold I64; omega), U.add64 (by unfold I64; omega)]
        obtain ⟨q1, q2, q3, q4⟩ := nUp (F := a + s * (C + n)) (s := s) (C := -n) p1 (by omega) (by omega) (by omega)
        rw [q1, q2, q3, q4]
        refine ⟨fun _ => by unfold I64; omega, ⟨by omega, by omega, ?_⟩, rfl⟩
        by_cases hn : n = -1
        · rw [if_pos (by omega), if_pos (by omega)]
        · rw [if_neg (by omega), if_neg (by omega)]
    · -- the first ones
      simp only [cntLow, cntHigh, cntStr, e, ne_eq, not_true_eq_false, if_false, cntFrom, cntTo, if_neg (show ¬ n < 0 by omega)]
      by_cases hn0 : n = 0
      · subst hn0
        simp [nLow, nHigh, nStr, nErr]
      have hab : a ≤ b := Decidable.byContradiction fun h' => by have := empty_of (c := c) h'; omega
      obtain ⟨p1, p2, p3, p4, p5, p6, p7, p8, p9, p10⟩ := parts hr hab
      have m0 := mulle (x := 0) (y := n - 1) p1 (by omega)
      have m1 := mulle (x := n - 1) (y := ofC a b c - 1) p1 (by omega)
      rw [Int.mul_zero] at m0
      rw [p6, p7]
      simp only [if_neg hn0, Int.mul_zero]
      generalize ofC a b c = C at *
      by_cases hc : c < 0
      · have ec := absI_neg hc
        have ec' : c = -absI c := by omega
        generalize absI c = s at *
        subst ec'
        simp only [if_pos hc, Int.neg_mul]
        obtain ⟨q1, q2, q3, q4⟩ := nDn (F := b) (s := s) (C := n) p1 (by omega) (by omega) (by omega)
        rw [q1, q2, q3, q4]
        refine ⟨fun _ => by unfold I64; omega, ⟨by omega, by omega, ?_⟩, rfl⟩
        by_cases hn : n = 1
        · rw [if_pos (by omega), if_pos (by omega)]
        · rw [if_neg (by omega), if_neg (by omega)]
      · have ec := absI_pos hc
        generalize absI c = s at *
        subst ec
        simp only [if_neg hc]
        obtain ⟨q1, q2, q3, q4⟩ := nUp (F := a) (s := s) (C := n) p1 (by omega) (by omega) (by omega)
        rw [q1, q2, q3, q4]
        refine ⟨fun _ => by unfold I64; omega, ⟨by omega, by omega, ?_⟩, rfl⟩
        by_cases hn : n = 1
        · rw [if_pos (by omega), if_pos (by omega)]
        · rw [if_neg (by omega), if_neg (by omega)]
  · exact h.elim

/-- The reference's range. -/
theorem rn_up {l h s : Int} (hlh : l ≤ h) : rnL l h s false = l ∧ rnH l h s false = h ∧ rnS l h s false = (if l = h then 1 else s) := by
  have n1 : ¬ l > h := by omega
  refine ⟨by simp only [rnL, if_neg n1], by simp only [rnH, if_neg n1], ?_⟩
  unfold rnS
  by_cases e : l = h
  · rw [if_pos (by omega), if_pos e]
  · rw [if_neg (by omega), if_neg e]; rfl
theorem rn_dn {l h s : Int} (hlh : l ≤ h) : rnL l h s true = l ∧ rnH l h s true = h ∧ rnS l h s true = (if l = h then 1 else -s) := by
  have n1 : ¬ l > h := by omega
  refine ⟨by simp only [rnL, if_neg n1], by simp only [rnH, if_neg n1], ?_⟩
  unfold rnS
  by_cases e : l = h
  · rw [if_pos (by omega), if_pos e]
  · rw [if_neg (by omega), if_neg e]; rfl

set_option maxRecDepth 100000 in
theorem t_rCount (a b c n : Int) : conB Go.Proofs.Try.prog (conOf k7) noLoops 10 39 [.agg [.lit (.int .i64 a), .lit (.int .i64 b), .lit (.int .i64 c)], .lit (.int .i64 n)] =
    T.ask (I64 a ∧ I64 b ∧ I64 c)
    (T.br (U.ne (lk chk a b c) (0 : Int))
      (T.ret
        (SV.tup
          [SV.agg
              [SV.lit (Value.int IntKind.i64 (0 : Int)), SV.lit (Value.int IntKind.i64 (0 : Int)),
                SV.lit (Value.int IntKind.i64 (0 : Int))],
            SV.lit (Value.int IntKind.i64 (lk chk a b c))]))
      (T.ask (I64 a ∧ I64 b ∧ I64 c)
        (T.br (U.gt n (lk size a b c))
          (T.ret
            (SV.tup
              [SV.agg
                  [SV.lit (Value.int IntKind.i64 (0 : Int)), SV.lit (Value.int IntKind.i64 (0 : Int)),
                    SV.lit (Value.int IntKind.i64 (0 : Int))],
                SV.lit (Value.int IntKind.i64 (5 : Int))]))
          (T.br (U.lt n (U.sub IntKind.i64 (0 : Int) (lk size a b c)))
            (T.ret
              (SV.tup
                [SV.agg
                    [SV.lit (Value.int IntKind.i64 (0 : Int)), SV.lit (Value.int IntKind.i64 (0 : Int)),
                      SV.lit (Value.int IntKind.i64 (0 : Int))],
                  SV.lit (Value.int IntKind.i64 (5 : Int))]))
            (T.br (U.eq n (0 : Int))
              (T.ret
                (SV.tup
                  [SV.agg
                      [SV.lit (Value.int IntKind.i64 (1 : Int)), SV.lit (Value.int IntKind.i64 (0 : Int)),
                        SV.lit (Value.int IntKind.i64 (1 : Int))],
                    SV.lit (Value.int IntKind.i64 (0 : Int))]))
              (T.br (U.lt n (0 : Int))
                (T.ask (I64 a ∧ I64 b ∧ I64 c)
                  (T.ask (I64 a ∧ I64 b ∧ I64 c)
                    (T.ask (I64 (-c))
                      (T.ask
                        (U.mm false (lk nth a b c (U.add IntKind.i64 (lk size a b c) n))
                              (lk nth a b c (U.sub IntKind.i64 (lk size a b c) (1 : Int))) <
                            U.mm true (lk nth a b c (U.add IntKind.i64 (lk size a b c) n))
                              (lk nth a b c (U.sub IntKind.i64 (lk size a b c) (1 : Int))) →
                          U.lt c (0 : Int) = true → I64 (-lk absI c))
                        (T.ret
                          (SV.tup
                            [SV.agg
                                [SV.lit
                                    (Value.int IntKind.i64
                                      (lk rnL
                                        (U.mm false (lk nth a b c (U.add IntKind.i64 (lk size a b c) n))
                                          (lk nth a b c (U.sub IntKind.i64 (lk size a b c) (1 : Int))))
                                        (U.mm true (lk nth a b c (U.add IntKind.i64 (lk size a b c) n))
                                          (lk nth a b c (U.sub IntKind.i64 (lk size a b c) (1 : Int))))
                                        (lk absI c) (U.lt c (0 : Int)))),
                                  SV.lit
                                    (Value.int IntKind.i64
                                      (lk rnH
                                        (U.mm false (lk nth a b c (U.add IntKind.i64 (lk size a b c) n))
                                          (lk nth a b c (U.sub IntKind.i64 (lk size a b c) (1 : Int))))
                                        (U.mm true (lk nth a b c (U.add IntKind.i64 (lk size a b c) n))
                                          (lk nth a b c (U.sub IntKind.i64 (lk size a b c) (1 : Int))))
                                        (lk absI c) (U.lt c (0 : Int)))),
                                  SV.lit
                                    (Value.int IntKind.i64
                                      (lk rnS
                                        (U.mm false (lk nth a b c (U.add IntKind.i64 (lk size a b c) n))
                                          (lk nth a b c (U.sub IntKind.i64 (lk size a b c) (1 : Int))))
                                        (U.mm true (lk nth a b c (U.add IntKind.i64 (lk size a b c) n))
                                          (lk nth a b c (U.sub IntKind.i64 (lk size a b c) (1 : Int))))
                                        (lk absI c) (U.lt c (0 : Int))))],
                              SV.lit (Value.int IntKind.i64 (0 : Int))]))))))
                (T.ask (I64 a ∧ I64 b ∧ I64 c)
                  (T.ask (I64 a ∧ I64 b ∧ I64 c)
                    (T.ask (I64 (-c))
                      (T.ask
                        (U.mm false (lk nth a b c (0 : Int)) (lk nth a b c (U.sub IntKind.i64 n (1 : Int))) <
                            U.mm true (lk nth a b c (0 : Int)) (lk nth a b c (U.sub IntKind.i64 n (1 : Int))) →
                          U.lt c (0 : Int) = true → I64 (-lk absI c))
                        (T.ret
                          (SV.tup
                            [SV.agg
                                [SV.lit
                                    (Value.int IntKind.i64
                                      (lk rnL
                                        (U.mm false (lk nth a b c (0 : Int))
                                          (lk nth a b c (U.sub IntKind.i64 n (1 : Int))))
                                        (U.mm true (lk nth a b c (0 : Int))
                                          (lk nth a b c (U.sub IntKind.i64 n (1 : Int))))
                                        (lk absI c) (U.lt c (0 : Int)))),
                                  SV.lit
                                    (Value.int IntKind.i64
                                      (lk rnH
                                        (U.mm false (lk nth a b c (0 : Int))
                                          (lk nth a b c (U.sub IntKind.i64 n (1 : Int))))
                                        (U.mm true (lk nth a b c (0 : Int))
                                          (lk nth a b c (U.sub IntKind.i64 n (1 : Int))))
                                        (lk absI c) (U.lt c (0 : Int)))),
                                  SV.lit
                                    (Value.int IntKind.i64
                                      (lk rnS
                                        (U.mm false (lk nth a b c (0 : Int))
                                          (lk nth a b c (U.sub IntKind.i64 n (1 : Int))))
                                        (U.mm true (lk nth a b c (0 : Int))
                                          (lk nth a b c (U.sub IntKind.i64 n (1 : Int))))
                                        (lk absI c) (U.lt c (0 : Int))))],
                              SV.lit (Value.int IntKind.i64 (0 : Int))])))))))))))) := by kernel_rfl
set_option maxHeartbeats 1000000 in
theorem rCount_ok : ConOK P 39 c_Count := con_of (allOK mixed k7_ok) 10 39 fun args r h => by
  unfold c_Count at h
  split at h
  · rename_i a b c n
    have hp := (T.is_ask h).1
    have h := (T.is_ask h).2
    obtain rfl := T.is_ret h
    have hp3 : I64 a ∧ I64 b ∧ I64 c := ⟨hp.1, hp.2.1, hp.2.2.1⟩
    rw [t_rCount]
    simp only [T.All, U.le_t, U.le_f, U.lt_t, U.lt_f, U.gt_t, U.gt_f, U.ge_t, U.ge_f, U.eq_t, U.eq_f, U.ne_t, U.ne_f, U.not_t, U.not_f, U.andb_t, U.andb_f, SV.lit.injEq, SV.agg.injEq, SV.tup.injEq, List.cons.injEq, Value.int.injEq, Value.bool.injEq, true_and, and_true, lk_eq, lim_t, lim_f, mm_min, mm_max]
    refine ⟨hp3, fun h => ?_, fun h => ⟨hp3, fun h1 => ?_, fun h1 => ⟨fun h2 => ?_, fun h2 => ⟨fun h3 => ?_, fun h3 => ⟨fun h4 => ?_, fun h4 => ?_⟩⟩⟩⟩⟩
    · have e : cntE a b c n = chk a b c := by simp [cntE, h]
      simp [cntLow, cntHigh, cntStr, e, h]
    all_goals
      have hr := chk_zero.1 h
      have hl := hr.1
      have hcb := ofC_bnd hr
      rw [size_eq' hr] at *
    · have e : cntE a b c n = 5 := by unfold cntE; rw [if_neg (by simp [h]), if_pos (by omega)]
      simp [cntLow, cntHigh, cntStr, e]
    all_goals
      have e1 : U.sub .i64 0 (ofC a b c) = -ofC a b c := by rw [U.sub64 (by unfold I64; omega)]; omega
      rw [e1] at h2
    · have e : cntE a b c n = 5 := by unfold cntE; rw [if_neg (by simp [h]), if_pos (by omega)]
      simp [cntLow, cntHigh, cntStr, e]
    all_goals
      have e : cntE a b c n = 0 := by unfold cntE; rw [if_neg (by simp [h]), if_neg (by omega)]
    · subst h3; simp [cntLow, cntHigh, cntStr, e]
    all_goals
      have hab : a ≤ b := Decidable.byContradiction fun h' => by have := empty_of (c := c) h'; omega
      obtain ⟨p1, p2, p3, p4, p5, p6, p7, p8, p9, p10⟩ := parts hr hab
      have hc5 : I64 (-c) := by unfold I64; omega
    · have e3 : U.add .i64 (ofC a b c) n = ofC a b c + n := U.add64 (by unfold I64; omega)
      have e4 : U.sub .i64 (ofC a b c) 1 = ofC a b c - 1 := U.sub64 (by unfold I64; omega)
      rw [e3, e4, nth_eq' hr hab (k := ofC a b c + n) (by omega) (by omega), nth_eq' hr hab (k := ofC a b c - 1) (by omega) (by omega)]
      have m0 := mulle (x := 0) (y := ofC a b c + n) p1 (by omega)
      have m1 := mulle (x := ofC a b c + n) (y := ofC a b c - 1) p1 (by omega)
      have m2 := mul0 (s := absI c) (k := -n - 1) p1
      have m3 : absI c * (ofC a b c - 1) = absI c * (ofC a b c + n) + absI c * (-n - 1) := by rw [← Int.mul_add]; congr 1; omega
      rw [Int.mul_zero] at m0
      simp only [cntLow, cntHigh, cntStr, e, ne_eq, not_true_eq_false, if_false, if_neg h3, cntFrom, cntTo, if_pos h4]
      generalize ofC a b c = C at *
      by_cases hc : c < 0
      · have hlt : U.lt c 0 = true := by rw [U.lt_eq]; simp [hc]
        have ec := absI_neg hc
        simp only [if_pos hc, hlt]
        generalize absI c = s at *
        refine ⟨hp3, hp3, hc5, fun _ _ => by unfold I64; omega, ?_⟩
        rw [show min (b - s * (C + n)) (b - s * (C - 1)) = b - s * (C - 1) by omega, show max (b - s * (C + n)) (b - s * (C - 1)) = b - s * (C + n) by omega]
        obtain ⟨q1, q2, q3⟩ := rn_dn (l := b - s * (C - 1)) (h := b - s * (C + n)) (s := s) (by omega)
        rw [q1, q2, q3]
        refine ⟨⟨rfl, rfl, ?_⟩, by simp⟩
        by_cases hn : n = -1
        · rw [if_pos (by omega), if_pos (by omega)]
        · rw [if_neg (by omega), if_neg (by omega)]; omega
      · have hlt : U.lt c 0 = false := by rw [U.lt_eq]; simp; omega
        have ec := absI_pos hc
        simp only [if_neg hc, hlt]
        generalize absI c = s at *
        refine ⟨hp3, hp3, hc5, fun _ g => absurd g hc, ?_⟩
        rw [show min (a + s * (C + n)) (a + s * (C - 1)) = a + s * (C + n) by omega, show max (a + s * (C + n)) (a + s * (C - 1)) = a + s * (C - 1) by omega]
        obtain ⟨q1, q2, q3⟩ := rn_up (l := a + s * (C + n)) (h := a + s * (C - 1)) (s := s) (by omega)
        rw [q1, q2, q3]
        refine ⟨⟨rfl, rfl, ?_⟩, by simp⟩
        by_cases hn : n = -1
        · rw [if_pos (by omega), if_pos (by omega)]
        · rw [if_neg (by omega), if_neg (by omega)]; omega
    · have e4 : U.sub .i64 n 1 = n - 1 := U.sub64 (by unfold I64; omega)
      rw [e4, nth_eq' hr hab (k := 0) (by omega) (by omega), nth_eq' hr hab (k := n - 1) (by omega) (by omega)]
      have m0 := mulle (x := 0) (y := n - 1) p1 (by omega)
      have m2 := mul0 (s := absI c) (k := n - 1) p1
      rw [Int.mul_zero] at m0
      simp only [cntLow, cntHigh, cntStr, e, ne_eq, not_true_eq_false, if_false, if_neg h3, cntFrom, cntTo, if_neg (show ¬ n < 0 by omega), Int.mul_zero]
      by_cases hc : c < 0
      · have hlt : U.lt c 0 = true := by rw [U.lt_eq]; simp [hc]
        have ec := absI_neg hc
        simp only [if_pos hc, hlt]
        generalize absI c = s at *
        refine ⟨hp3, hp3, hc5, fun _ _ => by unfold I64; omega, ?_⟩
        rw [show min (b - 0) (b - s * (n - 1)) = b - s * (n - 1) by omega, show max (b - 0) (b - s * (n - 1)) = b - 0 by omega]
        obtain ⟨q1, q2, q3⟩ := rn_dn (l := b - s * (n - 1)) (h := b - 0) (s := s) (by omega)
        rw [q1, q2, q3]
        refine ⟨⟨rfl, rfl, ?_⟩, by simp⟩
        by_cases hn : n = 1
        · rw [if_pos (by omega), if_pos (by omega)]
        · rw [if_neg (by omega), if_neg (by omega)]; omega
      · have hlt : U.lt c 0 = false := by rw [U.lt_eq]; simp; omega
        have ec := absI_pos hc
        simp only [if_neg hc, hlt]
        generalize absI c = s at *
        refine ⟨hp3, hp3, hc5, fun _ g => absurd g hc, ?_⟩
        rw [show min (a + 0) (a + s * (n - 1)) = a + 0 by omega, show max (a + 0) (a + s * (n - 1)) = a + s * (n - 1) by omega]
        obtain ⟨q1, q2, q3⟩ := rn_up (l := a + 0) (h := a + s * (n - 1)) (s := s) (by omega)
        rw [q1, q2, q3]
        refine ⟨⟨rfl, rfl, ?_⟩, by simp⟩
        by_cases hn : n = 1
        · rw [if_pos (by omega), if_pos (by omega)]
        · rw [if_neg (by omega), if_neg (by omega)]; omega
  · exact h.elim
end Go.RX.Span
