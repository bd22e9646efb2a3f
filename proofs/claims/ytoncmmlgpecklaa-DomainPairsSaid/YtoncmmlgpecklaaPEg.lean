/- Subtract of the reference: the walk. -/
import Derived.Test.YtoncmmlgpecklaaPEf
set_option linter.unusedVariables false
set_option linter.unusedSimpArgs false
set_option maxRecDepth 100000
namespace Go.RX.Span
open Go Go.RX
attribute [local irreducible] sx conB

theorem pc_rn {f s n c : Int} (hs : 1 ≤ s) (hn : 1 ≤ n) (h1 : -1000000 ≤ f) (h2 : f + s * (n - 1) ≤ 1000000) : (rnL f (f + s * (n - 1)) s (decide (c < 0)), rnH f (f + s * (n - 1)) s (decide (c < 0)), rnS f (f + s * (n - 1)) s (decide (c < 0)), ()) = pc f s n c := by
  have m0 := mulle (x := 0) (y := n - 1) hs (by omega)
  rw [Int.mul_zero] at m0
  have e0 : mvE f s n = 0 := by unfold mvE; rw [if_neg (by omega), if_pos (by omega)]
  obtain ⟨q1, q2, q3⟩ := rn_mv (c := c) hs hn e0 _ rfl
  rw [q1, q2, q3]
  rfl
theorem pc_self {a b c : Int} (h : Right a b c) (hab : a ≤ b) : pc (sA a b c) (sS a b c) (ofC a b c) c = (a, b, c, ()) := by
  obtain ⟨p1, p2, p3, p4, p5, p6, p7, p8, p9, p10⟩ := parts h hab
  obtain ⟨u1, u2⟩ := up_of h hab
  have hl := h.1
  have e1 : sA a b c = a := u1
  have e2 : sS a b c = absI c := u2
  unfold pc
  rw [e1, e2]
  have n1 : ¬ ofC a b c ≤ 0 := by omega
  have e0 : mvE a (absI c) (ofC a b c) = 0 := by unfold mvE; rw [if_neg n1, if_pos (by omega)]
  simp only [mvLow, mvHigh, mvStr, e0, if_neg n1, if_true]
  rw [p5]
  have hb : a + (b - a) = b := by omega
  rw [hb]
  by_cases hC : ofC a b c = 1
  · rw [if_pos hC]
    rw [hC, Int.sub_self, Int.mul_zero] at p5
    rw [p10 (by omega)]
    rfl
  · rw [if_neg hC]
    by_cases hc : c < 0
    · rw [if_pos hc, absI_neg hc, Int.neg_neg]; rfl
    · rw [if_neg hc, absI_pos hc]; rfl
theorem rn_yes {l h t : Int} {d : Bool} (hl : h < l) : isE (rnL l h t d) (rnH l h t d) (rnS l h t d) = true := by
  rw [isE_t]
  unfold rnL rnH rnS
  rw [if_pos (by omega), if_pos (by omega), if_pos (by omega)]
  exact ⟨rfl, rfl, rfl⟩
theorem rn_iff {l h t : Int} {d : Bool} : (isE (rnL l h t d) (rnH l h t d) (rnS l h t d) = true) ↔ h < l := by
  constructor
  · intro he
    rcases Int.lt_or_le h l with h' | h'
    · exact h'
    · rw [rn_not h'] at he; cases he
  · exact rn_yes
theorem rn_iff' {l h t : Int} {d : Bool} : (isE (rnL l h t d) (rnH l h t d) (rnS l h t d) = false) ↔ l ≤ h := by
  constructor
  · intro he
    rcases Int.lt_or_le h l with h' | h'
    · rw [rn_yes h'] at he; cases he
    · exact h'
  · exact rn_not
/-- The common range as a series. -/
theorem is_ser {a b c x y z : Int} (h : Right a b c) (h' : Right x y z) (hC : isC a b c x y z ≠ 0) : isL a b c x y z = isF a b c x y z ∧ isH a b c x y z = sbL a b c x y z ∧ (1 < isC a b c x y z → absI (isS a b c x y z) = isB a b c x y z) ∧ I64 (-isS a b c x y z) ∧ isE (isL a b c x y z) (isH a b c x y z) (isS a b c x y z) = false := by
  have hn : ¬ ckd a b c x y z ≠ 0 := by simp [ckd_zero h h']
  obtain ⟨c1, c2, c3, c4, c5⟩ := ((is_sw h h').1).resolve_left hC
  have m0 := mulle (x := 0) (y := isC a b c x y z - 1) c2 (by omega)
  rw [Int.mul_zero] at m0
  obtain ⟨q1, q2, q3, q4⟩ := nrm_like (f := isF a b c x y z) (s := isB a b c x y z) (C := isC a b c x y z) (c := c) c2
  have n1 : ¬ isC a b c x y z ≤ 0 := by omega
  have e0 : mvE (isF a b c x y z) (isB a b c x y z) (isC a b c x y z) = 0 := by unfold mvE; rw [if_neg n1, if_pos (by omega)]
  have e1 : isL a b c x y z = isF a b c x y z := by simp only [isL, if_neg hn]; rw [q2]; simp only [mvLow, e0, if_neg n1, if_true]
  have e2 : isH a b c x y z = sbL a b c x y z := by simp only [isH, if_neg hn]; rw [q3]; simp only [mvHigh, e0, if_neg n1, if_true]; rfl
  have e3 : isS a b c x y z = if isC a b c x y z = 1 then 1 else if c < 0 then -isB a b c x y z else isB a b c x y z := by simp only [isS, if_neg hn]; rw [q4]; simp only [mvStr, e0, if_neg n1, if_true]
  refine ⟨e1, e2, fun h1 => ?_, ?_, ?_⟩
  · rw [e3, if_neg (by omega)]
    by_cases hc : c < 0
    · rw [if_pos hc, absI_neg (by omega)]; omega
    · rw [if_neg hc, absI_pos (by omega)]
  · rw [e3]; unfold I64; split <;> (try split) <;> omega
  · rw [isE_f, e1, e2]
    unfold sbL
    omega
theorem right_of_c {c : Int} (h : I64 c) (h0 : -9223372036854775808 < c) : I64 (-c) := by unfold I64 at *; omega
set_option maxHeartbeats 4000000 in
theorem rSubtract_ok : ConOK P 162 c_Subtract := con_cl (allOKL mixed kt_ok l53_ok) 10 162 fun args r h => by
  unfold c_Subtract at h
  split at h
  · rename_i a b c x y z
    have hp := (T.is_ask h).1
    have h := (T.is_ask h).2
    obtain rfl := T.is_ret h
    rw [t_rSubtract]
    have ed : U.lt c 0 = decide (c < 0) := U.lt_eq c 0
    simp only [lk_eq, ed]
    refine T.all_mono (K := fun s => Cl s (sbR a b c x y z)) (fun s hs => hs) ?_
    refine ⟨hp, fun h => ?_, fun h => ?_⟩
    · have h : isEr a b c x y z ≠ 0 := U.ne_t.mp h
      by_cases hk : ckd a b c x y z ≠ 0
      · have e : isEr a b c x y z = ckd a b c x y z := by unfold isEr; rw [if_pos hk]
        rw [e]
        exact sbR_err hk
      · obtain ⟨r1, r2⟩ := ckd_right (show ckd a b c x y z = 0 by simpa using hk)
        exact absurd (is_set r1 r2).1 h
    have h : isEr a b c x y z = 0 := U.ne_f.mp h
    have hk0 : ckd a b c x y z = 0 := Classical.byContradiction fun hk => by
      have e : isEr a b c x y z = ckd a b c x y z := by unfold isEr; rw [if_pos hk]
      rw [e] at h
      exact hk h
    have h0 : ¬ ckd a b c x y z ≠ 0 := by simp [hk0]
    obtain ⟨r1, r2⟩ := ckd_right hk0
    have hsw := (is_sw r1 r2).1
    have hser := up_ser r1
    have hla := r1.1
    have rc := right_c r1
    by_cases hC : isC a b c x y z = 0
    · obtain ⟨z1, z2, z3⟩ := is_zero r1 r2 hC
      rw [z1, z2, z3]
      refine ⟨fun _ => ⟨fun he => ?_, fun he => ⟨by decide, ?_⟩⟩, fun h => absurd h (by decide)⟩
      · have hab := (isE_iff r1).1 he
        have e := (empty_of (c := c) hab).2.2
        exact ⟨cl_row' (by unfold sbN; rw [if_neg h0, if_pos hC, if_neg (by omega)]) (fun i hi => absurd hi (by omega)), cl_lit (by unfold sbE; rw [if_neg h0, if_pos hC]), rfl⟩
      · have hab : a ≤ b := Classical.byContradiction fun h => by rw [(isE_iff r1).2 h] at he; cases he
        have := (parts r1 hab).2.2.1
        exact sbR_whole h0 hC (by omega) ((cat_r (Nat.le_refl 0)).trans (pc_self r1 hab).symm)
    · obtain ⟨i1, i2, i3, i4, i5⟩ := is_ser r1 r2 hC
      obtain ⟨hab, hxy, eA, eS, s1, s2, eT, C1, C2, B1, B2, lo, hi, FL, k0, k1, k0n, k1n, k0b, k1b, eF, eb, eK0, eK1, hm⟩ := sb_facts r1 r2 hC
      have eL : sbL a b c x y z = isF a b c x y z + isB a b c x y z * (isC a b c x y z - 1) := rfl
      have p0 := mulle (s := absI c) (x := 0) (y := k0) s1 k0n
      have p1 := mulle (s := absI c) (x := 0) (y := k1) s1 k1n
      have pB := mulle (s := isB a b c x y z) (x := 0) (y := isC a b c x y z - 1) B1 (by omega)
      rw [Int.mul_zero] at p0 p1 pB
      have hs0 : absI c ≠ 0 := by omega
      have negc : I64 (-absI c) := by unfold I64; omega
      have negS := i4
      have m0 : absI c * (k0 - 1) = absI c * k0 - absI c := by rw [Int.mul_sub, Int.mul_one]
      have m1 : absI c * (k1 - 1) = absI c * k1 - absI c := by rw [Int.mul_sub, Int.mul_one]
      have eU0 : U.sub .i64 (isL a b c x y z) (absI c) = isL a b c x y z - absI c := U.sub64 (by unfold I64; omega)
      have eU1 : U.add .i64 (isH a b c x y z) (absI c) = isH a b c x y z + absI c := U.add64 (by unfold I64; omega)
      have hCC : isL a b c x y z < isH a b c x y z ↔ 1 < isC a b c x y z := by
        rw [i1, i2, eL]
        constructor
        · intro hlt
          rcases Int.lt_or_le 1 (isC a b c x y z) with h | h
          · exact h
          · rw [show isC a b c x y z - 1 = 0 by omega, Int.mul_zero] at hlt; omega
        · intro h1
          have := mulle (s := isB a b c x y z) (x := 1) (y := isC a b c x y z - 1) B1 (by omega)
          omega
      have hN1 : (0 < k1 → sbN1 a b c x y z = 1) ∧ (k1 ≤ 0 → sbN1 a b c x y z = 0) := by
        unfold sbN1
        rw [eT]
        constructor
        · intro hk
          have := mulle (s := absI c) (x := 1) (y := k1) s1 (by omega)
          rw [if_pos (by omega)]
        · intro hk
          obtain rfl : k1 = 0 := by omega
          rw [if_neg (by rw [Int.mul_zero] at eb; omega)]
      have hN0 : (0 < k0 → sbN0 a b c x y z = 1) ∧ (k0 ≤ 0 → sbN0 a b c x y z = 0) := by
        unfold sbN0
        rw [eA]
        constructor
        · intro hk
          have := mulle (s := absI c) (x := 1) (y := k0) s1 (by omega)
          rw [if_pos (by omega)]
        · intro hk
          obtain rfl : k0 = 0 := by omega
          rw [if_neg (by rw [Int.mul_zero] at eF; omega)]
      have hE1 : (isE (rnL (isH a b c x y z + absI c) b (absI c) (decide (c < 0))) (rnH (isH a b c x y z + absI c) b (absI c) (decide (c < 0))) (rnS (isH a b c x y z + absI c) b (absI c) (decide (c < 0))) = true → k1 ≤ 0) ∧
          (isE (rnL (isH a b c x y z + absI c) b (absI c) (decide (c < 0))) (rnH (isH a b c x y z + absI c) b (absI c) (decide (c < 0))) (rnS (isH a b c x y z + absI c) b (absI c) (decide (c < 0))) = false → 0 < k1) := by
        constructor
        · intro he
          have := rn_iff.1 he
          rcases Int.lt_or_le 0 k1 with hk | hk
          · have := mulle (s := absI c) (x := 1) (y := k1) s1 (by omega); omega
          · exact hk
        · intro he
          have := rn_iff'.1 he
          rcases Int.lt_or_le 0 k1 with hk | hk
          · exact hk
          · obtain rfl : k1 = 0 := by omega
            rw [Int.mul_zero] at eb; omega
      have hM0 : ¬ 1 < isC a b c x y z → sbM a b c x y z = 0 := fun h => by unfold sbM; rw [if_neg h]
      have hMM : 1 < isC a b c x y z → rM (absI c) (absI (isS a b c x y z)) = sbM a b c x y z := fun h => by
        unfold sbM rM; rw [if_pos h, i3 h, eS]
      have hMm : 1 < isC a b c x y z → ∃ m : Int, 1 ≤ m ∧ m ≤ 2000000 ∧ isB a b c x y z = absI c * m ∧ isB a b c x y z ≤ 2000000 ∧ (sbM a b c x y z : Int) = m - 1 ∧ U.quo .i64 (absI (isS a b c x y z)) (absI c) = m := fun h => by
        obtain ⟨m, q1, q2, q3, q4, q5⟩ := hm h
        have e : (isB a b c x y z).tdiv (absI c) = m := by rw [← eS]; exact q4
        refine ⟨m, q1, q2, q3, q5, ?_, ?_⟩
        · unfold sbM; rw [if_pos h, q4]; omega
        · rw [i3 h, U.quo64 (by rw [e]; unfold I64; omega), e]
      have hbig : 1 < isC a b c x y z → U.gt (U.quo .i64 (absI (isS a b c x y z)) (absI c)) 1002 = true → 1002 ≤ sbM a b c x y z := fun h1 hq => by
        obtain ⟨m, _, _, _, _, q5, q6⟩ := hMm h1
        rw [q6] at hq
        have := U.gt_t.mp hq
        omega
      have hsm : 1 < isC a b c x y z → U.gt (U.quo .i64 (absI (isS a b c x y z)) (absI c)) 1002 = false → sbM a b c x y z ≤ 1001 := fun h1 hq => by
        obtain ⟨m, _, _, _, _, q5, q6⟩ := hMm h1
        rw [q6] at hq
        have := U.gt_f.mp hq
        omega
      have hpre : ∀ n, n ≤ 1 → 1 < isC a b c x y z → U.gt (U.quo .i64 (absI (isS a b c x y z)) (absI c)) 1002 = false → PreR 0 (isL a b c x y z) (isH a b c x y z) (absI c) (absI (isS a b c x y z)) n := fun n hn h1 hq => by
        have hs := hsm h1 hq
        obtain ⟨m, q1, q2, q3, q4, _⟩ := hMm h1
        have hBD := mulle (s := isB a b c x y z) (x := 1) (y := isC a b c x y z - 1) B1 (by omega)
        have e := i3 h1
        refine ⟨rfl, s1, s2, by omega, by omega, by omega, ⟨m, by rw [e]; exact q3⟩, by omega, by omega, hn, by rw [hMM h1]; omega⟩
      have hIn : 1 < isC a b c x y z → ∀ i : Nat, i < sbM a b c x y z → rpc (isL a b c x y z) (isH a b c x y z) (absI c) (absI (isS a b c x y z)) (decide (c < 0)) i = sbIn a b c x y z i := fun h1 i hi => by
        obtain ⟨m, q1, q2, q3, q4, q5, q6⟩ := hMm h1
        have lt1 := mulle (s := absI c) (x := (i : Int) + 1) (y := m) s1 (by omega)
        have lt2 := mulle (s := absI c) (x := (i : Int) + 1 + 1) (y := m) s1 (by omega)
        have ge0 := mulle (s := absI c) (x := 1) (y := (i : Int) + 1) s1 (by omega)
        rw [Int.mul_add (absI c) ((i : Int) + 1) 1, Int.mul_one] at lt2
        rw [Int.mul_one] at ge0
        have hBD := mulle (s := isB a b c x y z) (x := 1) (y := isC a b c x y z - 1) B1 (by omega)
        have e2 : isB a b c x y z * (isC a b c x y z - 1 - 1) = isB a b c x y z * (isC a b c x y z - 1) - isB a b c x y z := by rw [Int.mul_sub (isB a b c x y z) (isC a b c x y z - 1) 1, Int.mul_one]
        have eup : upT (isL a b c x y z + absI c * ((i : Int) + 1)) (isH a b c x y z) (isB a b c x y z) = isF a b c x y z + absI c * ((i : Int) + 1) + isB a b c x y z * (isC a b c x y z - 1 - 1) := by
          unfold upT
          rw [i1, i2, if_neg (by omega)]
          have t1 := Int.tdiv_eq_ediv_of_nonneg (b := isB a b c x y z) (show 0 ≤ sbL a b c x y z - (isF a b c x y z + absI c * ((i : Int) + 1)) by omega)
          have t2 : (sbL a b c x y z - (isF a b c x y z + absI c * ((i : Int) + 1))) / isB a b c x y z = isC a b c x y z - 1 - 1 := by
            rw [show sbL a b c x y z - (isF a b c x y z + absI c * ((i : Int) + 1)) = (isB a b c x y z - absI c * ((i : Int) + 1)) + isB a b c x y z * (isC a b c x y z - 1 - 1) by omega, Int.add_mul_ediv_left _ _ (by omega), Int.ediv_eq_zero_of_lt (by omega) (by omega)]
            omega
          rw [t1, t2, Int.mul_comm (isC a b c x y z - 1 - 1)]
        unfold rpc sbIn
        rw [i3 h1, Int.mul_comm ((i : Int) + 1) (absI c), eup, i1, eS]
        exact pc_rn B1 (by omega) (by omega) (by omega)
      have hL1 : 0 < k1 → (rnL (isH a b c x y z + absI c) b (absI c) (decide (c < 0)), rnH (isH a b c x y z + absI c) b (absI c) (decide (c < 0)), rnS (isH a b c x y z + absI c) b (absI c) (decide (c < 0)), ()) = pc (sbL a b c x y z + absI c) (absI c) k1 c := fun hk => by
        rw [i2]
        have e : b = sbL a b c x y z + absI c + absI c * (k1 - 1) := by omega
        have := pc_rn (f := sbL a b c x y z + absI c) (s := absI c) (n := k1) (c := c) s1 (by omega) (by omega) (by omega)
        rw [← e] at this
        exact this
      have hL0 : 0 < k0 → (rnL a (isL a b c x y z - absI c) (absI c) (decide (c < 0)), rnH a (isL a b c x y z - absI c) (absI c) (decide (c < 0)), rnS a (isL a b c x y z - absI c) (absI c) (decide (c < 0)), ()) = pc a (absI c) k0 c := fun hk => by
        have e : isL a b c x y z - absI c = a + absI c * (k0 - 1) := by omega
        rw [e]
        exact pc_rn s1 (by omega) (by omega) (by omega)
      simp only [eU0, eU1, i5]
      refine ⟨fun h => (by cases h), fun _ => ⟨right_of_c (by unfold I64; omega) (by omega), fun _ _ => negc, fun he => ?_, fun he => ⟨by decide, ?_⟩⟩⟩
      · have hk : k0 ≤ 0 := by
          have := rn_iff.1 he
          rcases Int.lt_or_le 0 k0 with hk | hk
          · have := mulle (s := absI c) (x := 1) (y := k0) s1 (by omega); omega
          · exact hk
        have hN0' := hN0.2 hk
        have hR : ∀ (f : Nat → R3) (i : Nat), (∀ i, i < 0 → f i = sbF a b c x y z i) → 1 < isC a b c x y z → i < 0 + sbM a b c x y z → rpF (isL a b c x y z) (isH a b c x y z) (absI c) (absI (isS a b c x y z)) (decide (c < 0)) 0 f i = sbF a b c x y z i := fun f i hf h1 hi => by
          by_cases hlt : i < 0
          · exact (cat_l hlt).trans (hf i hlt)
          · refine (cat_r (by omega)).trans ((hIn h1 _ (by omega)).trans ?_)
            unfold sbF
            rw [if_neg hC, if_neg (by omega), if_pos (by omega), hN0']
        have hLa : ∀ i, 0 + sbM a b c x y z ≤ i → 0 < k1 → (rnL (isH a b c x y z + absI c) b (absI c) (decide (c < 0)), rnH (isH a b c x y z + absI c) b (absI c) (decide (c < 0)), rnS (isH a b c x y z + absI c) b (absI c) (decide (c < 0)), ()) = sbF a b c x y z i := fun i hi hk => by
          refine (hL1 hk).trans ?_
          unfold sbF
          rw [if_neg hC, if_neg (by omega), if_neg (by omega), eK1, eS]
        have hfp : ∀ i, i < 0 → ((fun _ => ((0 : Int), (0 : Int), (0 : Int), ()) : Nat → R3)) i = sbF a b c x y z i := fun i hi => by
          omega
        refine ⟨fun hlt => ⟨negS, hs0, fun hq => ?_, fun hq => ⟨⟨?_, (by first | trivial | rfl)⟩, fun _ _ => negc, fun he => ⟨fun g => ?_, fun g => ?_⟩, fun he => ⟨?_, fun g => ?_, fun g => ?_⟩⟩⟩, fun hlt => ⟨fun _ _ => negc, fun he => ⟨fun g => absurd (U.gt_t.mp g) (by decide), fun _ => ?_⟩, fun he => ⟨by decide, fun g => absurd (U.gt_t.mp g) (by decide), fun _ => ?_⟩⟩⟩
        · have h1 := hCC.1 (U.lt_t.mp hlt)
          exact sbR_big h0 hC (by have := hbig h1 hq; unfold sbAll; omega)
        · exact hpre 0 (by omega) (hCC.1 (U.lt_t.mp hlt)) hq
        · have h1 := hCC.1 (U.lt_t.mp hlt)
          have g' : (1000 : Int) < ((0 + rM (absI c) (absI (isS a b c x y z)) : Nat) : Int) := U.gt_t.mp g
          rw [hMM h1] at g'
          exact sbR_big h0 hC (by unfold sbAll; omega)
        · have h1 := hCC.1 (U.lt_t.mp hlt)
          have g' : ((0 + rM (absI c) (absI (isS a b c x y z)) : Nat) : Int) ≤ 1000 := U.gt_f.mp g
          rw [hMM h1] at g'
          have n1 := hN1.2 (hE1.1 he)
          refine sbR_ok h0 hC (by unfold sbAll; omega) (show 0 + rM _ _ = _ by rw [hMM h1]; unfold sbAll; omega) fun i hi => ?_
          have hi' : i < 0 + rM (absI c) (absI (isS a b c x y z)) := hi
          rw [hMM h1] at hi'
          exact hR _ i hfp h1 hi'
        · have h1 := hCC.1 (U.lt_t.mp hlt)
          show (0 + rM _ _ + 1) * 24 ≤ 140737488351232
          rw [hMM h1]
          have := hsm h1 hq
          omega
        · have h1 := hCC.1 (U.lt_t.mp hlt)
          have g' : (1000 : Int) < ((0 + rM (absI c) (absI (isS a b c x y z)) + 1 : Nat) : Int) := U.gt_t.mp g
          rw [hMM h1] at g'
          have n1 := hN1.1 (hE1.2 he)
          exact sbR_big h0 hC (by unfold sbAll; omega)
        · have h1 := hCC.1 (U.lt_t.mp hlt)
          have g' : ((0 + rM (absI c) (absI (isS a b c x y z)) + 1 : Nat) : Int) ≤ 1000 := U.gt_f.mp g
          rw [hMM h1] at g'
          have n1 := hN1.1 (hE1.2 he)
          refine sbR_ok h0 hC (by unfold sbAll; omega) (show 0 + rM _ _ + 1 = _ by rw [hMM h1]; unfold sbAll; omega) fun i hi => ?_
          have hi' : i < 0 + rM (absI c) (absI (isS a b c x y z)) + 1 := hi
          by_cases hl : i < 0 + rM (absI c) (absI (isS a b c x y z))
          · refine (cat_l hl).trans ?_
            rw [hMM h1] at hl
            exact hR _ i hfp h1 hl
          · refine (cat_r (show 0 + rM _ _ ≤ i by omega)).trans ?_
            rw [hMM h1] at hl
            exact hLa i (by omega) (hE1.2 he)
        · have h1 : ¬ 1 < isC a b c x y z := fun h => by have := hCC.2 h; have := U.lt_f.mp hlt; omega
          have hM := hM0 h1
          have n1 := hN1.2 (hE1.1 he)
          refine sbR_ok h0 hC (by unfold sbAll; omega) (show 0 = _ by unfold sbAll; omega) fun i hi => ?_
          exact hfp i hi
        · have h1 : ¬ 1 < isC a b c x y z := fun h => by have := hCC.2 h; have := U.lt_f.mp hlt; omega
          have hM := hM0 h1
          have n1 := hN1.1 (hE1.2 he)
          refine sbR_ok h0 hC (by unfold sbAll; omega) (show 0 + 1 = _ by unfold sbAll; omega) fun i hi => ?_
          have hi' : i < 0 + 1 := hi
          by_cases hl : i < 0
          · exact (cat_l hl).trans (hfp i hl)
          · refine (cat_r (show 0 ≤ i by omega)).trans (hLa i (by omega) (hE1.2 he))
      · have hk : 0 < k0 := by
          have := rn_iff'.1 he
          rcases Int.lt_or_le 0 k0 with hk | hk
          · exact hk
          · obtain rfl : k0 = 0 := by omega
            rw [Int.mul_zero] at eF; omega
        have hN0' := hN0.1 hk
        have hR : ∀ (f : Nat → R3) (i : Nat), (∀ i, i < 1 → f i = sbF a b c x y z i) → 1 < isC a b c x y z → i < 1 + sbM a b c x y z → rpF (isL a b c x y z) (isH a b c x y z) (absI c) (absI (isS a b c x y z)) (decide (c < 0)) 1 f i = sbF a b c x y z i := fun f i hf h1 hi => by
          by_cases hlt : i < 1
          · exact (cat_l hlt).trans (hf i hlt)
          · refine (cat_r (by omega)).trans ((hIn h1 _ (by omega)).trans ?_)
            unfold sbF
            rw [if_neg hC, if_neg (by omega), if_pos (by omega), hN0']
        have hLa : ∀ i, 1 + sbM a b c x y z ≤ i → 0 < k1 → (rnL (isH a b c x y z + absI c) b (absI c) (decide (c < 0)), rnH (isH a b c x y z + absI c) b (absI c) (decide (c < 0)), rnS (isH a b c x y z + absI c) b (absI c) (decide (c < 0)), ()) = sbF a b c x y z i := fun i hi hk => by
          refine (hL1 hk).trans ?_
          unfold sbF
          rw [if_neg hC, if_neg (by omega), if_neg (by omega), eK1, eS]
        have hfp : ∀ i, i < 1 → ((U.cat 0 (fun _ => ((0 : Int), (0 : Int), (0 : Int), ())) (fun _ => (rnL a (isL a b c x y z - absI c) (absI c) (decide (c < 0)), rnH a (isL a b c x y z - absI c) (absI c) (decide (c < 0)), rnS a (isL a b c x y z - absI c) (absI c) (decide (c < 0)), ())) : Nat → R3)) i = sbF a b c x y z i := fun i hi => by
          obtain rfl : i = 0 := by omega
          refine (cat_r (Nat.le_refl 0)).trans ((hL0 hk).trans ?_)
          unfold sbF
          rw [if_neg hC, if_pos (by omega), eK0, eA, eS]
        refine ⟨fun hlt => ⟨negS, hs0, fun hq => ?_, fun hq => ⟨⟨?_, (by first | trivial | rfl)⟩, fun _ _ => negc, fun he => ⟨fun g => ?_, fun g => ?_⟩, fun he => ⟨?_, fun g => ?_, fun g => ?_⟩⟩⟩, fun hlt => ⟨fun _ _ => negc, fun he => ⟨fun g => absurd (U.gt_t.mp g) (by decide), fun _ => ?_⟩, fun he => ⟨by decide, fun g => absurd (U.gt_t.mp g) (by decide), fun _ => ?_⟩⟩⟩
        · have h1 := hCC.1 (U.lt_t.mp hlt)
          exact sbR_big h0 hC (by have := hbig h1 hq; unfold sbAll; omega)
        · exact hpre 1 (by omega) (hCC.1 (U.lt_t.mp hlt)) hq
        · have h1 := hCC.1 (U.lt_t.mp hlt)
          have g' : (1000 : Int) < ((1 + rM (absI c) (absI (isS a b c x y z)) : Nat) : Int) := U.gt_t.mp g
          rw [hMM h1] at g'
          exact sbR_big h0 hC (by unfold sbAll; omega)
        · have h1 := hCC.1 (U.lt_t.mp hlt)
          have g' : ((1 + rM (absI c) (absI (isS a b c x y z)) : Nat) : Int) ≤ 1000 := U.gt_f.mp g
          rw [hMM h1] at g'
          have n1 := hN1.2 (hE1.1 he)
          refine sbR_ok h0 hC (by unfold sbAll; omega) (show 1 + rM _ _ = _ by rw [hMM h1]; unfold sbAll; omega) fun i hi => ?_
          have hi' : i < 1 + rM (absI c) (absI (isS a b c x y z)) := hi
          rw [hMM h1] at hi'
          exact hR _ i hfp h1 hi'
        · have h1 := hCC.1 (U.lt_t.mp hlt)
          show (1 + rM _ _ + 1) * 24 ≤ 140737488351232
          rw [hMM h1]
          have := hsm h1 hq
          omega
        · have h1 := hCC.1 (U.lt_t.mp hlt)
          have g' : (1000 : Int) < ((1 + rM (absI c) (absI (isS a b c x y z)) + 1 : Nat) : Int) := U.gt_t.mp g
          rw [hMM h1] at g'
          have n1 := hN1.1 (hE1.2 he)
          exact sbR_big h0 hC (by unfold sbAll; omega)
        · have h1 := hCC.1 (U.lt_t.mp hlt)
          have g' : ((1 + rM (absI c) (absI (isS a b c x y z)) + 1 : Nat) : Int) ≤ 1000 := U.gt_f.mp g
          rw [hMM h1] at g'
          have n1 := hN1.1 (hE1.2 he)
          refine sbR_ok h0 hC (by unfold sbAll; omega) (show 1 + rM _ _ + 1 = _ by rw [hMM h1]; unfold sbAll; omega) fun i hi => ?_
          have hi' : i < 1 + rM (absI c) (absI (isS a b c x y z)) + 1 := hi
          by_cases hl : i < 1 + rM (absI c) (absI (isS a b c x y z))
          · refine (cat_l hl).trans ?_
            rw [hMM h1] at hl
            exact hR _ i hfp h1 hl
          · refine (cat_r (show 1 + rM _ _ ≤ i by omega)).trans ?_
            rw [hMM h1] at hl
            exact hLa i (by omega) (hE1.2 he)
        · have h1 : ¬ 1 < isC a b c x y z := fun h => by have := hCC.2 h; have := U.lt_f.mp hlt; omega
          have hM := hM0 h1
          have n1 := hN1.2 (hE1.1 he)
          refine sbR_ok h0 hC (by unfold sbAll; omega) (show 1 = _ by unfold sbAll; omega) fun i hi => ?_
          exact hfp i hi
        · have h1 : ¬ 1 < isC a b c x y z := fun h => by have := hCC.2 h; have := U.lt_f.mp hlt; omega
          have hM := hM0 h1
          have n1 := hN1.1 (hE1.2 he)
          refine sbR_ok h0 hC (by unfold sbAll; omega) (show 1 + 1 = _ by unfold sbAll; omega) fun i hi => ?_
          have hi' : i < 1 + 1 := hi
          by_cases hl : i < 1
          · exact (cat_l hl).trans (hfp i hl)
          · refine (cat_r (show 1 ≤ i by omega)).trans (hLa i (by omega) (hE1.2 he))
  · exact h.elim
end Go.RX.Span

/- Domains: Subtract: plain. -/
set_option linter.unusedVariables false
set_option linter.unusedSimpArgs false
set_option maxRecDepth 100000
namespace Go.RX.Span
open Go Go.RX
attribute [local irreducible] sx conB

abbrev ssD : List Sh := [.sl [.int .i64, .int .i64, .int .i64], .int .i64, .int .i64, .int .i64]
abbrev DE := Els ssD
def mkD (n : Nat) (f : Nat → R3) (k s h : Int) : DE := ((n, f), k, s, h, ())
def szE (x : DE) : Int := szD x.1.1 x.1.2 x.2.1 x.2.2.1 x.2.2.2.1
/-- A list of domains. -/
abbrev DL := Nat × (Nat → DE)
def noD : DL := (0, fun _ => mkD 0 (fun _ => ((0 : Int), (0 : Int), (0 : Int), ())) 0 0 0)
noncomputable def push (q : DL) (x : DE) : DL := if 0 < szE x then (q.1 + 1, U.cat q.1 q.2 fun _ => x) else q
noncomputable def pushes (c : Nat → DE) (q : DL) : Nat → DL
  | 0 => q
  | j + 1 => push (pushes c q j) (c j)
section
variable (n : Nat) (f : Nat → R3) (k s h : Int) (m : Nat) (g : Nat → R3) (k' s' h' : Int)
def sb0N : Nat := sbN (rA (f 0)) (rB (f 0)) (rC (f 0)) (rA (g 0)) (rB (g 0)) (rC (g 0))
def sb0F : Nat → R3 := sbF (rA (f 0)) (rB (f 0)) (rC (f 0)) (rA (g 0)) (rB (g 0)) (rC (g 0))
def sb0E : Int := sbE (rA (f 0)) (rB (f 0)) (rC (f 0)) (rA (g 0)) (rB (g 0)) (rC (g 0))
def sb1N : Nat := sbN (rA (f 1)) (rB (f 1)) (rC (f 1)) (rA (g 1)) (rB (g 1)) (rC (g 1))
def sb1F : Nat → R3 := sbF (rA (f 1)) (rB (f 1)) (rC (f 1)) (rA (g 1)) (rB (g 1)) (rC (g 1))
def sb1E : Int := sbE (rA (f 1)) (rB (f 1)) (rC (f 1)) (rA (g 1)) (rB (g 1)) (rC (g 1))
def c0F (x : R3) : Nat → R3 := if n = 1 then fun _ => x else fun i => if i = 0 then x else f i
def cnd0 (x : R3) : DE := mkD n (c0F n f x) k s h
noncomputable def cnd1 (x y : R3) : DE := mkD 2 (ofList (ss := [.int .i64, .int .i64, .int .i64]) [x, y]) k s h
noncomputable def ds0 : DL := pushes (fun j => cnd0 n f k s h (sb0F f g j)) noD (sb0N f g)
noncomputable def ds1 : DL := if n = 1 then ds0 n f k s h g else pushes (fun j => cnd1 k s h (diF f g 0) (sb1F f g j)) (ds0 n f k s h g) (sb1N f g)
def dsE : Int := if boE n f k s h m g k' s' h' ≠ 0 then boE n f k s h m g k' s' h' else if szD n (diF f g) k s h = 0 then 0 else if sb0E f g ≠ 0 then sb0E f g else if n = 1 then 0 else sb1E f g
noncomputable def dsL : DL := if dsE n f k s h m g k' s' h' ≠ 0 then noD else if boE n f k s h m g k' s' h' ≠ 0 then noD else if szD n (diF f g) k s h = 0 then push noD (mkD n f k s h) else ds1 n f k s h g
end
noncomputable abbrev d14 : List (Nat × Con) := (160, c_Clone) :: (23, c_Subtract) :: (162, c_Subtract) :: (158, c_Intersect) :: d11
theorem d14_ok : ∀ p ∈ d14, ConOK P p.1 p.2 := by
  intro p hp
  simp only [d14, List.mem_cons] at hp
  rcases hp with rfl | rfl | rfl | rfl | hp
  · exact Clone_ok
  · exact Subtract_ok
  · exact rSubtract_ok
  · exact rIntersect_ok
  · exact d11_ok p (by simpa [d11] using hp)
end Go.RX.Span

/- Domains: Subtract's loops: the states. -/
set_option linter.unusedVariables false
set_option linter.unusedSimpArgs false
set_option maxRecDepth 100000
namespace Go.RX.Span
open Go Go.RX
attribute [local irreducible] sx conB

noncomputable abbrev Ed : Env := ⟨P, conOf d14, scall P (conOf d14) noLoops 10⟩
theorem Ed_ok : EnvOK Ed := envOK (allOK mixed d14_ok) 10
noncomputable abbrev dBlk (n : Nat) (f : Nat → R3) (k s h : Int) : Nat × Option Blk := (0, some (.cells [.row [.int .i64, .int .i64, .int .i64] n f, .lit (.int .i64 k), .lit (.int .i64 s), .lit (.int .i64 h)] 49))
noncomputable abbrev memD (n : Nat) (f : Nat → R3) (k s h : Int) (m : Nat) (g : Nat → R3) (k1 s1 h1 : Int) (n2 : Nat) (f2 : Nat → R3) (k2 s2 h2 : Int) (u : Bool) (c : Nat) (L : Nat → DE) : Mem :=
  [dBlk n f k s h, dBlk m g k1 s1 h1, dBlk n2 f2 k2 s2 h2, (0, some (.cells [.own u 4 c] 67)), (0, some (.row u c ssD L 49))]
noncomputable abbrev slD (N : Nat) (F : Nat → R3) (j : Int) : List SV := [.ptr 0 0, .ptr 1 0, .ptr 2 0, .ptr 3 0, .fn (.func 159) [] [.ptr 0 0, .ptr 3 0], .row [.int .i64, .int .i64, .int .i64] N F, .lit (.int .i64 (N : Int)), .lit (.int .i64 j)]
noncomputable abbrev slO : List SV := [.ptr 0 0, .ptr 1 0, .ptr 2 0, .ptr 3 0, .fn (.func 159) [] [.ptr 0 0, .ptr 3 0], .any, .any, .any]
theorem push_le (q : DL) (x : DE) : q.1 ≤ (push q x).1 ∧ (push q x).1 ≤ q.1 + 1 := by
  unfold push; split <;> simp
theorem pushes_le (c : Nat → DE) (q : DL) : ∀ j, q.1 ≤ (pushes c q j).1 ∧ (pushes c q j).1 ≤ q.1 + j
  | 0 => by simp [pushes]
  | j + 1 => by
    have h1 := pushes_le c q j
    have h2 := push_le (pushes c q j) (c j)
    simp only [pushes]; omega
def flg (u : Bool) (c c' : Nat) : Bool := u && decide (c' = c)
def noL : Nat → DE := noD.2
structure XDx where
  (n : Nat) (f : Nat → R3) (k s h : Int) (m : Nat) (g : Nat → R3) (k1 s1 h1 : Int) (n2 : Nat) (f2 : Nat → R3) (k2 s2 h2 : Int) (u : Bool) (c : Nat) (L : Nat → DE) (N : Nat) (F : Nat → R3) (j : Nat)
def Row64' (N : Nat) (F : Nat → R3) : Prop := Row64 N F
noncomputable def seAx (n : Nat) (f : Nat → R3) (k s h : Int) (c : Nat) (L : Nat → DE) (F : Nat → R3) (j : Nat) : DL := pushes (fun j => cnd0 n f k s h (F j)) (c, L) j
noncomputable def seBx (k s h : Int) (x : R3) (c : Nat) (L : Nat → DE) (F : Nat → R3) (j : Nat) : DL := pushes (fun j => cnd1 k s h x (F j)) (c, L) j
noncomputable def aNx (n : Nat) (f : Nat → R3) (k s h : Int) (c : Nat) (L : Nat → DE) (F : Nat → R3) (j : Nat) : Nat := (seAx n f k s h c L F j).1
noncomputable def aLx (n : Nat) (f : Nat → R3) (k s h : Int) (c : Nat) (L : Nat → DE) (F : Nat → R3) (j : Nat) : Nat → DE := (seAx n f k s h c L F j).2
noncomputable def aUx (n : Nat) (f : Nat → R3) (k s h : Int) (u : Bool) (c : Nat) (L : Nat → DE) (F : Nat → R3) (j : Nat) : Bool := flg u c (seAx n f k s h c L F j).1
noncomputable def bNx (k s h : Int) (x : R3) (c : Nat) (L : Nat → DE) (F : Nat → R3) (j : Nat) : Nat := (seBx k s h x c L F j).1
noncomputable def bLx (k s h : Int) (x : R3) (c : Nat) (L : Nat → DE) (F : Nat → R3) (j : Nat) : Nat → DE := (seBx k s h x c L F j).2
noncomputable def bUx (k s h : Int) (x : R3) (u : Bool) (c : Nat) (L : Nat → DE) (F : Nat → R3) (j : Nat) : Bool := flg u c (seBx k s h x c L F j).1
noncomputable def VAx (q : XDx) : Few := (slD q.N q.F (q.j : Int), memD q.n q.f q.k q.s q.h q.m q.g q.k1 q.s1 q.h1 q.n2 q.f2 q.k2 q.s2 q.h2 (aUx q.n q.f q.k q.s q.h q.u q.c q.L q.F q.j) (aNx q.n q.f q.k q.s q.h q.c q.L q.F q.j) (aLx q.n q.f q.k q.s q.h q.c q.L q.F q.j))
noncomputable def OAx (q : XDx) : Ex × Few := (.exit 0, (slO, memD q.n q.f q.k q.s q.h q.m q.g q.k1 q.s1 q.h1 q.n2 q.f2 q.k2 q.s2 q.h2 (aUx q.n q.f q.k q.s q.h q.u q.c q.L q.F q.N) (aNx q.n q.f q.k q.s q.h q.c q.L q.F q.N) (aLx q.n q.f q.k q.s q.h q.c q.L q.F q.N)))
noncomputable def VBx (q : XDx) : Few := (slD q.N q.F (q.j : Int), memD q.n q.f q.k q.s q.h q.m q.g q.k1 q.s1 q.h1 q.n2 q.f2 q.k2 q.s2 q.h2 (bUx q.k q.s q.h (q.f2 0) q.u q.c q.L q.F q.j) (bNx q.k q.s q.h (q.f2 0) q.c q.L q.F q.j) (bLx q.k q.s q.h (q.f2 0) q.c q.L q.F q.j))
noncomputable def OBx (q : XDx) : Ex × Few := (.exit 2, (slO, memD q.n q.f q.k q.s q.h q.m q.g q.k1 q.s1 q.h1 q.n2 q.f2 q.k2 q.s2 q.h2 (bUx q.k q.s q.h (q.f2 0) q.u q.c q.L q.F q.N) (bNx q.k q.s q.h (q.f2 0) q.c q.L q.F q.N) (bLx q.k q.s q.h (q.f2 0) q.c q.L q.F q.N)))
def PreAx (n0 : Nat) (n : Nat) (f : Nat → R3) (c N : Nat) (F : Nat → R3) : Prop := n0 = 0 ∧ (n = 1 ∨ n = 2) ∧ Row64 n f ∧ c ≤ 2000 ∧ N ≤ 1001 ∧ Row64' N F
def PreBx (n0 : Nat) (n2 : Nat) (f2 : Nat → R3) (c N : Nat) (F : Nat → R3) : Prop := n0 = 0 ∧ n2 = 2 ∧ Row64 n2 f2 ∧ c ≤ 2000 ∧ N ≤ 1001 ∧ Row64' N F
def PhiAx (n0 : Nat) (q : XDx) : Prop := PreAx n0 q.n q.f q.c q.N q.F ∧ q.j ≤ q.N
def PhiBx (n0 : Nat) (q : XDx) : Prop := PreBx n0 q.n2 q.f2 q.c q.N q.F ∧ q.j ≤ q.N
noncomputable def oAx (n : Nat) (f : Nat → R3) (k s h : Int) (m : Nat) (g : Nat → R3) (k1 s1 h1 : Int) (n2 : Nat) (f2 : Nat → R3) (k2 s2 h2 : Int) (u : Bool) (c : Nat) (L : Nat → DE) (N : Nat) (F : Nat → R3) : Ex × Few :=
  (.exit 0, (slO, memD n f k s h m g k1 s1 h1 n2 f2 k2 s2 h2 (lk aUx n f k s h u c L F N) (lk aNx n f k s h c L F N) (lk aLx n f k s h c L F N)))
noncomputable def oBx (n : Nat) (f : Nat → R3) (k s h : Int) (m : Nat) (g : Nat → R3) (k1 s1 h1 : Int) (n2 : Nat) (f2 : Nat → R3) (k2 s2 h2 : Int) (u : Bool) (c : Nat) (L : Nat → DE) (N : Nat) (F : Nat → R3) : Ex × Few :=
  (.exit 2, (slO, memD n f k s h m g k1 s1 h1 n2 f2 k2 s2 h2 (lk bUx k s h (f2 0) u c L F N) (lk bNx k s h (f2 0) c L F N) (lk bLx k s h (f2 0) c L F N)))
noncomputable def gAx : Nat → Few → T (Ex × Few)
  | n0, ([.ptr 0 0, .ptr 1 0, .ptr 2 0, .ptr 3 0, .fn (.func 159) [] [.ptr 0 0, .ptr 3 0], .row [.int .i64, .int .i64, .int .i64] N F, .lit (.int .i64 l), .ki .i64 (.ofNat 0)],
      [(_, some (.cells [.row [.int .i64, .int .i64, .int .i64] n f, .lit (.int .i64 k), .lit (.int .i64 s), .lit (.int .i64 h)] 49)), (_, some (.cells [.row [.int .i64, .int .i64, .int .i64] m g, .lit (.int .i64 k1), .lit (.int .i64 s1), .lit (.int .i64 h1)] 49)), (_, some (.cells [.row [.int .i64, .int .i64, .int .i64] n2 f2, .lit (.int .i64 k2), .lit (.int .i64 s2), .lit (.int .i64 h2)] 49)), (_, some (.cells [.lit (.slice none 0 0)] 67))]) =>
    .ask (PreAx n0 n f 0 N F ∧ l = Int.ofNat N) (.ret (oAx n f k s h m g k1 s1 h1 n2 f2 k2 s2 h2 true 0 (lk noL) N F))
  | _, _ => .stuck 1
noncomputable def gBy (n0 N : Nat) (F : Nat → R3) (l : Int) : Mem → T (Ex × Few)
  | [(_, some (.cells [.row [.int .i64, .int .i64, .int .i64] n f, .lit (.int .i64 k), .lit (.int .i64 s), .lit (.int .i64 h)] t0)), (_, some (.cells [.row [.int .i64, .int .i64, .int .i64] m g, .lit (.int .i64 k1), .lit (.int .i64 s1), .lit (.int .i64 h1)] t1)), (_, some (.cells [.row [.int .i64, .int .i64, .int .i64] n2 f2, .lit (.int .i64 k2), .lit (.int .i64 s2), .lit (.int .i64 h2)] t2)), (_, some (.cells [.own u 4 c] t3)), (_, some (.row u' c' ss L t4))] =>
    if e : eqShs ss ssD = true then
      .ask (PreBx n0 n2 f2 c N F ∧ l = Int.ofNat N ∧ u' = u ∧ c' = c ∧ t0 = 49 ∧ t1 = 49 ∧ t2 = 49 ∧ t3 = 67 ∧ t4 = 49) (.ret (oBx n f k s h m g k1 s1 h1 n2 f2 k2 s2 h2 u c (castEls e L) N F))
    else .stuck 3
  | _ => .stuck 2
noncomputable def gBx : Nat → Few → T (Ex × Few) := fun n0 σ =>
  match σ.1 with
  | [.ptr 0 0, .ptr 1 0, .ptr 2 0, .ptr 3 0, .fn (.func 159) [] [.ptr 0 0, .ptr 3 0], .row [.int .i64, .int .i64, .int .i64] N F, .lit (.int .i64 l), .ki .i64 (.ofNat 0)] => gBy n0 N F l σ.2
  | _ => .stuck 1
noncomputable abbrev lDS : List (Nat × Loops) := [(78, [(13, .sum (few 100 [2,3,6,8,9,49,50,51] gAx)), (23, .sum (few 100 [2,3,6,8,9,84,85,86] gBx))])]
/-- Size looks at no more than the length's ranges. -/
theorem szD_congr {n : Nat} {f g : Nat → R3} {k s h : Int} (hn : n = 1 ∨ n = 2) (hf : ∀ i, i < n → f i = g i) : szD n f k s h = szD n g k s h := by
  rcases hn with rfl | rfl
  · have h0 := hf 0 (by omega)
    simp [szD, chD, colD, h0]
  · have h0 := hf 0 (by omega)
    have h1 := hf 1 (by omega)
    simp [szD, chD, colD, h0, h1]
theorem seAx_yes {n : Nat} {f : Nat → R3} {k s h : Int} {c : Nat} {L : Nat → DE} {F : Nat → R3} {j : Nat} (hp : 0 < szE (cnd0 n f k s h (F j))) : seAx n f k s h c L F (j + 1) = ((seAx n f k s h c L F j).1 + 1, U.cat (seAx n f k s h c L F j).1 (seAx n f k s h c L F j).2 fun _ => cnd0 n f k s h (F j)) := by
  unfold seAx; simp only [pushes]; unfold push; rw [if_pos hp]
theorem seAx_no {n : Nat} {f : Nat → R3} {k s h : Int} {c : Nat} {L : Nat → DE} {F : Nat → R3} {j : Nat} (hp : ¬ 0 < szE (cnd0 n f k s h (F j))) : seAx n f k s h c L F (j + 1) = seAx n f k s h c L F j := by
  unfold seAx; simp only [pushes]; unfold push; rw [if_neg hp]
theorem seBx_yes {k s h : Int} {x : R3} {c : Nat} {L : Nat → DE} {F : Nat → R3} {j : Nat} (hp : 0 < szE (cnd1 k s h x (F j))) : seBx k s h x c L F (j + 1) = ((seBx k s h x c L F j).1 + 1, U.cat (seBx k s h x c L F j).1 (seBx k s h x c L F j).2 fun _ => cnd1 k s h x (F j)) := by
  unfold seBx; simp only [pushes]; unfold push; rw [if_pos hp]
theorem seBx_no {k s h : Int} {x : R3} {c : Nat} {L : Nat → DE} {F : Nat → R3} {j : Nat} (hp : ¬ 0 < szE (cnd1 k s h x (F j))) : seBx k s h x c L F (j + 1) = seBx k s h x c L F j := by
  unfold seBx; simp only [pushes]; unfold push; rw [if_neg hp]
theorem seAx_le (n : Nat) (f : Nat → R3) (k s h : Int) (c : Nat) (L : Nat → DE) (F : Nat → R3) (j : Nat) : c ≤ (seAx n f k s h c L F j).1 ∧ (seAx n f k s h c L F j).1 ≤ c + j := pushes_le _ (c, L) j
theorem seBx_le (k s h : Int) (x : R3) (c : Nat) (L : Nat → DE) (F : Nat → R3) (j : Nat) : c ≤ (seBx k s h x c L F j).1 ∧ (seBx k s h x c L F j).1 ≤ c + j := pushes_le _ (c, L) j
theorem flg_f {u : Bool} {c c' : Nat} (h : c < c') : flg u c c' = false := by
  unfold flg; rw [decide_eq_false (by omega), Bool.and_false]
end Go.RX.Span

/- Domains: Subtract of the program: the walk. -/
set_option linter.unusedVariables false
set_option linter.unusedSimpArgs false
set_option maxRecDepth 100000
namespace Go.RX.Span
open Go Go.RX
attribute [local irreducible] sx conB

--%R ofList\s+\[ => ofList (ss := [.int .i64, .int .i64, .int .i64]) [
--%R ↑n ≤ ↑n => (n : Int) ≤ (n : Int)
set_option maxRecDepth 100000 in
theorem t_DS13 (n0 : Nat) (n : Nat) (f : Nat → R3) (k s h : Int) (m : Nat) (g : Nat → R3) (k1 s1 h1 : Int) (n2 : Nat) (f2 : Nat → R3) (k2 s2 h2 : Int) (u : Bool) (c : Nat) (L : Nat → DE) (N : Nat) (F : Nat → R3) (j : Int) : (sx Ed [] n0 (loopOf P 78 13) (mkS 100 [2,3,6,8,9,49,50,51] (slD N F j), memD n f k s h m g k1 s1 h1 n2 f2 k2 s2 h2 u c L)).bind (proj 100 [2,3,6,8,9,49,50,51]) =
    T.br (U.lt j (Int.ofNat N)) (.ask ((0 : Int) ≤ j ∧ j < ↑N) (.ask ((0 : Int) ≤ (1 : Int) ∧ (1 : Int) ≤ ↑n ∧ (n : Int) ≤ (n : Int)) (.br (U.isz (U.nsub n (U.toNat (1 : Int)))) (.ask
      ((0 : Nat) < (1 : Nat) ∧ (1 : Nat) ≤ (10000 : Nat)) (.ask (Row64 (1 : Nat) (ofList (ss := [.int .i64, .int .i64, .int .i64]) [((F (U.toNat j)).1, (F (U.toNat j)).2.1, (F (U.toNat
      j)).2.2.1, ())].reverse)) (.br (U.gt (lk szD (nat_lit 1) (fun x => ((F (U.toNat j)).1, (F (U.toNat j)).2.1, (F (U.toNat j)).2.2.1, PUnit.unit)) k s h) (0 : Int)) (.ask ((c + (1 :
      Nat)) * nat_lit 48 ≤ nat_lit 140737488351232) (.ret (Ex.normal, [SV.ptr (nat_lit 0) (nat_lit 0), SV.ptr (nat_lit 1) (nat_lit 0), SV.ptr (nat_lit 2) (nat_lit 0), SV.ptr (nat_lit 3)
      (nat_lit 0), SV.fn (Fn.func (nat_lit 159)) [] [SV.ptr (nat_lit 0) (nat_lit 0), SV.ptr (nat_lit 3) (nat_lit 0)], .row [.int .i64, .int .i64, .int .i64] N F, .lit (.int .i64
      (Int.ofNat N)), .lit (.int .i64 (U.add .i64 j (1 : Int)))], [(nat_lit 0, some (Blk.cells [.row [.int .i64, .int .i64, .int .i64] n f, .lit (.int .i64 k), .lit (.int .i64 s), .lit
      (.int .i64 h)] (nat_lit 49))), (nat_lit 0, some (Blk.cells [.row [.int .i64, .int .i64, .int .i64] m g, .lit (.int .i64 k1), .lit (.int .i64 s1), .lit (.int .i64 h1)] (nat_lit
      49))), (nat_lit 0, some (Blk.cells [.row [.int .i64, .int .i64, .int .i64] n2 f2, .lit (.int .i64 k2), .lit (.int .i64 s2), .lit (.int .i64 h2)] (nat_lit 49))), (nat_lit 1, some
      (Blk.cells [SV.own false (nat_lit 9) (c.add (nat_lit 1))] (nat_lit 67))), (nat_lit 1, none), (nat_lit 1, some (Blk.cells [.lit (.int .i64 (F (U.toNat j)).1), .lit (.int .i64 (F
      (U.toNat j)).2.1), .lit (.int .i64 (F (U.toNat j)).2.2.1)] (nat_lit 23))), (nat_lit 1, none), (nat_lit 0, some (Blk.cells [.row [.int .i64, .int .i64, .int .i64] (nat_lit 1) fun x
      => ((F (U.toNat j)).1, (F (U.toNat j)).2.1, (F (U.toNat j)).2.2.1, PUnit.unit), .lit (.int .i64 k), .lit (.int .i64 s), .lit (.int .i64 h)] (nat_lit 49))), (nat_lit 0, some
      (Blk.cells [.row [.int .i64, .int .i64, .int .i64] (nat_lit 1) fun x => ((F (U.toNat j)).1, (F (U.toNat j)).2.1, (F (U.toNat j)).2.2.1, PUnit.unit), .lit (.int .i64 k), .lit (.int
      .i64 s), .lit (.int .i64 h)] (nat_lit 49))), (nat_lit 0, some (Blk.row false (c.add (nat_lit 1)) [.sl [.int .i64, .int .i64, .int .i64], .int .i64, .int .i64, .int .i64] (U.cat c L
      fun x => ((nat_lit 1, fun x => ((F (U.toNat j)).1, (F (U.toNat j)).2.1, (F (U.toNat j)).2.2.1, PUnit.unit)), k, s, h, PUnit.unit)) (nat_lit 49)))]))) (.ret (Ex.normal, [SV.ptr
      (nat_lit 0) (nat_lit 0), SV.ptr (nat_lit 1) (nat_lit 0), SV.ptr (nat_lit 2) (nat_lit 0), SV.ptr (nat_lit 3) (nat_lit 0), SV.fn (Fn.func (nat_lit 159)) [] [SV.ptr (nat_lit 0)
      (nat_lit 0), SV.ptr (nat_lit 3) (nat_lit 0)], .row [.int .i64, .int .i64, .int .i64] N F, .lit (.int .i64 (Int.ofNat N)), .lit (.int .i64 (U.add .i64 j (1 : Int)))], [(nat_lit 0,
      some (Blk.cells [.row [.int .i64, .int .i64, .int .i64] n f, .lit (.int .i64 k), .lit (.int .i64 s), .lit (.int .i64 h)] (nat_lit 49))), (nat_lit 0, some (Blk.cells [.row [.int
      .i64, .int .i64, .int .i64] m g, .lit (.int .i64 k1), .lit (.int .i64 s1), .lit (.int .i64 h1)] (nat_lit 49))), (nat_lit 0, some (Blk.cells [.row [.int .i64, .int .i64, .int .i64]
      n2 f2, .lit (.int .i64 k2), .lit (.int .i64 s2), .lit (.int .i64 h2)] (nat_lit 49))), (nat_lit 0, some (Blk.cells [SV.own u (nat_lit 4) c] (nat_lit 67))), (nat_lit 0, some (Blk.row
      u c [.sl [.int .i64, .int .i64, .int .i64], .int .i64, .int .i64, .int .i64] L (nat_lit 49))), (nat_lit 1, some (Blk.cells [.lit (.int .i64 (F (U.toNat j)).1), .lit (.int .i64 (F
      (U.toNat j)).2.1), .lit (.int .i64 (F (U.toNat j)).2.2.1)] (nat_lit 23))), (nat_lit 1, none), (nat_lit 0, some (Blk.cells [.row [.int .i64, .int .i64, .int .i64] (nat_lit 1) fun x
      => ((F (U.toNat j)).1, (F (U.toNat j)).2.1, (F (U.toNat j)).2.2.1, PUnit.unit), .lit (.int .i64 k), .lit (.int .i64 s), .lit (.int .i64 h)] (nat_lit 49)))]))))) (.ask ((0 : Nat) <
      U.nsub n (U.toNat (1 : Int)) ∧ ((1 : Nat) + U.nsub n (U.toNat (1 : Int))) * nat_lit 24 ≤ nat_lit 140737488351232) (.ask ((0 : Nat) < (1 : Nat) + U.nsub n (U.toNat (1 : Int)) ∧ (1 :
      Nat) + U.nsub n (U.toNat (1 : Int)) ≤ (10000 : Nat)) (.ask (Row64 ((1 : Nat) + U.nsub n (U.toNat (1 : Int))) (U.cat (1 : Nat) (ofList (ss := [.int .i64, .int .i64, .int .i64]) [((F
      (U.toNat j)).1, (F (U.toNat j)).2.1, (F (U.toNat j)).2.2.1, ())].reverse) (castEls rfl (cutF (some (SV.ki .i64 1)) f (1 : Int))))) (.br (U.gt (lk szD (nat_lit 1 + U.nsub n (U.toNat
      (1 : Int))) (U.cat (nat_lit 1) (fun x => ((F (U.toNat j)).1, (F (U.toNat j)).2.1, (F (U.toNat j)).2.2.1, PUnit.unit)) fun i => f (i + U.toNat (1 : Int))) k s h) (0 : Int)) (.ask ((c
      + (1 : Nat)) * nat_lit 48 ≤ nat_lit 140737488351232) (.ret (Ex.normal, [SV.ptr (nat_lit 0) (nat_lit 0), SV.ptr (nat_lit 1) (nat_lit 0), SV.ptr (nat_lit 2) (nat_lit 0), SV.ptr
      (nat_lit 3) (nat_lit 0), SV.fn (Fn.func (nat_lit 159)) [] [SV.ptr (nat_lit 0) (nat_lit 0), SV.ptr (nat_lit 3) (nat_lit 0)], .row [.int .i64, .int .i64, .int .i64] N F, .lit (.int
      .i64 (Int.ofNat N)), .lit (.int .i64 (U.add .i64 j (1 : Int)))], [(nat_lit 0, some (Blk.cells [.row [.int .i64, .int .i64, .int .i64] n f, .lit (.int .i64 k), .lit (.int .i64 s),
      .lit (.int .i64 h)] (nat_lit 49))), (nat_lit 0, some (Blk.cells [.row [.int .i64, .int .i64, .int .i64] m g, .lit (.int .i64 k1), .lit (.int .i64 s1), .lit (.int .i64 h1)] (nat_lit
      49))), (nat_lit 0, some (Blk.cells [.row [.int .i64, .int .i64, .int .i64] n2 f2, .lit (.int .i64 k2), .lit (.int .i64 s2), .lit (.int .i64 h2)] (nat_lit 49))), (nat_lit 1, some
      (Blk.cells [SV.own false (nat_lit 10) (c.add (nat_lit 1))] (nat_lit 67))), (nat_lit 1, none), (nat_lit 1, some (Blk.cells [.lit (.int .i64 (F (U.toNat j)).1), .lit (.int .i64 (F
      (U.toNat j)).2.1), .lit (.int .i64 (F (U.toNat j)).2.2.1)] (nat_lit 23))), (nat_lit 0, some (Blk.cells [.lit (.int .i64 (F (U.toNat j)).1), .lit (.int .i64 (F (U.toNat j)).2.1),
      .lit (.int .i64 (F (U.toNat j)).2.2.1)] (nat_lit 23))), (nat_lit 1, none), (nat_lit 0, some (Blk.cells [.row [.int .i64, .int .i64, .int .i64] (nat_lit 1 + U.nsub n (U.toNat (1 :
      Int))) (U.cat (nat_lit 1) (fun x => ((F (U.toNat j)).1, (F (U.toNat j)).2.1, (F (U.toNat j)).2.2.1, PUnit.unit)) fun i => f (i + U.toNat (1 : Int))), .lit (.int .i64 k), .lit (.int
      .i64 s), .lit (.int .i64 h)] (nat_lit 49))), (nat_lit 0, some (Blk.cells [.row [.int .i64, .int .i64, .int .i64] (nat_lit 1 + U.nsub n (U.toNat (1 : Int))) (U.cat (nat_lit 1) (fun x
      => ((F (U.toNat j)).1, (F (U.toNat j)).2.1, (F (U.toNat j)).2.2.1, PUnit.unit)) fun i => f (i + U.toNat (1 : Int))), .lit (.int .i64 k), .lit (.int .i64 s), .lit (.int .i64 h)]
      (nat_lit 49))), (nat_lit 0, some (Blk.row false (c.add (nat_lit 1)) [.sl [.int .i64, .int .i64, .int .i64], .int .i64, .int .i64, .int .i64] (U.cat c L fun x => ((nat_lit 1 + U.nsub
      n (U.toNat (1 : Int)), U.cat (nat_lit 1) (fun x => ((F (U.toNat j)).1, (F (U.toNat j)).2.1, (F (U.toNat j)).2.2.1, PUnit.unit)) fun i => f (i + U.toNat (1 : Int))), k, s, h,
      PUnit.unit)) (nat_lit 49)))]))) (.ret (Ex.normal, [SV.ptr (nat_lit 0) (nat_lit 0), SV.ptr (nat_lit 1) (nat_lit 0), SV.ptr (nat_lit 2) (nat_lit 0), SV.ptr (nat_lit 3) (nat_lit 0),
      SV.fn (Fn.func (nat_lit 159)) [] [SV.ptr (nat_lit 0) (nat_lit 0), SV.ptr (nat_lit 3) (nat_lit 0)], .row [.int .i64, .int .i64, .int .i64] N F, .lit (.int .i64 (Int.ofNat N)), .lit
      (.int .i64 (U.add .i64 j (1 : Int)))], [(nat_lit 0, some (Blk.cells [.row [.int .i64, .int .i64, .int .i64] n f, .lit (.int .i64 k), .lit (.int .i64 s), .lit (.int .i64 h)] (nat_lit
      49))), (nat_lit 0, some (Blk.cells [.row [.int .i64, .int .i64, .int .i64] m g, .lit (.int .i64 k1), .lit (.int .i64 s1), .lit (.int .i64 h1)] (nat_lit 49))), (nat_lit 0, some
      (Blk.cells [.row [.int .i64, .int .i64, .int .i64] n2 f2, .lit (.int .i64 k2), .lit (.int .i64 s2), .lit (.int .i64 h2)] (nat_lit 49))), (nat_lit 0, some (Blk.cells [SV.own u
      (nat_lit 4) c] (nat_lit 67))), (nat_lit 0, some (Blk.row u c [.sl [.int .i64, .int .i64, .int .i64], .int .i64, .int .i64, .int .i64] L (nat_lit 49))), (nat_lit 1, some (Blk.cells
      [.lit (.int .i64 (F (U.toNat j)).1), .lit (.int .i64 (F (U.toNat j)).2.1), .lit (.int .i64 (F (U.toNat j)).2.2.1)] (nat_lit 23))), (nat_lit 0, some (Blk.cells [.lit (.int .i64 (F
      (U.toNat j)).1), .lit (.int .i64 (F (U.toNat j)).2.1), .lit (.int .i64 (F (U.toNat j)).2.2.1)] (nat_lit 23))), (nat_lit 1, none), (nat_lit 0, some (Blk.cells [.row [.int .i64, .int
      .i64, .int .i64] (nat_lit 1 + U.nsub n (U.toNat (1 : Int))) (U.cat (nat_lit 1) (fun x => ((F (U.toNat j)).1, (F (U.toNat j)).2.1, (F (U.toNat j)).2.2.1, PUnit.unit)) fun i => f (i +
      U.toNat (1 : Int))), .lit (.int .i64 k), .lit (.int .i64 s), .lit (.int .i64 h)] (nat_lit 49)))]))))))))) (.ret (Ex.exit (nat_lit 0), [SV.ptr (nat_lit 0) (nat_lit 0), SV.ptr
      (nat_lit 1) (nat_lit 0), SV.ptr (nat_lit 2) (nat_lit 0), SV.ptr (nat_lit 3) (nat_lit 0), SV.fn (Fn.func (nat_lit 159)) [] [SV.ptr (nat_lit 0) (nat_lit 0), SV.ptr (nat_lit 3)
      (nat_lit 0)], .row [.int .i64, .int .i64, .int .i64] N F, .lit (.int .i64 (Int.ofNat N)), .lit (.int .i64 j)], [(nat_lit 0, some (Blk.cells [.row [.int .i64, .int .i64, .int .i64] n
      f, .lit (.int .i64 k), .lit (.int .i64 s), .lit (.int .i64 h)] (nat_lit 49))), (nat_lit 0, some (Blk.cells [.row [.int .i64, .int .i64, .int .i64] m g, .lit (.int .i64 k1), .lit
      (.int .i64 s1), .lit (.int .i64 h1)] (nat_lit 49))), (nat_lit 0, some (Blk.cells [.row [.int .i64, .int .i64, .int .i64] n2 f2, .lit (.int .i64 k2), .lit (.int .i64 s2), .lit (.int
      .i64 h2)] (nat_lit 49))), (nat_lit 0, some (Blk.cells [SV.own u (nat_lit 4) c] (nat_lit 67))), (nat_lit 0, some (Blk.row u c [.sl [.int .i64, .int .i64, .int .i64], .int .i64, .int
      .i64, .int .i64] L (nat_lit 49)))])) := by kernel_rfl
set_option maxRecDepth 100000 in
theorem t_DS23 (n0 : Nat) (n : Nat) (f : Nat → R3) (k s h : Int) (m : Nat) (g : Nat → R3) (k1 s1 h1 : Int) (n2 : Nat) (f2 : Nat → R3) (k2 s2 h2 : Int) (u : Bool) (c : Nat) (L : Nat → DE) (N : Nat) (F : Nat → R3) (j : Int) : (sx Ed [] n0 (loopOf P 78 23) (mkS 100 [2,3,6,8,9,84,85,86] (slD N F j), memD n f k s h m g k1 s1 h1 n2 f2 k2 s2 h2 u c L)).bind (proj 100 [2,3,6,8,9,84,85,86]) =
    T.br (U.lt j (Int.ofNat N)) (.ask ((0 : Int) ≤ j ∧ j < ↑N) (.ask ((0 : Int) ≤ (0 : Int) ∧ (0 : Int) < ↑n2) (.ask ((0 : Nat) < (2 : Nat) ∧ (2 : Nat) ≤ (10000 : Nat)) (.ask (Row64 (2
      : Nat) (ofList (ss := [.int .i64, .int .i64, .int .i64]) [((F (U.toNat j)).1, (F (U.toNat j)).2.1, (F (U.toNat j)).2.2.1, ()), ((f2 (U.toNat (0 : Int))).1, (f2 (U.toNat (0 :
      Int))).2.1, (f2 (U.toNat (0 : Int))).2.2.1, ())].reverse)) (.br (U.gt (lk szD (nat_lit 2) (ofList (ss := [.int .i64, .int .i64, .int .i64]) [((F (U.toNat j)).1, (F (U.toNat j)).2.1,
      (F (U.toNat j)).2.2.1, ()), ((f2 (U.toNat (0 : Int))).1, (f2 (U.toNat (0 : Int))).2.1, (f2 (U.toNat (0 : Int))).2.2.1, ())].reverse) k s h) (0 : Int)) (.ask ((c + (1 : Nat)) *
      nat_lit 48 ≤ nat_lit 140737488351232) (.ret (Ex.normal, [SV.ptr (nat_lit 0) (nat_lit 0), SV.ptr (nat_lit 1) (nat_lit 0), SV.ptr (nat_lit 2) (nat_lit 0), SV.ptr (nat_lit 3) (nat_lit
      0), SV.fn (Fn.func (nat_lit 159)) [] [SV.ptr (nat_lit 0) (nat_lit 0), SV.ptr (nat_lit 3) (nat_lit 0)], .row [.int .i64, .int .i64, .int .i64] N F, .lit (.int .i64 (Int.ofNat N)),
      .lit (.int .i64 (U.add .i64 j (1 : Int)))], [(nat_lit 0, some (Blk.cells [.row [.int .i64, .int .i64, .int .i64] n f, .lit (.int .i64 k), .lit (.int .i64 s), .lit (.int .i64 h)]
      (nat_lit 49))), (nat_lit 0, some (Blk.cells [.row [.int .i64, .int .i64, .int .i64] m g, .lit (.int .i64 k1), .lit (.int .i64 s1), .lit (.int .i64 h1)] (nat_lit 49))), (nat_lit 0,
      some (Blk.cells [.row [.int .i64, .int .i64, .int .i64] n2 f2, .lit (.int .i64 k2), .lit (.int .i64 s2), .lit (.int .i64 h2)] (nat_lit 49))), (nat_lit 1, some (Blk.cells [SV.own
      false (nat_lit 9) (c.add (nat_lit 1))] (nat_lit 67))), (nat_lit 1, none), (nat_lit 1, some (Blk.cells [.lit (.int .i64 (F (U.toNat j)).1), .lit (.int .i64 (F (U.toNat j)).2.1), .lit
      (.int .i64 (F (U.toNat j)).2.2.1)] (nat_lit 23))), (nat_lit 1, none), (nat_lit 0, some (Blk.cells [.row [.int .i64, .int .i64, .int .i64] (nat_lit 2) (ofList (ss := [.int .i64, .int
      .i64, .int .i64]) [((F (U.toNat j)).1, (F (U.toNat j)).2.1, (F (U.toNat j)).2.2.1, ()), ((f2 (U.toNat (0 : Int))).1, (f2 (U.toNat (0 : Int))).2.1, (f2 (U.toNat (0 : Int))).2.2.1,
      ())].reverse), .lit (.int .i64 k), .lit (.int .i64 s), .lit (.int .i64 h)] (nat_lit 49))), (nat_lit 0, some (Blk.cells [.row [.int .i64, .int .i64, .int .i64] (nat_lit 2) (ofList
      (ss := [.int .i64, .int .i64, .int .i64]) [((F (U.toNat j)).1, (F (U.toNat j)).2.1, (F (U.toNat j)).2.2.1, ()), ((f2 (U.toNat (0 : Int))).1, (f2 (U.toNat (0 : Int))).2.1, (f2
      (U.toNat (0 : Int))).2.2.1, ())].reverse), .lit (.int .i64 k), .lit (.int .i64 s), .lit (.int .i64 h)] (nat_lit 49))), (nat_lit 0, some (Blk.row false (c.add (nat_lit 1)) [.sl [.int
      .i64, .int .i64, .int .i64], .int .i64, .int .i64, .int .i64] (U.cat c L fun x => ((nat_lit 2, castEls rfl (ofList (ss := [.int .i64, .int .i64, .int .i64]) [((F (U.toNat j)).1, (F
      (U.toNat j)).2.1, (F (U.toNat j)).2.2.1, ()), ((f2 (U.toNat (0 : Int))).1, (f2 (U.toNat (0 : Int))).2.1, (f2 (U.toNat (0 : Int))).2.2.1, ())].reverse)), k, s, h, PUnit.unit))
      (nat_lit 49)))]))) (.ret (Ex.normal, [SV.ptr (nat_lit 0) (nat_lit 0), SV.ptr (nat_lit 1) (nat_lit 0), SV.ptr (nat_lit 2) (nat_lit 0), SV.ptr (nat_lit 3) (nat_lit 0), SV.fn (Fn.func
      (nat_lit 159)) [] [SV.ptr (nat_lit 0) (nat_lit 0), SV.ptr (nat_lit 3) (nat_lit 0)], .row [.int .i64, .int .i64, .int .i64] N F, .lit (.int .i64 (Int.ofNat N)), .lit (.int .i64
      (U.add .i64 j (1 : Int)))], [(nat_lit 0, some (Blk.cells [.row [.int .i64, .int .i64, .int .i64] n f, .lit (.int .i64 k), .lit (.int .i64 s), .lit (.int .i64 h)] (nat_lit 49))),
      (nat_lit 0, some (Blk.cells [.row [.int .i64, .int .i64, .int .i64] m g, .lit (.int .i64 k1), .lit (.int .i64 s1), .lit (.int .i64 h1)] (nat_lit 49))), (nat_lit 0, some (Blk.cells
      [.row [.int .i64, .int .i64, .int .i64] n2 f2, .lit (.int .i64 k2), .lit (.int .i64 s2), .lit (.int .i64 h2)] (nat_lit 49))), (nat_lit 0, some (Blk.cells [SV.own u (nat_lit 4) c]
      (nat_lit 67))), (nat_lit 0, some (Blk.row u c [.sl [.int .i64, .int .i64, .int .i64], .int .i64, .int .i64, .int .i64] L (nat_lit 49))), (nat_lit 1, some (Blk.cells [.lit (.int .i64
      (F (U.toNat j)).1), .lit (.int .i64 (F (U.toNat j)).2.1), .lit (.int .i64 (F (U.toNat j)).2.2.1)] (nat_lit 23))), (nat_lit 1, none), (nat_lit 0, some (Blk.cells [.row [.int .i64,
      .int .i64, .int .i64] (nat_lit 2) (ofList (ss := [.int .i64, .int .i64, .int .i64]) [((F (U.toNat j)).1, (F (U.toNat j)).2.1, (F (U.toNat j)).2.2.1, ()), ((f2 (U.toNat (0 :
      Int))).1, (f2 (U.toNat (0 : Int))).2.1, (f2 (U.toNat (0 : Int))).2.2.1, ())].reverse), .lit (.int .i64 k), .lit (.int .i64 s), .lit (.int .i64 h)] (nat_lit 49)))]))))))) (.ret
      (Ex.exit (nat_lit 2), [SV.ptr (nat_lit 0) (nat_lit 0), SV.ptr (nat_lit 1) (nat_lit 0), SV.ptr (nat_lit 2) (nat_lit 0), SV.ptr (nat_lit 3) (nat_lit 0), SV.fn (Fn.func (nat_lit 159))
      [] [SV.ptr (nat_lit 0) (nat_lit 0), SV.ptr (nat_lit 3) (nat_lit 0)], .row [.int .i64, .int .i64, .int .i64] N F, .lit (.int .i64 (Int.ofNat N)), .lit (.int .i64 j)], [(nat_lit 0,
      some (Blk.cells [.row [.int .i64, .int .i64, .int .i64] n f, .lit (.int .i64 k), .lit (.int .i64 s), .lit (.int .i64 h)] (nat_lit 49))), (nat_lit 0, some (Blk.cells [.row [.int
      .i64, .int .i64, .int .i64] m g, .lit (.int .i64 k1), .lit (.int .i64 s1), .lit (.int .i64 h1)] (nat_lit 49))), (nat_lit 0, some (Blk.cells [.row [.int .i64, .int .i64, .int .i64]
      n2 f2, .lit (.int .i64 k2), .lit (.int .i64 s2), .lit (.int .i64 h2)] (nat_lit 49))), (nat_lit 0, some (Blk.cells [SV.own u (nat_lit 4) c] (nat_lit 67))), (nat_lit 0, some (Blk.row
      u c [.sl [.int .i64, .int .i64, .int .i64], .int .i64, .int .i64, .int .i64] L (nat_lit 49)))])) := by kernel_rfl
theorem isz11 : U.isz (U.nsub 1 1) = true := by rw [U.isz_eq, U.nsub_eq]; rfl
theorem isz21 : U.isz (U.nsub 2 1) = false := by rw [U.isz_eq, U.nsub_eq]; rfl
theorem tnj (j : Nat) : U.toNat (j : Int) = j := tn j
theorem rowS {n : Nat} {f g : Nat → R3} (h : ∀ i, i < n → f i = g i) : sameRow n f g := sameR h
theorem rowL {n : Nat} {f g : Nat → DE} (h : ∀ i, i < n → f i = g i) : sameRow n f g := ⟨eqShs_refl _, fun i hi => h i hi⟩
theorem addj {j : Nat} (h : j < 100000) : U.add .i64 (j : Int) 1 = ((j + 1 : Nat) : Int) := by rw [U.add64 (by unfold I64; omega)]; omega
theorem row1_64 {x : R3} (h : I64 (rA x) ∧ I64 (rB x) ∧ I64 (rC x)) (f : Nat → R3) (hf : f 0 = x) : Row64 1 f := fun i hi => by
  obtain rfl : i = 0 := by omega
  rw [hf]; exact h
theorem row2_64 {x y : R3} (h : I64 (rA x) ∧ I64 (rB x) ∧ I64 (rC x)) (h' : I64 (rA y) ∧ I64 (rB y) ∧ I64 (rC y)) (f : Nat → R3) (hf : f 0 = x) (hf' : f 1 = y) : Row64 2 f := fun i hi => by
  rcases (show i = 0 ∨ i = 1 by omega) with rfl | rfl
  · rw [hf]; exact h
  · rw [hf']; exact h'
theorem c0F_2 {f : Nat → R3} {x : R3} : U.cat 1 (fun _ => x) (fun i => f (i + 1)) = c0F 2 f x := funext fun i => by
  rw [U.cat_eq]
  unfold c0F
  rw [if_neg (show ¬ (2 : Nat) = 1 by omega)]
  by_cases h : i = 0
  · subst h; rfl
  · rw [if_neg (by omega), if_neg h, show i - 1 + 1 = i by omega]
set_option maxHeartbeats 1000000 in
theorem roundAx (n0 : Nat) (q : XDx) (hq : PhiAx n0 q) : ((sx Ed [] n0 (loopOf P 78 13) (mkS 100 [2,3,6,8,9,49,50,51] (VAx q).1, (VAx q).2)).bind (proj 100 [2,3,6,8,9,49,50,51])).All fun r => match r.1 with
      | .normal => ∃ q', PhiAx n0 q' ∧ q'.N - q'.j < q.N - q.j ∧ Wk 100 [2,3,6,8,9,49,50,51] n0 r.2 (VAx q') ∧ ∀ o, o = OAx q' → o = OAx q
      | e => ∃ s, (e, s) = OAx q ∧ Wk 100 [2,3,6,8,9,49,50,51] n0 r.2 s := by
  obtain ⟨n, f, k, s, h, m, g, k1, s1, h1, n2, f2, k2, s2, h2, u, c, L, N, F, j⟩ := q
  obtain ⟨⟨h0, hn, hf, hc, hN, hF⟩, hj⟩ := hq
  simp only [] at h0 hn hf hc hN hF hj
  subst h0
  show ((sx Ed [] 0 (loopOf P 78 13) (mkS 100 [2,3,6,8,9,49,50,51] (slD N F (j : Int)), memD n f k s h m g k1 s1 h1 n2 f2 k2 s2 h2 (aUx n f k s h u c L F j) (aNx n f k s h c L F j) (aLx n f k s h c L F j))).bind (proj 100 [2,3,6,8,9,49,50,51])).All _
  rw [t_DS13]
  have hle := seAx_le n f k s h c L F j
  have e2 := addj (j := j) (by omega)
  have hno : ¬ 0 < szE (cnd0 n f k s h (F j)) → VAx ⟨n, f, k, s, h, m, g, k1, s1, h1, n2, f2, k2, s2, h2, u, c, L, N, F, j + 1⟩ = (slD N F ((j + 1 : Nat) : Int), memD n f k s h m g k1 s1 h1 n2 f2 k2 s2 h2 (aUx n f k s h u c L F j) (aNx n f k s h c L F j) (aLx n f k s h c L F j)) := fun hp => by
    simp only [VAx, aUx, aNx, aLx, seAx_no hp]
  have hyes : 0 < szE (cnd0 n f k s h (F j)) → VAx ⟨n, f, k, s, h, m, g, k1, s1, h1, n2, f2, k2, s2, h2, u, c, L, N, F, j + 1⟩ = (slD N F ((j + 1 : Nat) : Int), memD n f k s h m g k1 s1 h1 n2 f2 k2 s2 h2 false (aNx n f k s h c L F j + 1) (U.cat (aNx n f k s h c L F j) (aLx n f k s h c L F j) fun _ => cnd0 n f k s h (F j))) := fun hp => by
    simp only [VAx, aUx, aNx, aLx, seAx_yes hp, flg_f (show c < (seAx n f k s h c L F j).1 + 1 by omega)]
  have hcN : aNx n f k s h c L F j ≤ c + j := hle.2
  simp only [tn1, tnj, e2]
  by_cases hlt : j < N
  · have hFj := hF j hlt
    refine ⟨fun _ => ⟨by omega, ⟨by omega, by omega, by omega⟩, fun hz => ⟨⟨by omega, by omega⟩, row1_64 hFj _ rfl, fun hs => ⟨by omega, ?_⟩, fun hs => ?_⟩, fun hz => ?_⟩, fun h => absurd (U.lt_f.mp h) (by simp only [Int.ofNat_eq_natCast]; omega)⟩
    · rcases hn with rfl | rfl
      · have hp : 0 < szE (cnd0 1 f k s h (F j)) := by
          have hs := U.gt_t.mp hs
          rw [lk_eq] at hs
          exact hs
        refine ⟨⟨1, f, k, s, h, m, g, k1, s1, h1, n2, f2, k2, s2, h2, u, c, L, N, F, j + 1⟩, ⟨⟨rfl, .inl rfl, hf, hc, hN, hF⟩, by simp only []; omega⟩, by simp only []; omega, ?_, fun o ho => ho⟩
        rw [hyes hp]
        exact wk_of [some 0, some 1, some 2, some 3, some 9] rfl (Nat.zero_le _) (fun b hb => by omega) ⟨⟨rfl, rfl⟩, ⟨rfl, rfl⟩, ⟨rfl, rfl⟩, ⟨rfl, rfl⟩, ⟨rfl, trivial, ⟨rfl, rfl⟩, ⟨rfl, rfl⟩, trivial⟩, ⟨rfl, rowS fun _ _ => rfl⟩, rfl, rfl, trivial⟩
          ⟨⟨rfl, ⟨rfl, rowS fun _ _ => rfl⟩, rfl, rfl, rfl, trivial⟩, ⟨rfl, ⟨rfl, rowS fun _ _ => rfl⟩, rfl, rfl, rfl, trivial⟩, ⟨rfl, ⟨rfl, rowS fun _ _ => rfl⟩, rfl, rfl, rfl, trivial⟩, ⟨rfl, ⟨rfl, rfl, rfl⟩, trivial⟩, ⟨rfl, rfl, rfl, rowL fun i hi => rfl⟩, trivial⟩
      · rw [isz21] at hz; cases hz
    · rcases hn with rfl | rfl
      · have hp : ¬ 0 < szE (cnd0 1 f k s h (F j)) := fun hp => by
          have hs := U.gt_f.mp hs
          rw [lk_eq] at hs
          exact absurd hs (Int.not_le.2 hp)
        refine ⟨⟨1, f, k, s, h, m, g, k1, s1, h1, n2, f2, k2, s2, h2, u, c, L, N, F, j + 1⟩, ⟨⟨rfl, .inl rfl, hf, hc, hN, hF⟩, by simp only []; omega⟩, by simp only []; omega, ?_, fun o ho => ho⟩
        rw [hno hp]
        exact wk_of [some 0, some 1, some 2, some 3, some 4] rfl (Nat.zero_le _) (fun b hb => by omega) ⟨⟨rfl, rfl⟩, ⟨rfl, rfl⟩, ⟨rfl, rfl⟩, ⟨rfl, rfl⟩, ⟨rfl, trivial, ⟨rfl, rfl⟩, ⟨rfl, rfl⟩, trivial⟩, ⟨rfl, rowS fun _ _ => rfl⟩, rfl, rfl, trivial⟩
          ⟨⟨rfl, ⟨rfl, rowS fun _ _ => rfl⟩, rfl, rfl, rfl, trivial⟩, ⟨rfl, ⟨rfl, rowS fun _ _ => rfl⟩, rfl, rfl, rfl, trivial⟩, ⟨rfl, ⟨rfl, rowS fun _ _ => rfl⟩, rfl, rfl, rfl, trivial⟩, ⟨rfl, ⟨rfl, rfl, rfl⟩, trivial⟩, ⟨rfl, rfl, rfl, rowL fun i hi => rfl⟩, trivial⟩
      · rw [isz21] at hz; cases hz
    · rcases hn with rfl | rfl
      · rw [isz11] at hz; cases hz
      · have ec : U.cat 1 (fun _ => F j) (fun i => f (i + 1)) = c0F 2 f (F j) := c0F_2
        have e3 : U.nsub 2 1 = 1 := by rw [U.nsub_eq]
        have f0 : c0F 2 f (F j) 0 = F j := rfl
        have f1 : c0F 2 f (F j) 1 = f 1 := rfl
        refine ⟨⟨by omega, by omega⟩, ⟨by omega, by omega⟩, ?_, fun hs => ⟨by omega, ?_⟩, fun hs => ?_⟩
        · rw [e3]
          exact row2_64 hFj (hf 1 (by omega)) _ ((U.cat_eq _ _ _ _).trans rfl) ((U.cat_eq _ _ _ _).trans ((if_neg (by omega)).trans (congrFun (cutF_some (.ki .i64 1) f 1) (1 - 1))))
        · have hp : 0 < szE (cnd0 2 f k s h (F j)) := by
            have hs := U.gt_t.mp hs
            rw [e3, lk_eq] at hs
            erw [ec] at hs
            exact hs
          refine ⟨⟨2, f, k, s, h, m, g, k1, s1, h1, n2, f2, k2, s2, h2, u, c, L, N, F, j + 1⟩, ⟨⟨rfl, .inr rfl, hf, hc, hN, hF⟩, by simp only []; omega⟩, by simp only []; omega, ?_, fun o ho => ho⟩
          rw [hyes hp]
          refine wk_of [some 0, some 1, some 2, some 3, some 10] rfl (Nat.zero_le _) (fun b hb => by omega) ⟨⟨rfl, rfl⟩, ⟨rfl, rfl⟩, ⟨rfl, rfl⟩, ⟨rfl, rfl⟩, ⟨rfl, trivial, ⟨rfl, rfl⟩, ⟨rfl, rfl⟩, trivial⟩, ⟨rfl, rowS fun _ _ => rfl⟩, rfl, rfl, trivial⟩
            ⟨⟨rfl, ⟨rfl, rowS fun _ _ => rfl⟩, rfl, rfl, rfl, trivial⟩, ⟨rfl, ⟨rfl, rowS fun _ _ => rfl⟩, rfl, rfl, rfl, trivial⟩, ⟨rfl, ⟨rfl, rowS fun _ _ => rfl⟩, rfl, rfl, rfl, trivial⟩, ⟨rfl, ⟨rfl, rfl, rfl⟩, trivial⟩, ⟨rfl, rfl, rfl, rowL fun i hi => ?_⟩, trivial⟩
          rw [e3]
          erw [ec]
          rfl
        · have hp : ¬ 0 < szE (cnd0 2 f k s h (F j)) := fun hp => by
            have hs := U.gt_f.mp hs
            rw [e3, lk_eq] at hs
            erw [ec] at hs
            exact absurd hs (Int.not_le.2 hp)
          refine ⟨⟨2, f, k, s, h, m, g, k1, s1, h1, n2, f2, k2, s2, h2, u, c, L, N, F, j + 1⟩, ⟨⟨rfl, .inr rfl, hf, hc, hN, hF⟩, by simp only []; omega⟩, by simp only []; omega, ?_, fun o ho => ho⟩
          rw [hno hp]
          exact wk_of [some 0, some 1, some 2, some 3, some 4] rfl (Nat.zero_le _) (fun b hb => by omega) ⟨⟨rfl, rfl⟩, ⟨rfl, rfl⟩, ⟨rfl, rfl⟩, ⟨rfl, rfl⟩, ⟨rfl, trivial, ⟨rfl, rfl⟩, ⟨rfl, rfl⟩, trivial⟩, ⟨rfl, rowS fun _ _ => rfl⟩, rfl, rfl, trivial⟩
            ⟨⟨rfl, ⟨rfl, rowS fun _ _ => rfl⟩, rfl, rfl, rfl, trivial⟩, ⟨rfl, ⟨rfl, rowS fun _ _ => rfl⟩, rfl, rfl, rfl, trivial⟩, ⟨rfl, ⟨rfl, rowS fun _ _ => rfl⟩, rfl, rfl, rfl, trivial⟩, ⟨rfl, ⟨rfl, rfl, rfl⟩, trivial⟩, ⟨rfl, rfl, rfl, rowL fun i hi => rfl⟩, trivial⟩
  · obtain rfl : j = N := by omega
    refine ⟨fun h => absurd (U.lt_t.mp h) (by simp only [Int.ofNat_eq_natCast]; omega), fun _ => ⟨_, rfl, ?_⟩⟩
    exact wk_of [some 0, some 1, some 2, some 3, some 4] rfl (Nat.zero_le _) (fun b hb => by omega) ⟨⟨rfl, rfl⟩, ⟨rfl, rfl⟩, ⟨rfl, rfl⟩, ⟨rfl, rfl⟩, ⟨rfl, trivial, ⟨rfl, rfl⟩, ⟨rfl, rfl⟩, trivial⟩, trivial, trivial, trivial, trivial⟩
      ⟨⟨rfl, ⟨rfl, rowS fun _ _ => rfl⟩, rfl, rfl, rfl, trivial⟩, ⟨rfl, ⟨rfl, rowS fun _ _ => rfl⟩, rfl, rfl, rfl, trivial⟩, ⟨rfl, ⟨rfl, rowS fun _ _ => rfl⟩, rfl, rfl, rfl, trivial⟩, ⟨rfl, ⟨rfl, rfl, rfl⟩, trivial⟩, ⟨rfl, rfl, rfl, rowL fun i hi => rfl⟩, trivial⟩
set_option maxHeartbeats 1000000 in
theorem roundBx (n0 : Nat) (q : XDx) (hq : PhiBx n0 q) : ((sx Ed [] n0 (loopOf P 78 23) (mkS 100 [2,3,6,8,9,84,85,86] (VBx q).1, (VBx q).2)).bind (proj 100 [2,3,6,8,9,84,85,86])).All fun r => match r.1 with
      | .normal => ∃ q', PhiBx n0 q' ∧ q'.N - q'.j < q.N - q.j ∧ Wk 100 [2,3,6,8,9,84,85,86] n0 r.2 (VBx q') ∧ ∀ o, o = OBx q' → o = OBx q
      | e => ∃ s, (e, s) = OBx q ∧ Wk 100 [2,3,6,8,9,84,85,86] n0 r.2 s := by
  obtain ⟨n, f, k, s, h, m, g, k1, s1, h1, n2, f2, k2, s2, h2, u, c, L, N, F, j⟩ := q
  obtain ⟨⟨h0, hn, hf, hc, hN, hF⟩, hj⟩ := hq
  simp only [] at h0 hn hf hc hN hF hj
  subst h0; subst hn
  show ((sx Ed [] 0 (loopOf P 78 23) (mkS 100 [2,3,6,8,9,84,85,86] (slD N F (j : Int)), memD n f k s h m g k1 s1 h1 2 f2 k2 s2 h2 (bUx k s h (f2 0) u c L F j) (bNx k s h (f2 0) c L F j) (bLx k s h (f2 0) c L F j))).bind (proj 100 [2,3,6,8,9,84,85,86])).All _
  rw [t_DS23]
  have hle := seBx_le k s h (f2 0) c L F j
  have e2 := addj (j := j) (by omega)
  have hno : ¬ 0 < szE (cnd1 k s h (f2 0) (F j)) → VBx ⟨n, f, k, s, h, m, g, k1, s1, h1, 2, f2, k2, s2, h2, u, c, L, N, F, j + 1⟩ = (slD N F ((j + 1 : Nat) : Int), memD n f k s h m g k1 s1 h1 2 f2 k2 s2 h2 (bUx k s h (f2 0) u c L F j) (bNx k s h (f2 0) c L F j) (bLx k s h (f2 0) c L F j)) := fun hp => by
    simp only [VBx, bUx, bNx, bLx, seBx_no hp]
  have hyes : 0 < szE (cnd1 k s h (f2 0) (F j)) → VBx ⟨n, f, k, s, h, m, g, k1, s1, h1, 2, f2, k2, s2, h2, u, c, L, N, F, j + 1⟩ = (slD N F ((j + 1 : Nat) : Int), memD n f k s h m g k1 s1 h1 2 f2 k2 s2 h2 false (bNx k s h (f2 0) c L F j + 1) (U.cat (bNx k s h (f2 0) c L F j) (bLx k s h (f2 0) c L F j) fun _ => cnd1 k s h (f2 0) (F j))) := fun hp => by
    simp only [VBx, bUx, bNx, bLx, seBx_yes hp, flg_f (show c < (seBx k s h (f2 0) c L F j).1 + 1 by omega)]
  have hcN : bNx k s h (f2 0) c L F j ≤ c + j := hle.2
  simp only [tn1, tn0, tnj, e2]
  by_cases hlt : j < N
  · have hFj := hF j hlt
    refine ⟨fun _ => ⟨by omega, ⟨by omega, by omega⟩, ⟨by omega, by omega⟩, row2_64 (hf 0 (by omega)) hFj _ rfl rfl, fun hs => ⟨by omega, ?_⟩, fun hs => ?_⟩, fun h => absurd (U.lt_f.mp h) (by simp only [Int.ofNat_eq_natCast]; omega)⟩
    · have hp : 0 < szE (cnd1 k s h (f2 0) (F j)) := by
        have hs := U.gt_t.mp hs
        rw [lk_eq] at hs
        exact hs
      refine ⟨⟨n, f, k, s, h, m, g, k1, s1, h1, 2, f2, k2, s2, h2, u, c, L, N, F, j + 1⟩, ⟨⟨rfl, rfl, hf, hc, hN, hF⟩, by simp only []; omega⟩, by simp only []; omega, ?_, fun o ho => ho⟩
      rw [hyes hp]
      exact wk_of [some 0, some 1, some 2, some 3, some 9] rfl (Nat.zero_le _) (fun b hb => by omega) ⟨⟨rfl, rfl⟩, ⟨rfl, rfl⟩, ⟨rfl, rfl⟩, ⟨rfl, rfl⟩, ⟨rfl, trivial, ⟨rfl, rfl⟩, ⟨rfl, rfl⟩, trivial⟩, ⟨rfl, rowS fun _ _ => rfl⟩, rfl, rfl, trivial⟩
        ⟨⟨rfl, ⟨rfl, rowS fun _ _ => rfl⟩, rfl, rfl, rfl, trivial⟩, ⟨rfl, ⟨rfl, rowS fun _ _ => rfl⟩, rfl, rfl, rfl, trivial⟩, ⟨rfl, ⟨rfl, rowS fun _ _ => rfl⟩, rfl, rfl, rfl, trivial⟩, ⟨rfl, ⟨rfl, rfl, rfl⟩, trivial⟩, ⟨rfl, rfl, rfl, rowL fun i hi => rfl⟩, trivial⟩
    · have hp : ¬ 0 < szE (cnd1 k s h (f2 0) (F j)) := fun hp => by
        have hs := U.gt_f.mp hs
        rw [lk_eq] at hs
        exact absurd hs (Int.not_le.2 hp)
      refine ⟨⟨n, f, k, s, h, m, g, k1, s1, h1, 2, f2, k2, s2, h2, u, c, L, N, F, j + 1⟩, ⟨⟨rfl, rfl, hf, hc, hN, hF⟩, by simp only []; omega⟩, by simp only []; omega, ?_, fun o ho => ho⟩
      rw [hno hp]
      exact wk_of [some 0, some 1, some 2, some 3, some 4] rfl (Nat.zero_le _) (fun b hb => by omega) ⟨⟨rfl, rfl⟩, ⟨rfl, rfl⟩, ⟨rfl, rfl⟩, ⟨rfl, rfl⟩, ⟨rfl, trivial, ⟨rfl, rfl⟩, ⟨rfl, rfl⟩, trivial⟩, ⟨rfl, rowS fun _ _ => rfl⟩, rfl, rfl, trivial⟩
        ⟨⟨rfl, ⟨rfl, rowS fun _ _ => rfl⟩, rfl, rfl, rfl, trivial⟩, ⟨rfl, ⟨rfl, rowS fun _ _ => rfl⟩, rfl, rfl, rfl, trivial⟩, ⟨rfl, ⟨rfl, rowS fun _ _ => rfl⟩, rfl, rfl, rfl, trivial⟩, ⟨rfl, ⟨rfl, rfl, rfl⟩, trivial⟩, ⟨rfl, rfl, rfl, rowL fun i hi => rfl⟩, trivial⟩
  · obtain rfl : j = N := by omega
    refine ⟨fun h => absurd (U.lt_t.mp h) (by simp only [Int.ofNat_eq_natCast]; omega), fun _ => ⟨_, rfl, ?_⟩⟩
    exact wk_of [some 0, some 1, some 2, some 3, some 4] rfl (Nat.zero_le _) (fun b hb => by omega) ⟨⟨rfl, rfl⟩, ⟨rfl, rfl⟩, ⟨rfl, rfl⟩, ⟨rfl, rfl⟩, ⟨rfl, trivial, ⟨rfl, rfl⟩, ⟨rfl, rfl⟩, trivial⟩, trivial, trivial, trivial, trivial⟩
      ⟨⟨rfl, ⟨rfl, rowS fun _ _ => rfl⟩, rfl, rfl, rfl, trivial⟩, ⟨rfl, ⟨rfl, rowS fun _ _ => rfl⟩, rfl, rfl, rfl, trivial⟩, ⟨rfl, ⟨rfl, rowS fun _ _ => rfl⟩, rfl, rfl, rfl, trivial⟩, ⟨rfl, ⟨rfl, rfl, rfl⟩, trivial⟩, ⟨rfl, rfl, rfl, rowL fun i hi => rfl⟩, trivial⟩
set_option maxHeartbeats 1000000 in
theorem loopAx : LoopOK P (loopOf P 78 13) (few 100 [2,3,6,8,9,49,50,51] gAx) :=
  loop_few (E := Ed) mixed Ed_ok loopsOK_none 100 [2,3,6,8,9,49,50,51] (X := XDx) gAx (fun _ x => VAx x) PhiAx (fun q => q.N - q.j) (fun _ x o => o = OAx x)
    (fun n0 st r h => by
      unfold gAx at h
      split at h
      · rename_i n0 N F l e0 n f k s h' e1 m g k1 s1 h1 e2 n2 f2 k2 s2 h2 e3
        obtain ⟨hp, hl⟩ := (T.is_ask h).1
        obtain rfl := T.is_ret (T.is_ask h).2
        have hp' := hp
        obtain ⟨h0, _⟩ := hp'
        subst h0; subst hl
        refine ⟨⟨n, f, k, s, h', m, g, k1, s1, h1, n2, f2, k2, s2, h2, true, 0, noL, N, F, 0⟩, ⟨hp, Nat.zero_le _⟩, ?_, fun o ho => by rw [ho]; simp only [OAx, oAx, lk_eq]⟩
        exact wk_of [some 0, some 1, some 2, some 3, none] rfl (Nat.zero_le _) (fun b hb => by omega) ⟨⟨rfl, rfl⟩, ⟨rfl, rfl⟩, ⟨rfl, rfl⟩, ⟨rfl, rfl⟩, ⟨rfl, trivial, ⟨rfl, rfl⟩, ⟨rfl, rfl⟩, trivial⟩, ⟨rfl, rowS fun _ _ => rfl⟩, rfl, rfl, trivial⟩
          ⟨⟨rfl, ⟨rfl, rowS fun _ _ => rfl⟩, rfl, rfl, rfl, trivial⟩, ⟨rfl, ⟨rfl, rowS fun _ _ => rfl⟩, rfl, rfl, rfl, trivial⟩, ⟨rfl, ⟨rfl, rowS fun _ _ => rfl⟩, rfl, rfl, rfl, trivial⟩, ⟨rfl, ⟨rfl, rfl, rfl⟩, trivial⟩, ⟨rfl, rfl⟩, trivial⟩
      · exact h.elim)
    roundAx
set_option maxHeartbeats 1000000 in
theorem loopBx : LoopOK P (loopOf P 78 23) (few 100 [2,3,6,8,9,84,85,86] gBx) :=
  loop_few (E := Ed) mixed Ed_ok loopsOK_none 100 [2,3,6,8,9,84,85,86] (X := XDx) gBx (fun _ x => VBx x) PhiBx (fun q => q.N - q.j) (fun _ x o => o = OBx x)
    (fun n0 st r h => by
      obtain ⟨sl, mm⟩ := st
      unfold gBx at h
      dsimp only at h
      split at h
      rotate_left
      · exact h.elim
      rename_i N F l
      unfold gBy at h
      split at h
      · rename_i e0 n f k s h' t0 e1 m g k1 s1 h1 t1 e2 n2 f2 k2 s2 h2 t2 e3 u c t3 e4 u' c' ss L t4
        by_cases e : eqShs ss ssD = true
        rotate_left
        · rw [dif_neg e] at h; exact h.elim
        rw [dif_pos e] at h
        have es := eqShs_eq _ _ e
        subst es
        obtain ⟨hp, hl, hu, hc, rfl, rfl, rfl, rfl, rfl⟩ := (T.is_ask h).1
        obtain rfl := T.is_ret (T.is_ask h).2
        have hp' := hp
        obtain ⟨h0, _⟩ := hp'
        subst h0; subst hl; subst hu; subst hc
        refine ⟨⟨n, f, k, s, h', m, g, k1, s1, h1, n2, f2, k2, s2, h2, u', c', L, N, F, 0⟩, ⟨hp, Nat.zero_le _⟩, ?_, fun o ho => by rw [ho]; simp only [OBx, oBx, lk_eq]; rfl⟩
        have e0 : bUx k s h' (f2 0) u' c' L F 0 = u' := by show (u' && decide (c' = c')) = u'; simp
        have hV : VBx ⟨n, f, k, s, h', m, g, k1, s1, h1, n2, f2, k2, s2, h2, u', c', L, N, F, 0⟩ = (slD N F 0, memD n f k s h' m g k1 s1 h1 n2 f2 k2 s2 h2 u' c' L) := by
          simp only [VBx, e0]; rfl
        rw [hV]
        exact wk_of [some 0, some 1, some 2, some 3, some 4] rfl (Nat.zero_le _) (fun b hb => by omega) ⟨⟨rfl, rfl⟩, ⟨rfl, rfl⟩, ⟨rfl, rfl⟩, ⟨rfl, rfl⟩, ⟨rfl, trivial, ⟨rfl, rfl⟩, ⟨rfl, rfl⟩, trivial⟩, ⟨rfl, rowS fun _ _ => rfl⟩, rfl, rfl, trivial⟩
          ⟨⟨rfl, ⟨rfl, rowS fun _ _ => rfl⟩, rfl, rfl, rfl, trivial⟩, ⟨rfl, ⟨rfl, rowS fun _ _ => rfl⟩, rfl, rfl, rfl, trivial⟩, ⟨rfl, ⟨rfl, rowS fun _ _ => rfl⟩, rfl, rfl, rfl, trivial⟩, ⟨rfl, ⟨rfl, rfl, rfl⟩, trivial⟩, ⟨rfl, rfl, rfl, rowL fun i hi => rfl⟩, trivial⟩
      · exact h.elim)
    roundBx
theorem lDS_ok : ∀ p ∈ lDS, LoopsOK P p.2 (bodyOf P p.1) := by
  intro p hp
  simp only [lDS, List.mem_singleton] at hp
  subst hp
  refine loopsOK_of (by kernel_rfl) fun k g hk => ?_
  simp only [List.mem_cons, List.not_mem_nil, or_false, Prod.mk.injEq, LoopC.sum.injEq] at hk
  rcases hk with ⟨rfl, rfl⟩ | ⟨rfl, rfl⟩
  · exact loopAx
  · exact loopBx
set_option maxRecDepth 100000 in
theorem t_DSubtract (n : Nat) (f : Nat → R3) (k s h : Int) (m : Nat) (g : Nat → R3) (k1 s1 h1 : Int) : conB Go.Proofs.Try.prog (conOf d14) (loopsOf lDS) 10 78 [.agg [.row [.int .i64, .int .i64, .int .i64] n f, .lit (.int .i64 k), .lit (.int .i64 s), .lit (.int .i64 h)], .agg [.row [.int .i64, .int .i64, .int .i64] m g, .lit (.int .i64 k1), .lit (.int .i64 s1), .lit (.int .i64 h1)]] =
    T.ask (Row64 n f ∧ Row64 m g) (.br (U.ne (lk boE n f k s h m g k1 s1 h1) (0 : Int)) (.ret (.tup [.lit (.slice none (nat_lit 0) (nat_lit 0)), .lit (.int .i64 (lk boE n f k s h m g k1
      s1 h1))])) (.ask (Row64 (lk diN n f k s h m g k1 s1 h1) (lk diF f g)) (.br (U.eq (lk szD (lk diN n f k s h m g k1 s1 h1) (lk diF f g) (lk diX n f k s h m g k1 s1 h1 k) (lk diX n f k
      s h m g k1 s1 h1 s) (lk diX n f k s h m g k1 s1 h1 h)) (0 : Int)) (.ask ((0 : Nat) < n ∧ n ≤ (10000 : Nat)) (.ask (Row64 n f) (.br (U.gt (lk szD n f k s h) (0 : Int)) (.ask ((1 :
      Nat) * nat_lit 48 ≤ nat_lit 140737488351232) (.ret (.tup [.row [.sl [.int .i64, .int .i64, .int .i64], .int .i64, .int .i64, .int .i64] (nat_lit 1) fun x => ((n, f), k, s, h,
      PUnit.unit), .lit (.int .i64 0)]))) (.ret (.tup [.lit (.slice none (nat_lit 0) (nat_lit 0)), .lit (.int .i64 0)]))))) (.ask ((0 : Int) ≤ (0 : Int) ∧ (0 : Int) < ↑n) (.ask ((0 : Int)
      ≤ (0 : Int) ∧ (0 : Int) < ↑m) (.ask (I64 (f (U.toNat (0 : Int))).1 ∧ I64 (f (U.toNat (0 : Int))).2.1 ∧ I64 (f (U.toNat (0 : Int))).2.2.1 ∧ I64 (g (U.toNat (0 : Int))).1 ∧ I64 (g
      (U.toNat (0 : Int))).2.1 ∧ I64 (g (U.toNat (0 : Int))).2.2.1) (.br (U.ne (lk sbE (f (U.toNat (0 : Int))).1 (f (U.toNat (0 : Int))).2.1 (f (U.toNat (0 : Int))).2.2.1 (g (U.toNat (0 :
      Int))).1 (g (U.toNat (0 : Int))).2.1 (g (U.toNat (0 : Int))).2.2.1) (0 : Int)) (.ret (.tup [.lit (.slice none (nat_lit 0) (nat_lit 0)), .lit (.int .i64 (lk sbE (f (U.toNat (0 :
      Int))).1 (f (U.toNat (0 : Int))).2.1 (f (U.toNat (0 : Int))).2.2.1 (g (U.toNat (0 : Int))).1 (g (U.toNat (0 : Int))).2.1 (g (U.toNat (0 : Int))).2.2.1))])) (.ask (PreAx (nat_lit 0)
      n f (0 : Nat) (lk sbN (f (U.toNat (0 : Int))).1 (f (U.toNat (0 : Int))).2.1 (f (U.toNat (0 : Int))).2.2.1 (g (U.toNat (0 : Int))).1 (g (U.toNat (0 : Int))).2.1 (g (U.toNat (0 :
      Int))).2.2.1) (lk sbF (f (U.toNat (0 : Int))).1 (f (U.toNat (0 : Int))).2.1 (f (U.toNat (0 : Int))).2.2.1 (g (U.toNat (0 : Int))).1 (g (U.toNat (0 : Int))).2.1 (g (U.toNat (0 :
      Int))).2.2.1) ∧ ↑(lk sbN (f (U.toNat (0 : Int))).1 (f (U.toNat (0 : Int))).2.1 (f (U.toNat (0 : Int))).2.2.1 (g (U.toNat (0 : Int))).1 (g (U.toNat (0 : Int))).2.1 (g (U.toNat (0 :
      Int))).2.2.1) = Int.ofNat (lk sbN (f (U.toNat (0 : Int))).1 (f (U.toNat (0 : Int))).2.1 (f (U.toNat (0 : Int))).2.2.1 (g (U.toNat (0 : Int))).1 (g (U.toNat (0 : Int))).2.1 (g
      (U.toNat (0 : Int))).2.2.1)) (.br (U.eq (Int.ofNat n) (1 : Int)) (.ret (.tup [.row [.sl [.int .i64, .int .i64, .int .i64], .int .i64, .int .i64, .int .i64] (lk aNx n f k s h
      (nat_lit 0) (lk noL) (lk sbF (f (U.toNat (0 : Int))).1 (f (U.toNat (0 : Int))).2.1 (f (U.toNat (0 : Int))).2.2.1 (g (U.toNat (0 : Int))).1 (g (U.toNat (0 : Int))).2.1 (g (U.toNat (0
      : Int))).2.2.1) (lk sbN (f (U.toNat (0 : Int))).1 (f (U.toNat (0 : Int))).2.1 (f (U.toNat (0 : Int))).2.2.1 (g (U.toNat (0 : Int))).1 (g (U.toNat (0 : Int))).2.1 (g (U.toNat (0 :
      Int))).2.2.1)) (lk aLx n f k s h (nat_lit 0) (lk noL) (lk sbF (f (U.toNat (0 : Int))).1 (f (U.toNat (0 : Int))).2.1 (f (U.toNat (0 : Int))).2.2.1 (g (U.toNat (0 : Int))).1 (g
      (U.toNat (0 : Int))).2.1 (g (U.toNat (0 : Int))).2.2.1) (lk sbN (f (U.toNat (0 : Int))).1 (f (U.toNat (0 : Int))).2.1 (f (U.toNat (0 : Int))).2.2.1 (g (U.toNat (0 : Int))).1 (g
      (U.toNat (0 : Int))).2.1 (g (U.toNat (0 : Int))).2.2.1)), .lit (.int .i64 0)])) (.ask ((0 : Int) ≤ (1 : Int) ∧ (1 : Int) < ↑n) (.ask ((0 : Int) ≤ (1 : Int) ∧ (1 : Int) < ↑m) (.ask
      (I64 (f (U.toNat (1 : Int))).1 ∧ I64 (f (U.toNat (1 : Int))).2.1 ∧ I64 (f (U.toNat (1 : Int))).2.2.1 ∧ I64 (g (U.toNat (1 : Int))).1 ∧ I64 (g (U.toNat (1 : Int))).2.1 ∧ I64 (g
      (U.toNat (1 : Int))).2.2.1) (.br (U.ne (lk sbE (f (U.toNat (1 : Int))).1 (f (U.toNat (1 : Int))).2.1 (f (U.toNat (1 : Int))).2.2.1 (g (U.toNat (1 : Int))).1 (g (U.toNat (1 :
      Int))).2.1 (g (U.toNat (1 : Int))).2.2.1) (0 : Int)) (.ret (.tup [.lit (.slice none (nat_lit 0) (nat_lit 0)), .lit (.int .i64 (lk sbE (f (U.toNat (1 : Int))).1 (f (U.toNat (1 :
      Int))).2.1 (f (U.toNat (1 : Int))).2.2.1 (g (U.toNat (1 : Int))).1 (g (U.toNat (1 : Int))).2.1 (g (U.toNat (1 : Int))).2.2.1))])) (.ask (PreBx (nat_lit 0) (lk diN n f k s h m g k1
      s1 h1) (lk diF f g) (lk aNx n f k s h (nat_lit 0) (lk noL) (lk sbF (f (U.toNat (0 : Int))).1 (f (U.toNat (0 : Int))).2.1 (f (U.toNat (0 : Int))).2.2.1 (g (U.toNat (0 : Int))).1 (g
      (U.toNat (0 : Int))).2.1 (g (U.toNat (0 : Int))).2.2.1) (lk sbN (f (U.toNat (0 : Int))).1 (f (U.toNat (0 : Int))).2.1 (f (U.toNat (0 : Int))).2.2.1 (g (U.toNat (0 : Int))).1 (g
      (U.toNat (0 : Int))).2.1 (g (U.toNat (0 : Int))).2.2.1)) (lk sbN (f (U.toNat (1 : Int))).1 (f (U.toNat (1 : Int))).2.1 (f (U.toNat (1 : Int))).2.2.1 (g (U.toNat (1 : Int))).1 (g
      (U.toNat (1 : Int))).2.1 (g (U.toNat (1 : Int))).2.2.1) (lk sbF (f (U.toNat (1 : Int))).1 (f (U.toNat (1 : Int))).2.1 (f (U.toNat (1 : Int))).2.2.1 (g (U.toNat (1 : Int))).1 (g
      (U.toNat (1 : Int))).2.1 (g (U.toNat (1 : Int))).2.2.1) ∧ ↑(lk sbN (f (U.toNat (1 : Int))).1 (f (U.toNat (1 : Int))).2.1 (f (U.toNat (1 : Int))).2.2.1 (g (U.toNat (1 : Int))).1 (g
      (U.toNat (1 : Int))).2.1 (g (U.toNat (1 : Int))).2.2.1) = Int.ofNat (lk sbN (f (U.toNat (1 : Int))).1 (f (U.toNat (1 : Int))).2.1 (f (U.toNat (1 : Int))).2.2.1 (g (U.toNat (1 :
      Int))).1 (g (U.toNat (1 : Int))).2.1 (g (U.toNat (1 : Int))).2.2.1) ∧ lk aUx n f k s h true (nat_lit 0) (lk noL) (lk sbF (f (U.toNat (0 : Int))).1 (f (U.toNat (0 : Int))).2.1 (f
      (U.toNat (0 : Int))).2.2.1 (g (U.toNat (0 : Int))).1 (g (U.toNat (0 : Int))).2.1 (g (U.toNat (0 : Int))).2.2.1) (lk sbN (f (U.toNat (0 : Int))).1 (f (U.toNat (0 : Int))).2.1 (f
      (U.toNat (0 : Int))).2.2.1 (g (U.toNat (0 : Int))).1 (g (U.toNat (0 : Int))).2.1 (g (U.toNat (0 : Int))).2.2.1) = lk aUx n f k s h true (nat_lit 0) (lk noL) (lk sbF (f (U.toNat (0 :
      Int))).1 (f (U.toNat (0 : Int))).2.1 (f (U.toNat (0 : Int))).2.2.1 (g (U.toNat (0 : Int))).1 (g (U.toNat (0 : Int))).2.1 (g (U.toNat (0 : Int))).2.2.1) (lk sbN (f (U.toNat (0 :
      Int))).1 (f (U.toNat (0 : Int))).2.1 (f (U.toNat (0 : Int))).2.2.1 (g (U.toNat (0 : Int))).1 (g (U.toNat (0 : Int))).2.1 (g (U.toNat (0 : Int))).2.2.1) ∧ lk aNx n f k s h (nat_lit
      0) (lk noL) (lk sbF (f (U.toNat (0 : Int))).1 (f (U.toNat (0 : Int))).2.1 (f (U.toNat (0 : Int))).2.2.1 (g (U.toNat (0 : Int))).1 (g (U.toNat (0 : Int))).2.1 (g (U.toNat (0 :
      Int))).2.2.1) (lk sbN (f (U.toNat (0 : Int))).1 (f (U.toNat (0 : Int))).2.1 (f (U.toNat (0 : Int))).2.2.1 (g (U.toNat (0 : Int))).1 (g (U.toNat (0 : Int))).2.1 (g (U.toNat (0 :
      Int))).2.2.1) = lk aNx n f k s h (nat_lit 0) (lk noL) (lk sbF (f (U.toNat (0 : Int))).1 (f (U.toNat (0 : Int))).2.1 (f (U.toNat (0 : Int))).2.2.1 (g (U.toNat (0 : Int))).1 (g
      (U.toNat (0 : Int))).2.1 (g (U.toNat (0 : Int))).2.2.1) (lk sbN (f (U.toNat (0 : Int))).1 (f (U.toNat (0 : Int))).2.1 (f (U.toNat (0 : Int))).2.2.1 (g (U.toNat (0 : Int))).1 (g
      (U.toNat (0 : Int))).2.1 (g (U.toNat (0 : Int))).2.2.1) ∧ (49 : TypeId) = (49 : TypeId) ∧ (49 : TypeId) = (49 : TypeId) ∧ (49 : TypeId) = (49 : TypeId) ∧ (67 : TypeId) = (67 :
      TypeId) ∧ (49 : TypeId) = (49 : TypeId)) (.ret (.tup [.row [.sl [.int .i64, .int .i64, .int .i64], .int .i64, .int .i64, .int .i64] (lk bNx k s h (lk diF f g (nat_lit 0)) (lk aNx n
      f k s h (nat_lit 0) (lk noL) (lk sbF (f (U.toNat (0 : Int))).1 (f (U.toNat (0 : Int))).2.1 (f (U.toNat (0 : Int))).2.2.1 (g (U.toNat (0 : Int))).1 (g (U.toNat (0 : Int))).2.1 (g
      (U.toNat (0 : Int))).2.2.1) (lk sbN (f (U.toNat (0 : Int))).1 (f (U.toNat (0 : Int))).2.1 (f (U.toNat (0 : Int))).2.2.1 (g (U.toNat (0 : Int))).1 (g (U.toNat (0 : Int))).2.1 (g
      (U.toNat (0 : Int))).2.2.1)) (lk aLx n f k s h (nat_lit 0) (lk noL) (lk sbF (f (U.toNat (0 : Int))).1 (f (U.toNat (0 : Int))).2.1 (f (U.toNat (0 : Int))).2.2.1 (g (U.toNat (0 :
      Int))).1 (g (U.toNat (0 : Int))).2.1 (g (U.toNat (0 : Int))).2.2.1) (lk sbN (f (U.toNat (0 : Int))).1 (f (U.toNat (0 : Int))).2.1 (f (U.toNat (0 : Int))).2.2.1 (g (U.toNat (0 :
      Int))).1 (g (U.toNat (0 : Int))).2.1 (g (U.toNat (0 : Int))).2.2.1)) (lk sbF (f (U.toNat (1 : Int))).1 (f (U.toNat (1 : Int))).2.1 (f (U.toNat (1 : Int))).2.2.1 (g (U.toNat (1 :
      Int))).1 (g (U.toNat (1 : Int))).2.1 (g (U.toNat (1 : Int))).2.2.1) (lk sbN (f (U.toNat (1 : Int))).1 (f (U.toNat (1 : Int))).2.1 (f (U.toNat (1 : Int))).2.2.1 (g (U.toNat (1 :
      Int))).1 (g (U.toNat (1 : Int))).2.1 (g (U.toNat (1 : Int))).2.2.1)) (lk bLx k s h (lk diF f g (nat_lit 0)) (lk aNx n f k s h (nat_lit 0) (lk noL) (lk sbF (f (U.toNat (0 : Int))).1
      (f (U.toNat (0 : Int))).2.1 (f (U.toNat (0 : Int))).2.2.1 (g (U.toNat (0 : Int))).1 (g (U.toNat (0 : Int))).2.1 (g (U.toNat (0 : Int))).2.2.1) (lk sbN (f (U.toNat (0 : Int))).1 (f
      (U.toNat (0 : Int))).2.1 (f (U.toNat (0 : Int))).2.2.1 (g (U.toNat (0 : Int))).1 (g (U.toNat (0 : Int))).2.1 (g (U.toNat (0 : Int))).2.2.1)) (lk aLx n f k s h (nat_lit 0) (lk noL)
      (lk sbF (f (U.toNat (0 : Int))).1 (f (U.toNat (0 : Int))).2.1 (f (U.toNat (0 : Int))).2.2.1 (g (U.toNat (0 : Int))).1 (g (U.toNat (0 : Int))).2.1 (g (U.toNat (0 : Int))).2.2.1) (lk
      sbN (f (U.toNat (0 : Int))).1 (f (U.toNat (0 : Int))).2.1 (f (U.toNat (0 : Int))).2.2.1 (g (U.toNat (0 : Int))).1 (g (U.toNat (0 : Int))).2.1 (g (U.toNat (0 : Int))).2.2.1)) (lk sbF
      (f (U.toNat (1 : Int))).1 (f (U.toNat (1 : Int))).2.1 (f (U.toNat (1 : Int))).2.2.1 (g (U.toNat (1 : Int))).1 (g (U.toNat (1 : Int))).2.1 (g (U.toNat (1 : Int))).2.2.1) (lk sbN (f
      (U.toNat (1 : Int))).1 (f (U.toNat (1 : Int))).2.1 (f (U.toNat (1 : Int))).2.2.1 (g (U.toNat (1 : Int))).1 (g (U.toNat (1 : Int))).2.1 (g (U.toNat (1 : Int))).2.2.1)), .lit (.int
      .i64 0)])))))))))))))))) := by kernel_rfl
end Go.RX.Span

/- Domains: Subtract of the program: what it returns. -/
set_option linter.unusedVariables false
set_option linter.unusedSimpArgs false
set_option maxRecDepth 100000
namespace Go.RX.Span
open Go Go.RX
attribute [local irreducible] sx conB

theorem pc_64 {f s C c : Int} (hs : 0 ≤ s ∨ C ≤ 0) : I64 (rA (pc f s C c)) ∧ I64 (rB (pc f s C c)) ∧ I64 (rC (pc f s C c)) := by
  show I64 (mvLow f s C) ∧ I64 (mvHigh f s C) ∧ I64 (mvStr f s C c)
  unfold mvLow mvHigh mvStr
  by_cases h : C ≤ 0
  · rw [if_pos h, if_pos h, if_pos h]; unfold I64; omega
  · rw [if_neg h, if_neg h, if_neg h]
    by_cases e : mvE f s C = 0
    · rw [if_pos e, if_pos e, if_pos e]
      have hb : (-1000000 ≤ f ∧ f ≤ 1000000) ∧ (-1000000 ≤ f + s * (C - 1) ∧ f + s * (C - 1) ≤ 1000000) := by
        unfold mvE at e
        rw [if_neg h] at e
        by_cases hb : (-1000000 ≤ f ∧ f ≤ 1000000) ∧ (-1000000 ≤ f + s * (C - 1) ∧ f + s * (C - 1) ≤ 1000000)
        · exact hb
        · rw [if_neg hb] at e; omega
      refine ⟨by unfold I64; omega, by unfold I64; omega, ?_⟩
      by_cases h1 : C = 1
      · rw [if_pos h1]; unfold I64; omega
      · rw [if_neg h1]
        have m0 := Int.mul_le_mul_of_nonneg_left (show (1 : Int) ≤ C - 1 by omega) (show 0 ≤ s by omega)
        rw [Int.mul_one] at m0
        have hs0 : 0 ≤ s := by omega
        split <;> (unfold I64; omega)
    · rw [if_neg e, if_neg e, if_neg e]; unfold I64; omega
theorem sb_64 {a b c x y z : Int} (h : Right a b c) (h' : Right x y z) (i : Nat) : I64 (rA (sbF a b c x y z i)) ∧ I64 (rB (sbF a b c x y z i)) ∧ I64 (rC (sbF a b c x y z i)) := by
  unfold sbF
  by_cases hn : isC a b c x y z = 0
  · rw [if_pos hn]
    refine pc_64 ?_
    rcases up_ser h with g | ⟨_, _, g, _⟩
    · exact .inr (Int.le_of_eq g)
    · by_cases hC : ofC a b c = 0
      · exact .inr (Int.le_of_eq hC)
      · refine .inl ?_
        have : 1 ≤ sS a b c := g
        omega
  · rw [if_neg hn]
    obtain ⟨hab, hxy, eA, eS, s1, s2, eT, C1, C2, B1, B2, _⟩ := sb_facts h h' hn
    split
    · exact pc_64 (.inl (by rw [eS]; omega))
    split
    · unfold sbIn; exact pc_64 (.inl (by omega))
    · exact pc_64 (.inl (by rw [eS]; omega))
theorem sbN_le (a b c x y z : Int) : sbN a b c x y z ≤ 1001 := by
  unfold sbN
  split
  · omega
  split
  · split <;> omega
  split
  · omega
  · omega
section
variable (n : Nat) (f : Nat → R3) (k s h : Int) (m : Nat) (g : Nat → R3) (k' s' h' : Int)
noncomputable def dsN : Nat := (dsL n f k s h m g k' s' h').1
noncomputable def dsF : Nat → DE := (dsL n f k s h m g k' s' h').2
end
noncomputable def c_DSubtract : Con := fun args => match args with
  | [.agg [.row [.int .i64, .int .i64, .int .i64] n f, .lit (.int .i64 k), .lit (.int .i64 s), .lit (.int .i64 h)], .agg [.row [.int .i64, .int .i64, .int .i64] m g, .lit (.int .i64 k'), .lit (.int .i64 s'), .lit (.int .i64 h')]] =>
    .ask (Row64 n f ∧ Row64 m g) (.ret (.tup [.row [.sl [.int .i64, .int .i64, .int .i64], .int .i64, .int .i64, .int .i64] (lk dsN n f k s h m g k' s' h') (lk dsF n f k s h m g k' s' h'), .lit (.int .i64 (lk dsE n f k s h m g k' s' h'))]))
  | _ => .stuck 1
section
variable {n : Nat} {f : Nat → R3} {k s h : Int} {m : Nat} {g : Nat → R3} {k' s' h' : Int}
noncomputable abbrev dsR (n : Nat) (f : Nat → R3) (k s h : Int) (m : Nat) (g : Nat → R3) (k' s' h' : Int) : SV := .tup [.row [.sl [.int .i64, .int .i64, .int .i64], .int .i64, .int .i64, .int .i64] (dsN n f k s h m g k' s' h') (dsF n f k s h m g k' s' h'), .lit (.int .i64 (dsE n f k s h m g k' s' h'))]
theorem cl_nilD {n : Nat} {f : Nat → DE} (h : n = 0) : Cl (.lit (.slice none 0 0)) (.row [.sl [.int .i64, .int .i64, .int .i64], .int .i64, .int .i64, .int .i64] n f) := .inr ⟨rfl, h⟩
theorem cl_rowD {n m : Nat} {f g : Nat → DE} (h : n = m) (hf : ∀ i, i < n → f i = g i) : Cl (.row [.sl [.int .i64, .int .i64, .int .i64], .int .i64, .int .i64, .int .i64] n f) (.row [.sl [.int .i64, .int .i64, .int .i64], .int .i64, .int .i64, .int .i64] m g) := ⟨h, rowL hf⟩
theorem ds_err {x : Int} (hE : dsE n f k s h m g k' s' h' = x) (hx : x ≠ 0) : Cl (.tup [.lit (.slice none 0 0), .lit (.int .i64 x)]) (dsR n f k s h m g k' s' h') :=
  ⟨cl_nilD (by unfold dsN dsL; rw [if_pos (by rw [hE]; exact hx)]; rfl), cl_lit (by rw [hE]), rfl⟩
theorem ds_ok {N : Nat} {L : Nat → DE} (hE : dsE n f k s h m g k' s' h' = 0) (hN : N = dsN n f k s h m g k' s' h') (hL : ∀ i, i < N → L i = dsF n f k s h m g k' s' h' i) :
    Cl (.tup [.row [.sl [.int .i64, .int .i64, .int .i64], .int .i64, .int .i64, .int .i64] N L, .lit (.int .i64 0)]) (dsR n f k s h m g k' s' h') := ⟨cl_rowD hN hL, cl_lit (by rw [hE]), rfl⟩
theorem ds_nil (hE : dsE n f k s h m g k' s' h' = 0) (hN : 0 = dsN n f k s h m g k' s' h') :
    Cl (.tup [.lit (.slice none 0 0), .lit (.int .i64 0)]) (dsR n f k s h m g k' s' h') := ⟨cl_nilD hN.symm, cl_lit (by rw [hE]), rfl⟩
end
theorem DSubtract_ok : ConOK P 78 c_DSubtract := con_cl (allOKL mixed d14_ok lDS_ok) 10 78 fun args r h => by
  unfold c_DSubtract at h
  split at h
  · rename_i n f k s h' m g k1 s1 h1
    obtain ⟨hp, hq⟩ := (T.is_ask h).1
    have h := (T.is_ask h).2
    obtain rfl := T.is_ret h
    rw [t_DSubtract]
    simp only [tn0, tn1, lk_eq]
    refine T.all_mono (K := fun t => Cl t (dsR n f k s h' m g k1 s1 h1)) (fun t ht => ht) ?_
    refine ⟨⟨hp, hq⟩, fun hE => ?_, fun hE => ?_⟩
    · have hE : boE n f k s h' m g k1 s1 h1 ≠ 0 := U.ne_t.mp hE
      exact ds_err (by unfold dsE; rw [if_pos hE]) hE
    have hE : boE n f k s h' m g k1 s1 h1 = 0 := U.ne_f.mp hE
    have nE : ¬ boE n f k s h' m g k1 s1 h1 ≠ 0 := by simp [hE]
    obtain ⟨c1, c2, c3⟩ := boE_zero.1 hE
    subst c3
    obtain ⟨d1, _⟩ := chD_zero.1 c1
    obtain ⟨d2, _⟩ := chD_zero.1 c2
    have hn := d1.1
    have e1 : diN n f k s h' n g k1 s1 h1 = n := by unfold diN; rw [if_neg nE]
    have e2 : ∀ x, diX n f k s h' n g k1 s1 h1 x = x := fun x => by unfold diX; rw [if_neg nE]
    rw [e1, e2, e2, e2]
    have hdi := dr_64 (chD_zero.1 (di_right hE)).1
    have hI : ∀ i, i < n → I64 (f i).1 ∧ I64 (f i).2.1 ∧ I64 (f i).2.2.1 ∧ I64 (g i).1 ∧ I64 (g i).2.1 ∧ I64 (g i).2.2.1 := fun i hi => by
      obtain ⟨x1, x2, x3⟩ := hp i hi
      obtain ⟨y1, y2, y3⟩ := hq i hi
      exact ⟨x1, x2, x3, y1, y2, y3⟩
    refine ⟨hdi, fun z => ⟨⟨by omega, by omega⟩, hp, fun z1 => ⟨by omega, ?_⟩, fun z1 => ?_⟩, fun z => ⟨⟨by omega, by omega⟩, ⟨by omega, by omega⟩, hI 0 (by omega), fun z1 => ?_, fun z1 => ⟨⟨⟨rfl, hn, hp, by omega, sbN_le _ _ _ _ _ _, fun i _ => sb_64 (d1.2 0 (by omega)).1 (d2.2 0 (by omega)).1 i⟩, rfl⟩, fun z2 => ?_, fun z2 => ?_⟩⟩⟩
    · have z : szD n (diF f g) k s h' = 0 := U.eq_t.mp z
      have z1 : 0 < szE (mkD n f k s h') := U.gt_t.mp z1
      have hE0 : dsE n f k s h' n g k1 s1 h1 = 0 := by unfold dsE; rw [if_neg nE, if_pos z]
      have eL : dsL n f k s h' n g k1 s1 h1 = push noD (mkD n f k s h') := by unfold dsL; rw [if_neg (by rw [hE0]; simp), if_neg nE, if_pos z]
      have eP : push noD (mkD n f k s h') = (1, U.cat 0 noD.2 fun _ => mkD n f k s h') := by unfold push; rw [if_pos z1]; rfl
      exact ds_ok hE0 (by unfold dsN; rw [eL, eP]) fun i hi => by
        unfold dsF; rw [eL, eP]
        exact ((U.cat_eq 0 noD.2 (fun _ => mkD n f k s h') i).trans (if_neg (Nat.not_lt_zero i))).symm
    · have z : szD n (diF f g) k s h' = 0 := U.eq_t.mp z
      have z1 : ¬ 0 < szE (mkD n f k s h') := Int.not_lt.2 (U.gt_f.mp z1)
      have hE0 : dsE n f k s h' n g k1 s1 h1 = 0 := by unfold dsE; rw [if_neg nE, if_pos z]
      have eL : dsL n f k s h' n g k1 s1 h1 = push noD (mkD n f k s h') := by unfold dsL; rw [if_neg (by rw [hE0]; simp), if_neg nE, if_pos z]
      have eP : push noD (mkD n f k s h') = noD := by unfold push; rw [if_neg z1]
      exact ds_nil hE0 (by unfold dsN; rw [eL, eP]; rfl)
    · have z : ¬ szD n (diF f g) k s h' = 0 := U.eq_f.mp z
      have z1 : sb0E f g ≠ 0 := U.ne_t.mp z1
      exact ds_err (by unfold dsE; rw [if_neg nE, if_neg z, if_pos z1]; rfl) z1
    · have z : ¬ szD n (diF f g) k s h' = 0 := U.eq_f.mp z
      have z1 : ¬ sb0E f g ≠ 0 := fun h => h (U.ne_f.mp z1)
      have z2 : (n : Int) = 1 := U.eq_t.mp z2
      obtain rfl : n = 1 := by omega
      have hE0 : dsE 1 f k s h' 1 g k1 s1 h1 = 0 := by unfold dsE; rw [if_neg nE, if_neg z, if_neg z1, if_pos rfl]
      have eL : dsL 1 f k s h' 1 g k1 s1 h1 = ds0 1 f k s h' g := by unfold dsL ds1; rw [if_neg (by rw [hE0]; simp), if_neg nE, if_neg z, if_pos rfl]
      exact ds_ok hE0 (by unfold dsN; rw [eL]; rfl) fun i hi => by unfold dsF; rw [eL]; rfl
    · have z : ¬ szD n (diF f g) k s h' = 0 := U.eq_f.mp z
      have z1 : ¬ sb0E f g ≠ 0 := fun h => h (U.ne_f.mp z1)
      have z2 : ¬ (n : Int) = 1 := U.eq_f.mp z2
      obtain rfl : n = 2 := by omega
      have le1 := (seAx_le 2 f k s h' 0 noL (sb0F f g) (sb0N f g)).2
      have le2 : sb0N f g ≤ 1001 := sbN_le _ _ _ _ _ _
      refine ⟨⟨by omega, by omega⟩, ⟨by omega, by omega⟩, hI 1 (by omega), fun z3 => ?_, fun z3 => ⟨⟨⟨rfl, rfl, hdi, ?_, sbN_le _ _ _ _ _ _, fun i _ => sb_64 (d1.2 1 (by omega)).1 (d2.2 1 (by omega)).1 i⟩, rfl, trivial, trivial, trivial, trivial, trivial, trivial, trivial⟩, ?_⟩⟩
      · have z3 : sb1E f g ≠ 0 := U.ne_t.mp z3
        exact ds_err (by unfold dsE; rw [if_neg nE, if_neg z, if_neg z1, if_neg (by omega)]; rfl) z3
      · show (seAx 2 f k s h' 0 noL (sb0F f g) (sb0N f g)).1 ≤ 2000
        omega
      · have z3 : sb1E f g = 0 := U.ne_f.mp z3
        have hE0 : dsE 2 f k s h' 2 g k1 s1 h1 = 0 := by unfold dsE; rw [if_neg nE, if_neg z, if_neg z1, if_neg (by omega)]; exact z3
        have eL : dsL 2 f k s h' 2 g k1 s1 h1 = pushes (fun j => cnd1 k s h' (diF f g 0) (sb1F f g j)) (ds0 2 f k s h' g) (sb1N f g) := by unfold dsL ds1; rw [if_neg (by rw [hE0]; simp), if_neg nE, if_neg z, if_neg (by omega)]
        exact ds_ok hE0 (by unfold dsN; rw [eL]; rfl) fun i hi => by unfold dsF; rw [eL]; rfl
  · exact h.elim
end Go.RX.Span

/- Domains: the reference's Subtract: the loops' states. -/
set_option linter.unusedVariables false
set_option linter.unusedSimpArgs false
set_option maxRecDepth 100000
namespace Go.RX.Span
open Go Go.RX
attribute [local irreducible] sx conB

noncomputable abbrev memE (n : Nat) (f : Nat → R3) (k s h : Int) (m : Nat) (g : Nat → R3) (k1 s1 h1 : Int) (n2 : Nat) (f2 : Nat → R3) (k2 s2 h2 : Int) (c : Nat) (L : Nat → DE) : Mem :=
  [dBlk n f k s h, dBlk m g k1 s1 h1, dBlk n2 f2 k2 s2 h2, (0, some (.row false c ssD L 49))]
noncomputable abbrev slE (N : Nat) (F : Nat → R3) (c : Nat) (j : Int) : List SV := [.ptr 0 0, .ptr 1 0, .ptr 2 0, .row [.int .i64, .int .i64, .int .i64] N F, .own false 3 c, .lit (.int .i64 j)]
noncomputable abbrev slP (c : Nat) : List SV := [.ptr 0 0, .ptr 1 0, .ptr 2 0, .any, .own false 3 c, .any]
structure XEx where
  (n : Nat) (f : Nat → R3) (k s h : Int) (m : Nat) (g : Nat → R3) (k1 s1 h1 : Int) (n2 : Nat) (f2 : Nat → R3) (k2 s2 h2 : Int) (c : Nat) (L : Nat → DE) (N : Nat) (F : Nat → R3) (j : Nat)
noncomputable def VCx (q : XEx) : Few := (slE q.N q.F (aNx q.n q.f q.k q.s q.h q.c q.L q.F q.j) (q.j : Int), memE q.n q.f q.k q.s q.h q.m q.g q.k1 q.s1 q.h1 q.n2 q.f2 q.k2 q.s2 q.h2 (aNx q.n q.f q.k q.s q.h q.c q.L q.F q.j) (aLx q.n q.f q.k q.s q.h q.c q.L q.F q.j))
noncomputable def OCx (q : XEx) : Ex × Few := (.exit 0, (slP (aNx q.n q.f q.k q.s q.h q.c q.L q.F q.N), memE q.n q.f q.k q.s q.h q.m q.g q.k1 q.s1 q.h1 q.n2 q.f2 q.k2 q.s2 q.h2 (aNx q.n q.f q.k q.s q.h q.c q.L q.F q.N) (aLx q.n q.f q.k q.s q.h q.c q.L q.F q.N)))
noncomputable def VEx (q : XEx) : Few := (slE q.N q.F (bNx q.k q.s q.h (q.f2 0) q.c q.L q.F q.j) (q.j : Int), memE q.n q.f q.k q.s q.h q.m q.g q.k1 q.s1 q.h1 q.n2 q.f2 q.k2 q.s2 q.h2 (bNx q.k q.s q.h (q.f2 0) q.c q.L q.F q.j) (bLx q.k q.s q.h (q.f2 0) q.c q.L q.F q.j))
noncomputable def OEx (q : XEx) : Ex × Few := (.exit 2, (slP (bNx q.k q.s q.h (q.f2 0) q.c q.L q.F q.N), memE q.n q.f q.k q.s q.h q.m q.g q.k1 q.s1 q.h1 q.n2 q.f2 q.k2 q.s2 q.h2 (bNx q.k q.s q.h (q.f2 0) q.c q.L q.F q.N) (bLx q.k q.s q.h (q.f2 0) q.c q.L q.F q.N)))
def PhiCx (n0 : Nat) (q : XEx) : Prop := PreAx n0 q.n q.f q.c q.N q.F ∧ q.j ≤ q.N
def PhiEx (n0 : Nat) (q : XEx) : Prop := PreBx n0 q.n2 q.f2 q.c q.N q.F ∧ q.j ≤ q.N
noncomputable def oCx (n : Nat) (f : Nat → R3) (k s h : Int) (m : Nat) (g : Nat → R3) (k1 s1 h1 : Int) (n2 : Nat) (f2 : Nat → R3) (k2 s2 h2 : Int) (c : Nat) (L : Nat → DE) (N : Nat) (F : Nat → R3) : Ex × Few :=
  (.exit 0, (slP (lk aNx n f k s h c L F N), memE n f k s h m g k1 s1 h1 n2 f2 k2 s2 h2 (lk aNx n f k s h c L F N) (lk aLx n f k s h c L F N)))
noncomputable def oEx (n : Nat) (f : Nat → R3) (k s h : Int) (m : Nat) (g : Nat → R3) (k1 s1 h1 : Int) (n2 : Nat) (f2 : Nat → R3) (k2 s2 h2 : Int) (c : Nat) (L : Nat → DE) (N : Nat) (F : Nat → R3) : Ex × Few :=
  (.exit 2, (slP (lk bNx k s h (f2 0) c L F N), memE n f k s h m g k1 s1 h1 n2 f2 k2 s2 h2 (lk bNx k s h (f2 0) c L F N) (lk bLx k s h (f2 0) c L F N)))
noncomputable def gCy (n0 N : Nat) (F : Nat → R3) (c' : Nat) : Mem → T (Ex × Few)
  | [(_, some (.cells [.row [.int .i64, .int .i64, .int .i64] n f, .lit (.int .i64 k), .lit (.int .i64 s), .lit (.int .i64 h)] t0)), (_, some (.cells [.row [.int .i64, .int .i64, .int .i64] m g, .lit (.int .i64 k1), .lit (.int .i64 s1), .lit (.int .i64 h1)] t1)), (_, some (.cells [.row [.int .i64, .int .i64, .int .i64] n2 f2, .lit (.int .i64 k2), .lit (.int .i64 s2), .lit (.int .i64 h2)] t2)), (_, some (.row false c ss L t4))] =>
    if e : eqShs ss ssD = true then
      .ask (PreAx n0 n f c N F ∧ c' = c ∧ t0 = 49 ∧ t1 = 49 ∧ t2 = 49 ∧ t4 = 49) (.ret (oCx n f k s h m g k1 s1 h1 n2 f2 k2 s2 h2 c (castEls e L) N F))
    else .stuck 3
  | _ => .stuck 2
noncomputable def gCx : Nat → Few → T (Ex × Few) := fun n0 σ =>
  match σ.1 with
  | [.ptr 0 0, .ptr 1 0, .ptr 2 0, .row [.int .i64, .int .i64, .int .i64] N F, .own false 3 c, .ki .i64 (.ofNat 0)] => gCy n0 N F c σ.2
  | _ => .stuck 1
noncomputable def gEy (n0 N : Nat) (F : Nat → R3) (c' : Nat) : Mem → T (Ex × Few)
  | [(_, some (.cells [.row [.int .i64, .int .i64, .int .i64] n f, .lit (.int .i64 k), .lit (.int .i64 s), .lit (.int .i64 h)] t0)), (_, some (.cells [.row [.int .i64, .int .i64, .int .i64] m g, .lit (.int .i64 k1), .lit (.int .i64 s1), .lit (.int .i64 h1)] t1)), (_, some (.cells [.row [.int .i64, .int .i64, .int .i64] n2 f2, .lit (.int .i64 k2), .lit (.int .i64 s2), .lit (.int .i64 h2)] t2)), (_, some (.row false c ss L t4))] =>
    if e : eqShs ss ssD = true then
      .ask (PreBx n0 n2 f2 c N F ∧ c' = c ∧ t0 = 49 ∧ t1 = 49 ∧ t2 = 49 ∧ t4 = 49) (.ret (oEx n f k s h m g k1 s1 h1 n2 f2 k2 s2 h2 c (castEls e L) N F))
    else .stuck 3
  | _ => .stuck 2
noncomputable def gEx : Nat → Few → T (Ex × Few) := fun n0 σ =>
  match σ.1 with
  | [.ptr 0 0, .ptr 1 0, .ptr 2 0, .row [.int .i64, .int .i64, .int .i64] N F, .own false 3 c, .ki .i64 (.ofNat 0)] => gEy n0 N F c σ.2
  | _ => .stuck 1
noncomputable abbrev lqS : List (Nat × Loops) := [(79, [(11, .sum (few 110 [2,3,6,8,9,10] gCx)), (21, .sum (few 110 [2,3,6,12,9,13] gEx))])]
noncomputable abbrev lqI : List (Nat × Loops) := [(77, [(6, .un 3)])]
noncomputable abbrev d14p : List (Nat × Con) := (157, c_both) :: d14
noncomputable abbrev d15 : List (Nat × Con) := (77, c_DIntersect) :: d14p
noncomputable abbrev lqW : List (Nat × Loops) := [(81, [(6, .un 3)])]
noncomputable abbrev Ee : Env := ⟨P, conOf d15, scall P (conOf d15) noLoops 10⟩
end Go.RX.Span

/- Domains: the reference's Intersect and Subtract: the walks. -/
set_option linter.unusedVariables false
set_option linter.unusedSimpArgs false
set_option maxRecDepth 100000
namespace Go.RX.Span
open Go Go.RX
attribute [local irreducible] sx conB

--%R ofList\s+\[ => ofList (ss := [.int .i64, .int .i64, .int .i64]) [
--%R ↑n ≤ ↑n => (n : Int) ≤ (n : Int)
set_option maxRecDepth 100000 in
theorem t_qpair (n : Nat) (f : Nat → R3) (k s h : Int) (m : Nat) (g : Nat → R3) (k1 s1 h1 : Int) : conB Go.Proofs.Try.prog (conOf d14) noLoops 10 157 [.agg [.row [.int .i64, .int .i64, .int .i64] n f, .lit (.int .i64 k), .lit (.int .i64 s), .lit (.int .i64 h)], .agg [.row [.int .i64, .int .i64, .int .i64] m g, .lit (.int .i64 k1), .lit (.int .i64 s1), .lit (.int .i64 h1)]] =
    T.ask (Row64 n f) (.br (U.ne (lk chD n f k s h) (0 : Int)) (.ret (.lit (.int .i64 (lk chD n f k s h)))) (.ask (Row64 m g) (.br (U.ne (lk chD m g k1 s1 h1) (0 : Int)) (.ret (.lit
      (.int .i64 (lk chD m g k1 s1 h1)))) (.br (U.ne (Int.ofNat n) (Int.ofNat m)) (.ret (.lit (.int .i64 5))) (.ret (.lit (.int .i64 0))))))) := by kernel_rfl
set_option maxRecDepth 100000 in
theorem t_qDIntersect (n : Nat) (f : Nat → R3) (k s h : Int) (m : Nat) (g : Nat → R3) (k1 s1 h1 : Int) : conB Go.Proofs.Try.prog (conOf d14p) (loopsOf lqI) 10 77 [.agg [.row [.int .i64, .int .i64, .int .i64] n f, .lit (.int .i64 k), .lit (.int .i64 s), .lit (.int .i64 h)], .agg [.row [.int .i64, .int .i64, .int .i64] m g, .lit (.int .i64 k1), .lit (.int .i64 s1), .lit (.int .i64 h1)]] =
    T.ask (Row64 n f ∧ Row64 m g) (.br (U.ne (lk boE n f k s h m g k1 s1 h1) (0 : Int)) (.ret (.tup [.agg [.lit (.slice none (nat_lit 0) (nat_lit 0)), .lit (.int .i64 0), .lit (.int
      .i64 0), .lit (.int .i64 0)], .lit (.int .i64 (lk boE n f k s h m g k1 s1 h1))])) (.br (U.lt (0 : Int) (Int.ofNat n)) (.ask ((0 : Int) ≤ (0 : Int) ∧ (0 : Int) < ↑n) (.ask ((0 : Int)
      ≤ (0 : Int) ∧ (0 : Int) < ↑m) (.ask (I64 (f (U.toNat (Int.ofNat 0))).1 ∧ I64 (f (U.toNat (Int.ofNat 0))).2.1 ∧ I64 (f (U.toNat (Int.ofNat 0))).2.2.1 ∧ I64 (g (U.toNat (Int.ofNat
      0))).1 ∧ I64 (g (U.toNat (Int.ofNat 0))).2.1 ∧ I64 (g (U.toNat (Int.ofNat 0))).2.2.1) (.ask ((1 : Nat) * nat_lit 24 ≤ nat_lit 140737488351232) (.br (U.lt (1 : Int) (Int.ofNat n))
      (.ask ((0 : Int) ≤ (1 : Int) ∧ (1 : Int) < ↑n) (.ask ((0 : Int) ≤ (1 : Int) ∧ (1 : Int) < ↑m) (.ask (I64 (f (U.toNat (Int.ofNat 1))).1 ∧ I64 (f (U.toNat (Int.ofNat 1))).2.1 ∧ I64 (f
      (U.toNat (Int.ofNat 1))).2.2.1 ∧ I64 (g (U.toNat (Int.ofNat 1))).1 ∧ I64 (g (U.toNat (Int.ofNat 1))).2.1 ∧ I64 (g (U.toNat (Int.ofNat 1))).2.2.1) (.ask (((1 : Nat) + (1 : Nat)) *
      nat_lit 24 ≤ nat_lit 140737488351232) (.br (U.lt (2 : Int) (Int.ofNat n)) (.ask ((0 : Int) ≤ (2 : Int) ∧ (2 : Int) < ↑n) (.ask ((0 : Int) ≤ (2 : Int) ∧ (2 : Int) < ↑m) (.ask (I64 (f
      (U.toNat (Int.ofNat 2))).1 ∧ I64 (f (U.toNat (Int.ofNat 2))).2.1 ∧ I64 (f (U.toNat (Int.ofNat 2))).2.2.1 ∧ I64 (g (U.toNat (Int.ofNat 2))).1 ∧ I64 (g (U.toNat (Int.ofNat 2))).2.1 ∧
      I64 (g (U.toNat (Int.ofNat 2))).2.2.1) (.ask (((1 : Nat) + (1 : Nat) + (1 : Nat)) * nat_lit 24 ≤ nat_lit 140737488351232) (.stuck (nat_lit 105)))))) (.ret (.tup [.agg [.row [.int
      .i64, .int .i64, .int .i64] (nat_lit 2) (U.cat (nat_lit 1) (fun x => (lk isL (f (U.toNat (Int.ofNat 0))).1 (f (U.toNat (Int.ofNat 0))).2.1 (f (U.toNat (Int.ofNat 0))).2.2.1 (g
      (U.toNat (Int.ofNat 0))).1 (g (U.toNat (Int.ofNat 0))).2.1 (g (U.toNat (Int.ofNat 0))).2.2.1, lk isH (f (U.toNat (Int.ofNat 0))).1 (f (U.toNat (Int.ofNat 0))).2.1 (f (U.toNat
      (Int.ofNat 0))).2.2.1 (g (U.toNat (Int.ofNat 0))).1 (g (U.toNat (Int.ofNat 0))).2.1 (g (U.toNat (Int.ofNat 0))).2.2.1, lk isS (f (U.toNat (Int.ofNat 0))).1 (f (U.toNat (Int.ofNat
      0))).2.1 (f (U.toNat (Int.ofNat 0))).2.2.1 (g (U.toNat (Int.ofNat 0))).1 (g (U.toNat (Int.ofNat 0))).2.1 (g (U.toNat (Int.ofNat 0))).2.2.1, PUnit.unit)) fun x => (lk isL (f (U.toNat
      (Int.ofNat 1))).1 (f (U.toNat (Int.ofNat 1))).2.1 (f (U.toNat (Int.ofNat 1))).2.2.1 (g (U.toNat (Int.ofNat 1))).1 (g (U.toNat (Int.ofNat 1))).2.1 (g (U.toNat (Int.ofNat 1))).2.2.1,
      lk isH (f (U.toNat (Int.ofNat 1))).1 (f (U.toNat (Int.ofNat 1))).2.1 (f (U.toNat (Int.ofNat 1))).2.2.1 (g (U.toNat (Int.ofNat 1))).1 (g (U.toNat (Int.ofNat 1))).2.1 (g (U.toNat
      (Int.ofNat 1))).2.2.1, lk isS (f (U.toNat (Int.ofNat 1))).1 (f (U.toNat (Int.ofNat 1))).2.1 (f (U.toNat (Int.ofNat 1))).2.2.1 (g (U.toNat (Int.ofNat 1))).1 (g (U.toNat (Int.ofNat
      1))).2.1 (g (U.toNat (Int.ofNat 1))).2.2.1, PUnit.unit)), .lit (.int .i64 k), .lit (.int .i64 s), .lit (.int .i64 h)], .lit (.int .i64 0)]))))))) (.ret (.tup [.agg [.row [.int .i64,
      .int .i64, .int .i64] (nat_lit 1) fun x => (lk isL (f (U.toNat (Int.ofNat 0))).1 (f (U.toNat (Int.ofNat 0))).2.1 (f (U.toNat (Int.ofNat 0))).2.2.1 (g (U.toNat (Int.ofNat 0))).1 (g
      (U.toNat (Int.ofNat 0))).2.1 (g (U.toNat (Int.ofNat 0))).2.2.1, lk isH (f (U.toNat (Int.ofNat 0))).1 (f (U.toNat (Int.ofNat 0))).2.1 (f (U.toNat (Int.ofNat 0))).2.2.1 (g (U.toNat
      (Int.ofNat 0))).1 (g (U.toNat (Int.ofNat 0))).2.1 (g (U.toNat (Int.ofNat 0))).2.2.1, lk isS (f (U.toNat (Int.ofNat 0))).1 (f (U.toNat (Int.ofNat 0))).2.1 (f (U.toNat (Int.ofNat
      0))).2.2.1 (g (U.toNat (Int.ofNat 0))).1 (g (U.toNat (Int.ofNat 0))).2.1 (g (U.toNat (Int.ofNat 0))).2.2.1, PUnit.unit), .lit (.int .i64 k), .lit (.int .i64 s), .lit (.int .i64 h)],
      .lit (.int .i64 0)]))))))) (.ret (.tup [.agg [.lit (.slice none (nat_lit 0) (nat_lit 0)), .lit (.int .i64 k), .lit (.int .i64 s), .lit (.int .i64 h)], .lit (.int .i64 0)])))) := by kernel_rfl
set_option maxRecDepth 100000 in
theorem t_qDS11 (n0 : Nat) (n : Nat) (f : Nat → R3) (k s h : Int) (m : Nat) (g : Nat → R3) (k1 s1 h1 : Int) (n2 : Nat) (f2 : Nat → R3) (k2 s2 h2 : Int) (c : Nat) (L : Nat → DE) (N : Nat) (F : Nat → R3) (j : Int) : (sx Ee [] n0 (loopOf P 79 11) (mkS 110 [2,3,6,8,9,10] (slE N F c j), memE n f k s h m g k1 s1 h1 n2 f2 k2 s2 h2 c L)).bind (proj 110 [2,3,6,8,9,10]) =
    T.br (U.lt j (Int.ofNat N)) (.ask ((0 : Int) ≤ j ∧ j < ↑N) (.ask ((0 : Int) ≤ (1 : Int) ∧ (1 : Int) ≤ ↑n ∧ (n : Int) ≤ (n : Int)) (.br (U.isz (U.nsub n (U.toNat (1 : Int)))) (.ask
      (Row64 (1 : Nat) (ofList (ss := [.int .i64, .int .i64, .int .i64]) [((F (U.toNat j)).1, (F (U.toNat j)).2.1, (F (U.toNat j)).2.2.1, ())].reverse)) (.br (U.eq (lk szD (nat_lit 1)
      (fun x => ((F (U.toNat j)).1, (F (U.toNat j)).2.1, (F (U.toNat j)).2.2.1, PUnit.unit)) k s h) (0 : Int)) (.ret (Ex.normal, [SV.ptr (nat_lit 0) (nat_lit 0), SV.ptr (nat_lit 1)
      (nat_lit 0), SV.ptr (nat_lit 2) (nat_lit 0), .row [.int .i64, .int .i64, .int .i64] N F, SV.own false (nat_lit 3) c, .lit (.int .i64 (U.add .i64 j (1 : Int)))], [(nat_lit 0, some
      (Blk.cells [.row [.int .i64, .int .i64, .int .i64] n f, .lit (.int .i64 k), .lit (.int .i64 s), .lit (.int .i64 h)] (nat_lit 49))), (nat_lit 0, some (Blk.cells [.row [.int .i64,
      .int .i64, .int .i64] m g, .lit (.int .i64 k1), .lit (.int .i64 s1), .lit (.int .i64 h1)] (nat_lit 49))), (nat_lit 0, some (Blk.cells [.row [.int .i64, .int .i64, .int .i64] n2 f2,
      .lit (.int .i64 k2), .lit (.int .i64 s2), .lit (.int .i64 h2)] (nat_lit 49))), (nat_lit 0, some (Blk.row false c [.sl [.int .i64, .int .i64, .int .i64], .int .i64, .int .i64, .int
      .i64] L (nat_lit 49))), (nat_lit 0, some (Blk.cells [.lit (.int .i64 (F (U.toNat j)).1), .lit (.int .i64 (F (U.toNat j)).2.1), .lit (.int .i64 (F (U.toNat j)).2.2.1)] (nat_lit
      23))), (nat_lit 0, some (Blk.cells [.lit (.int .i64 k), .lit (.int .i64 s), .lit (.int .i64 h)] (nat_lit 47))), (nat_lit 0, some (Blk.cells [SV.csl (nat_lit 4) (nat_lit 0) (nat_lit
      1) [.int .i64, .int .i64, .int .i64], .lit (.int .i64 k), .lit (.int .i64 s), .lit (.int .i64 h)] (nat_lit 49)))])) (.ask ((c + (1 : Nat)) * nat_lit 48 ≤ nat_lit 140737488351232)
      (.ret (Ex.normal, [SV.ptr (nat_lit 0) (nat_lit 0), SV.ptr (nat_lit 1) (nat_lit 0), SV.ptr (nat_lit 2) (nat_lit 0), .row [.int .i64, .int .i64, .int .i64] N F, SV.own false (nat_lit
      8) (c.add (nat_lit 1)), .lit (.int .i64 (U.add .i64 j (1 : Int)))], [(nat_lit 0, some (Blk.cells [.row [.int .i64, .int .i64, .int .i64] n f, .lit (.int .i64 k), .lit (.int .i64 s),
      .lit (.int .i64 h)] (nat_lit 49))), (nat_lit 0, some (Blk.cells [.row [.int .i64, .int .i64, .int .i64] m g, .lit (.int .i64 k1), .lit (.int .i64 s1), .lit (.int .i64 h1)] (nat_lit
      49))), (nat_lit 0, some (Blk.cells [.row [.int .i64, .int .i64, .int .i64] n2 f2, .lit (.int .i64 k2), .lit (.int .i64 s2), .lit (.int .i64 h2)] (nat_lit 49))), (nat_lit 1, none),
      (nat_lit 1, none), (nat_lit 0, some (Blk.cells [.lit (.int .i64 k), .lit (.int .i64 s), .lit (.int .i64 h)] (nat_lit 47))), (nat_lit 0, some (Blk.cells [SV.csl (nat_lit 4) (nat_lit
      0) (nat_lit 1) [.int .i64, .int .i64, .int .i64], .lit (.int .i64 k), .lit (.int .i64 s), .lit (.int .i64 h)] (nat_lit 49))), (nat_lit 0, some (Blk.cells [.row [.int .i64, .int
      .i64, .int .i64] (nat_lit 1) fun x => ((F (U.toNat j)).1, (F (U.toNat j)).2.1, (F (U.toNat j)).2.2.1, PUnit.unit), .lit (.int .i64 k), .lit (.int .i64 s), .lit (.int .i64 h)]
      (nat_lit 49))), (nat_lit 0, some (Blk.row false (c.add (nat_lit 1)) [.sl [.int .i64, .int .i64, .int .i64], .int .i64, .int .i64, .int .i64] (U.cat c L fun x => ((nat_lit 1, fun x
      => ((F (U.toNat j)).1, (F (U.toNat j)).2.1, (F (U.toNat j)).2.2.1, PUnit.unit)), k, s, h, PUnit.unit)) (nat_lit 49)))]))))) (.ask ((0 : Nat) < U.nsub n (U.toNat (1 : Int)) ∧ ((1 :
      Nat) + U.nsub n (U.toNat (1 : Int))) * nat_lit 24 ≤ nat_lit 140737488351232) (.ask (Row64 ((1 : Nat) + U.nsub n (U.toNat (1 : Int))) (U.cat (1 : Nat) (ofList (ss := [.int .i64, .int
      .i64, .int .i64]) [((F (U.toNat j)).1, (F (U.toNat j)).2.1, (F (U.toNat j)).2.2.1, ())].reverse) (castEls rfl (cutF (some (SV.ki .i64 1)) f (1 : Int))))) (.br (U.eq (lk szD (nat_lit
      1 + U.nsub n (U.toNat (1 : Int))) (U.cat (nat_lit 1) (fun x => ((F (U.toNat j)).1, (F (U.toNat j)).2.1, (F (U.toNat j)).2.2.1, PUnit.unit)) fun i => f (i + U.toNat (1 : Int))) k s
      h) (0 : Int)) (.ret (Ex.normal, [SV.ptr (nat_lit 0) (nat_lit 0), SV.ptr (nat_lit 1) (nat_lit 0), SV.ptr (nat_lit 2) (nat_lit 0), .row [.int .i64, .int .i64, .int .i64] N F, SV.own
      false (nat_lit 3) c, .lit (.int .i64 (U.add .i64 j (1 : Int)))], [(nat_lit 0, some (Blk.cells [.row [.int .i64, .int .i64, .int .i64] n f, .lit (.int .i64 k), .lit (.int .i64 s),
      .lit (.int .i64 h)] (nat_lit 49))), (nat_lit 0, some (Blk.cells [.row [.int .i64, .int .i64, .int .i64] m g, .lit (.int .i64 k1), .lit (.int .i64 s1), .lit (.int .i64 h1)] (nat_lit
      49))), (nat_lit 0, some (Blk.cells [.row [.int .i64, .int .i64, .int .i64] n2 f2, .lit (.int .i64 k2), .lit (.int .i64 s2), .lit (.int .i64 h2)] (nat_lit 49))), (nat_lit 0, some
      (Blk.row false c [.sl [.int .i64, .int .i64, .int .i64], .int .i64, .int .i64, .int .i64] L (nat_lit 49))), (nat_lit 0, some (Blk.cells [.lit (.int .i64 (F (U.toNat j)).1), .lit
      (.int .i64 (F (U.toNat j)).2.1), .lit (.int .i64 (F (U.toNat j)).2.2.1)] (nat_lit 23))), (nat_lit 0, some (Blk.row false (nat_lit 1 + U.nsub n (U.toNat (1 : Int))) [.int .i64, .int
      .i64, .int .i64] (U.cat (nat_lit 1) (fun x => ((F (U.toNat j)).1, (F (U.toNat j)).2.1, (F (U.toNat j)).2.2.1, PUnit.unit)) fun i => f (i + U.toNat (1 : Int))) (nat_lit 23))),
      (nat_lit 0, some (Blk.cells [.lit (.int .i64 k), .lit (.int .i64 s), .lit (.int .i64 h)] (nat_lit 47))), (nat_lit 0, some (Blk.cells [SV.own false (nat_lit 5) (nat_lit 1 + U.nsub n
      (U.toNat (1 : Int))), .lit (.int .i64 k), .lit (.int .i64 s), .lit (.int .i64 h)] (nat_lit 49)))])) (.ask ((c + (1 : Nat)) * nat_lit 48 ≤ nat_lit 140737488351232) (.ret (Ex.normal,
      [SV.ptr (nat_lit 0) (nat_lit 0), SV.ptr (nat_lit 1) (nat_lit 0), SV.ptr (nat_lit 2) (nat_lit 0), .row [.int .i64, .int .i64, .int .i64] N F, SV.own false (nat_lit 9) (c.add (nat_lit
      1)), .lit (.int .i64 (U.add .i64 j (1 : Int)))], [(nat_lit 0, some (Blk.cells [.row [.int .i64, .int .i64, .int .i64] n f, .lit (.int .i64 k), .lit (.int .i64 s), .lit (.int .i64
      h)] (nat_lit 49))), (nat_lit 0, some (Blk.cells [.row [.int .i64, .int .i64, .int .i64] m g, .lit (.int .i64 k1), .lit (.int .i64 s1), .lit (.int .i64 h1)] (nat_lit 49))), (nat_lit
      0, some (Blk.cells [.row [.int .i64, .int .i64, .int .i64] n2 f2, .lit (.int .i64 k2), .lit (.int .i64 s2), .lit (.int .i64 h2)] (nat_lit 49))), (nat_lit 1, none), (nat_lit 0, some
      (Blk.cells [.lit (.int .i64 (F (U.toNat j)).1), .lit (.int .i64 (F (U.toNat j)).2.1), .lit (.int .i64 (F (U.toNat j)).2.2.1)] (nat_lit 23))), (nat_lit 1, none), (nat_lit 0, some
      (Blk.cells [.lit (.int .i64 k), .lit (.int .i64 s), .lit (.int .i64 h)] (nat_lit 47))), (nat_lit 0, some (Blk.cells [SV.own false (nat_lit 5) (nat_lit 1 + U.nsub n (U.toNat (1 :
      Int))), .lit (.int .i64 k), .lit (.int .i64 s), .lit (.int .i64 h)] (nat_lit 49))), (nat_lit 0, some (Blk.cells [.row [.int .i64, .int .i64, .int .i64] (nat_lit 1 + U.nsub n
      (U.toNat (1 : Int))) (U.cat (nat_lit 1) (fun x => ((F (U.toNat j)).1, (F (U.toNat j)).2.1, (F (U.toNat j)).2.2.1, PUnit.unit)) fun i => f (i + U.toNat (1 : Int))), .lit (.int .i64
      k), .lit (.int .i64 s), .lit (.int .i64 h)] (nat_lit 49))), (nat_lit 0, some (Blk.row false (c.add (nat_lit 1)) [.sl [.int .i64, .int .i64, .int .i64], .int .i64, .int .i64, .int
      .i64] (U.cat c L fun x => ((nat_lit 1 + U.nsub n (U.toNat (1 : Int)), U.cat (nat_lit 1) (fun x => ((F (U.toNat j)).1, (F (U.toNat j)).2.1, (F (U.toNat j)).2.2.1, PUnit.unit)) fun i
      => f (i + U.toNat (1 : Int))), k, s, h, PUnit.unit)) (nat_lit 49)))]))))))))) (.ret (Ex.exit (nat_lit 0), [SV.ptr (nat_lit 0) (nat_lit 0), SV.ptr (nat_lit 1) (nat_lit 0), SV.ptr
      (nat_lit 2) (nat_lit 0), .row [.int .i64, .int .i64, .int .i64] N F, SV.own false (nat_lit 3) c, .lit (.int .i64 j)], [(nat_lit 0, some (Blk.cells [.row [.int .i64, .int .i64, .int
      .i64] n f, .lit (.int .i64 k), .lit (.int .i64 s), .lit (.int .i64 h)] (nat_lit 49))), (nat_lit 0, some (Blk.cells [.row [.int .i64, .int .i64, .int .i64] m g, .lit (.int .i64 k1),
      .lit (.int .i64 s1), .lit (.int .i64 h1)] (nat_lit 49))), (nat_lit 0, some (Blk.cells [.row [.int .i64, .int .i64, .int .i64] n2 f2, .lit (.int .i64 k2), .lit (.int .i64 s2), .lit
      (.int .i64 h2)] (nat_lit 49))), (nat_lit 0, some (Blk.row false c [.sl [.int .i64, .int .i64, .int .i64], .int .i64, .int .i64, .int .i64] L (nat_lit 49)))])) := by kernel_rfl
set_option maxRecDepth 100000 in
theorem t_qDS21 (n0 : Nat) (n : Nat) (f : Nat → R3) (k s h : Int) (m : Nat) (g : Nat → R3) (k1 s1 h1 : Int) (n2 : Nat) (f2 : Nat → R3) (k2 s2 h2 : Int) (c : Nat) (L : Nat → DE) (N : Nat) (F : Nat → R3) (j : Int) : (sx Ee [] n0 (loopOf P 79 21) (mkS 110 [2,3,6,12,9,13] (slE N F c j), memE n f k s h m g k1 s1 h1 n2 f2 k2 s2 h2 c L)).bind (proj 110 [2,3,6,12,9,13]) =
    T.br (U.lt j (Int.ofNat N)) (.ask ((0 : Int) ≤ (0 : Int) ∧ (0 : Int) < ↑n2) (.ask ((0 : Int) ≤ j ∧ j < ↑N) (.ask (Row64 (2 : Nat) (ofList (ss := [.int .i64, .int .i64, .int .i64])
      [((F (U.toNat j)).1, (F (U.toNat j)).2.1, (F (U.toNat j)).2.2.1, ()), ((f2 (U.toNat (0 : Int))).1, (f2 (U.toNat (0 : Int))).2.1, (f2 (U.toNat (0 : Int))).2.2.1, ())].reverse)) (.br
      (U.eq (lk szD (nat_lit 2) (ofList (ss := [.int .i64, .int .i64, .int .i64]) [((F (U.toNat j)).1, (F (U.toNat j)).2.1, (F (U.toNat j)).2.2.1, ()), ((f2 (U.toNat (0 : Int))).1, (f2
      (U.toNat (0 : Int))).2.1, (f2 (U.toNat (0 : Int))).2.2.1, ())].reverse) k s h) (0 : Int)) (.ret (Ex.normal, [SV.ptr (nat_lit 0) (nat_lit 0), SV.ptr (nat_lit 1) (nat_lit 0), SV.ptr
      (nat_lit 2) (nat_lit 0), .row [.int .i64, .int .i64, .int .i64] N F, SV.own false (nat_lit 3) c, .lit (.int .i64 (U.add .i64 j (1 : Int)))], [(nat_lit 0, some (Blk.cells [.row [.int
      .i64, .int .i64, .int .i64] n f, .lit (.int .i64 k), .lit (.int .i64 s), .lit (.int .i64 h)] (nat_lit 49))), (nat_lit 0, some (Blk.cells [.row [.int .i64, .int .i64, .int .i64] m g,
      .lit (.int .i64 k1), .lit (.int .i64 s1), .lit (.int .i64 h1)] (nat_lit 49))), (nat_lit 0, some (Blk.cells [.row [.int .i64, .int .i64, .int .i64] n2 f2, .lit (.int .i64 k2), .lit
      (.int .i64 s2), .lit (.int .i64 h2)] (nat_lit 49))), (nat_lit 0, some (Blk.row false c [.sl [.int .i64, .int .i64, .int .i64], .int .i64, .int .i64, .int .i64] L (nat_lit 49))),
      (nat_lit 0, some (Blk.cells [.lit (.int .i64 (f2 (U.toNat (0 : Int))).1), .lit (.int .i64 (f2 (U.toNat (0 : Int))).2.1), .lit (.int .i64 (f2 (U.toNat (0 : Int))).2.2.1), .lit (.int
      .i64 (F (U.toNat j)).1), .lit (.int .i64 (F (U.toNat j)).2.1), .lit (.int .i64 (F (U.toNat j)).2.2.1)] (nat_lit 23))), (nat_lit 0, some (Blk.cells [.lit (.int .i64 k), .lit (.int
      .i64 s), .lit (.int .i64 h)] (nat_lit 47))), (nat_lit 0, some (Blk.cells [SV.csl (nat_lit 4) (nat_lit 0) (nat_lit 2) [.int .i64, .int .i64, .int .i64], .lit (.int .i64 k), .lit
      (.int .i64 s), .lit (.int .i64 h)] (nat_lit 49)))])) (.ask ((c + (1 : Nat)) * nat_lit 48 ≤ nat_lit 140737488351232) (.ret (Ex.normal, [SV.ptr (nat_lit 0) (nat_lit 0), SV.ptr
      (nat_lit 1) (nat_lit 0), SV.ptr (nat_lit 2) (nat_lit 0), .row [.int .i64, .int .i64, .int .i64] N F, SV.own false (nat_lit 8) (c.add (nat_lit 1)), .lit (.int .i64 (U.add .i64 j (1 :
      Int)))], [(nat_lit 0, some (Blk.cells [.row [.int .i64, .int .i64, .int .i64] n f, .lit (.int .i64 k), .lit (.int .i64 s), .lit (.int .i64 h)] (nat_lit 49))), (nat_lit 0, some
      (Blk.cells [.row [.int .i64, .int .i64, .int .i64] m g, .lit (.int .i64 k1), .lit (.int .i64 s1), .lit (.int .i64 h1)] (nat_lit 49))), (nat_lit 0, some (Blk.cells [.row [.int .i64,
      .int .i64, .int .i64] n2 f2, .lit (.int .i64 k2), .lit (.int .i64 s2), .lit (.int .i64 h2)] (nat_lit 49))), (nat_lit 1, none), (nat_lit 1, none), (nat_lit 0, some (Blk.cells [.lit
      (.int .i64 k), .lit (.int .i64 s), .lit (.int .i64 h)] (nat_lit 47))), (nat_lit 0, some (Blk.cells [SV.csl (nat_lit 4) (nat_lit 0) (nat_lit 2) [.int .i64, .int .i64, .int .i64],
      .lit (.int .i64 k), .lit (.int .i64 s), .lit (.int .i64 h)] (nat_lit 49))), (nat_lit 0, some (Blk.cells [.row [.int .i64, .int .i64, .int .i64] (nat_lit 2) (ofList (ss := [.int
      .i64, .int .i64, .int .i64]) [((F (U.toNat j)).1, (F (U.toNat j)).2.1, (F (U.toNat j)).2.2.1, ()), ((f2 (U.toNat (0 : Int))).1, (f2 (U.toNat (0 : Int))).2.1, (f2 (U.toNat (0 :
      Int))).2.2.1, ())].reverse), .lit (.int .i64 k), .lit (.int .i64 s), .lit (.int .i64 h)] (nat_lit 49))), (nat_lit 0, some (Blk.row false (c.add (nat_lit 1)) [.sl [.int .i64, .int
      .i64, .int .i64], .int .i64, .int .i64, .int .i64] (U.cat c L fun x => ((nat_lit 2, castEls rfl (ofList (ss := [.int .i64, .int .i64, .int .i64]) [((F (U.toNat j)).1, (F (U.toNat
      j)).2.1, (F (U.toNat j)).2.2.1, ()), ((f2 (U.toNat (0 : Int))).1, (f2 (U.toNat (0 : Int))).2.1, (f2 (U.toNat (0 : Int))).2.2.1, ())].reverse)), k, s, h, PUnit.unit)) (nat_lit
      49)))]))))))) (.ret (Ex.exit (nat_lit 2), [SV.ptr (nat_lit 0) (nat_lit 0), SV.ptr (nat_lit 1) (nat_lit 0), SV.ptr (nat_lit 2) (nat_lit 0), .row [.int .i64, .int .i64, .int .i64] N
      F, SV.own false (nat_lit 3) c, .lit (.int .i64 j)], [(nat_lit 0, some (Blk.cells [.row [.int .i64, .int .i64, .int .i64] n f, .lit (.int .i64 k), .lit (.int .i64 s), .lit (.int .i64
      h)] (nat_lit 49))), (nat_lit 0, some (Blk.cells [.row [.int .i64, .int .i64, .int .i64] m g, .lit (.int .i64 k1), .lit (.int .i64 s1), .lit (.int .i64 h1)] (nat_lit 49))), (nat_lit
      0, some (Blk.cells [.row [.int .i64, .int .i64, .int .i64] n2 f2, .lit (.int .i64 k2), .lit (.int .i64 s2), .lit (.int .i64 h2)] (nat_lit 49))), (nat_lit 0, some (Blk.row false c
      [.sl [.int .i64, .int .i64, .int .i64], .int .i64, .int .i64, .int .i64] L (nat_lit 49)))])) := by kernel_rfl
set_option maxRecDepth 100000 in
theorem t_qDSubtract (n : Nat) (f : Nat → R3) (k s h : Int) (m : Nat) (g : Nat → R3) (k1 s1 h1 : Int) : conB Go.Proofs.Try.prog (conOf d15) (loopsOf lqS) 10 79 [.agg [.row [.int .i64, .int .i64, .int .i64] n f, .lit (.int .i64 k), .lit (.int .i64 s), .lit (.int .i64 h)], .agg [.row [.int .i64, .int .i64, .int .i64] m g, .lit (.int .i64 k1), .lit (.int .i64 s1), .lit (.int .i64 h1)]] =
    T.ask (Row64 n f ∧ Row64 m g) (.br (U.ne (lk boE n f k s h m g k1 s1 h1) (0 : Int)) (.ret (.tup [.lit (.slice none (nat_lit 0) (nat_lit 0)), .lit (.int .i64 (lk boE n f k s h m g k1
      s1 h1))])) (.ask (Row64 (lk diN n f k s h m g k1 s1 h1) (lk diF f g)) (.br (U.eq (lk szD (lk diN n f k s h m g k1 s1 h1) (lk diF f g) (lk diX n f k s h m g k1 s1 h1 k) (lk diX n f k
      s h m g k1 s1 h1 s) (lk diX n f k s h m g k1 s1 h1 h)) (0 : Int)) (.ask (((0 : Nat) + n) * nat_lit 24 ≤ nat_lit 140737488351232) (.ask (Row64 ((0 : Nat) + n) (U.cat (0 : Nat) (fun x
      => zeroEs [[Sh.int IntKind.i64], [Sh.int IntKind.i64], [Sh.int IntKind.i64]].reverse.flatten) (castEls rfl f))) (.br (U.eq (lk szD (nat_lit 0 + n) (U.cat (nat_lit 0) (fun x => ((0 :
      Int), (0 : Int), (0 : Int), PUnit.unit)) f) k s h) (0 : Int)) (.ret (.tup [.row [.sl [.int .i64, .int .i64, .int .i64], .int .i64, .int .i64, .int .i64] (nat_lit 0) fun x =>
      ((nat_lit 0, fun x => ((0 : Int), (0 : Int), (0 : Int), PUnit.unit)), (0 : Int), (0 : Int), (0 : Int), PUnit.unit), .lit (.int .i64 0)])) (.ask (((0 : Nat) + (1 : Nat)) * nat_lit 48
      ≤ nat_lit 140737488351232) (.ret (.tup [.row [.sl [.int .i64, .int .i64, .int .i64], .int .i64, .int .i64, .int .i64] (nat_lit 1) (U.cat (nat_lit 0) (fun x => ((nat_lit 0, fun x =>
      ((0 : Int), (0 : Int), (0 : Int), PUnit.unit)), (0 : Int), (0 : Int), (0 : Int), PUnit.unit)) fun x => ((nat_lit 0 + n, U.cat (nat_lit 0) (fun x => ((0 : Int), (0 : Int), (0 : Int),
      PUnit.unit)) f), k, s, h, PUnit.unit)), .lit (.int .i64 0)])))))) (.ask ((0 : Int) ≤ (0 : Int) ∧ (0 : Int) < ↑n) (.ask ((0 : Int) ≤ (0 : Int) ∧ (0 : Int) < ↑m) (.ask (I64 (f
      (U.toNat (0 : Int))).1 ∧ I64 (f (U.toNat (0 : Int))).2.1 ∧ I64 (f (U.toNat (0 : Int))).2.2.1 ∧ I64 (g (U.toNat (0 : Int))).1 ∧ I64 (g (U.toNat (0 : Int))).2.1 ∧ I64 (g (U.toNat (0 :
      Int))).2.2.1) (.br (U.ne (lk sbE (f (U.toNat (0 : Int))).1 (f (U.toNat (0 : Int))).2.1 (f (U.toNat (0 : Int))).2.2.1 (g (U.toNat (0 : Int))).1 (g (U.toNat (0 : Int))).2.1 (g
      (U.toNat (0 : Int))).2.2.1) (0 : Int)) (.ret (.tup [.lit (.slice none (nat_lit 0) (nat_lit 0)), .lit (.int .i64 (lk sbE (f (U.toNat (0 : Int))).1 (f (U.toNat (0 : Int))).2.1 (f
      (U.toNat (0 : Int))).2.2.1 (g (U.toNat (0 : Int))).1 (g (U.toNat (0 : Int))).2.1 (g (U.toNat (0 : Int))).2.2.1))])) (.ask (PreAx (nat_lit 0) n f (0 : Nat) (lk sbN (f (U.toNat (0 :
      Int))).1 (f (U.toNat (0 : Int))).2.1 (f (U.toNat (0 : Int))).2.2.1 (g (U.toNat (0 : Int))).1 (g (U.toNat (0 : Int))).2.1 (g (U.toNat (0 : Int))).2.2.1) (lk sbF (f (U.toNat (0 :
      Int))).1 (f (U.toNat (0 : Int))).2.1 (f (U.toNat (0 : Int))).2.2.1 (g (U.toNat (0 : Int))).1 (g (U.toNat (0 : Int))).2.1 (g (U.toNat (0 : Int))).2.2.1) ∧ (0 : Nat) = (0 : Nat) ∧ (49
      : Nat) = (49 : TypeId) ∧ (49 : Nat) = (49 : TypeId) ∧ (49 : Nat) = (49 : TypeId) ∧ (49 : Nat) = (49 : TypeId)) (.br (U.eq (Int.ofNat n) (1 : Int)) (.ret (.tup [.row [.sl [.int .i64,
      .int .i64, .int .i64], .int .i64, .int .i64, .int .i64] (lk aNx n f k s h (nat_lit 0) (fun x => ((nat_lit 0, fun x => ((0 : Int), (0 : Int), (0 : Int), PUnit.unit)), (0 : Int), (0 :
      Int), (0 : Int), PUnit.unit)) (lk sbF (f (U.toNat (0 : Int))).1 (f (U.toNat (0 : Int))).2.1 (f (U.toNat (0 : Int))).2.2.1 (g (U.toNat (0 : Int))).1 (g (U.toNat (0 : Int))).2.1 (g
      (U.toNat (0 : Int))).2.2.1) (lk sbN (f (U.toNat (0 : Int))).1 (f (U.toNat (0 : Int))).2.1 (f (U.toNat (0 : Int))).2.2.1 (g (U.toNat (0 : Int))).1 (g (U.toNat (0 : Int))).2.1 (g
      (U.toNat (0 : Int))).2.2.1)) (lk aLx n f k s h (nat_lit 0) (fun x => ((nat_lit 0, fun x => ((0 : Int), (0 : Int), (0 : Int), PUnit.unit)), (0 : Int), (0 : Int), (0 : Int),
      PUnit.unit)) (lk sbF (f (U.toNat (0 : Int))).1 (f (U.toNat (0 : Int))).2.1 (f (U.toNat (0 : Int))).2.2.1 (g (U.toNat (0 : Int))).1 (g (U.toNat (0 : Int))).2.1 (g (U.toNat (0 :
      Int))).2.2.1) (lk sbN (f (U.toNat (0 : Int))).1 (f (U.toNat (0 : Int))).2.1 (f (U.toNat (0 : Int))).2.2.1 (g (U.toNat (0 : Int))).1 (g (U.toNat (0 : Int))).2.1 (g (U.toNat (0 :
      Int))).2.2.1)), .lit (.int .i64 0)])) (.ask ((0 : Int) ≤ (1 : Int) ∧ (1 : Int) < ↑n) (.ask ((0 : Int) ≤ (1 : Int) ∧ (1 : Int) < ↑m) (.ask (I64 (f (U.toNat (1 : Int))).1 ∧ I64 (f
      (U.toNat (1 : Int))).2.1 ∧ I64 (f (U.toNat (1 : Int))).2.2.1 ∧ I64 (g (U.toNat (1 : Int))).1 ∧ I64 (g (U.toNat (1 : Int))).2.1 ∧ I64 (g (U.toNat (1 : Int))).2.2.1) (.br (U.ne (lk
      sbE (f (U.toNat (1 : Int))).1 (f (U.toNat (1 : Int))).2.1 (f (U.toNat (1 : Int))).2.2.1 (g (U.toNat (1 : Int))).1 (g (U.toNat (1 : Int))).2.1 (g (U.toNat (1 : Int))).2.2.1) (0 :
      Int)) (.ret (.tup [.lit (.slice none (nat_lit 0) (nat_lit 0)), .lit (.int .i64 (lk sbE (f (U.toNat (1 : Int))).1 (f (U.toNat (1 : Int))).2.1 (f (U.toNat (1 : Int))).2.2.1 (g
      (U.toNat (1 : Int))).1 (g (U.toNat (1 : Int))).2.1 (g (U.toNat (1 : Int))).2.2.1))])) (.ask (PreBx (nat_lit 0) (lk diN n f k s h m g k1 s1 h1) (lk diF f g) (lk aNx n f k s h
      (nat_lit 0) (fun x => ((nat_lit 0, fun x => ((0 : Int), (0 : Int), (0 : Int), PUnit.unit)), (0 : Int), (0 : Int), (0 : Int), PUnit.unit)) (lk sbF (f (U.toNat (0 : Int))).1 (f
      (U.toNat (0 : Int))).2.1 (f (U.toNat (0 : Int))).2.2.1 (g (U.toNat (0 : Int))).1 (g (U.toNat (0 : Int))).2.1 (g (U.toNat (0 : Int))).2.2.1) (lk sbN (f (U.toNat (0 : Int))).1 (f
      (U.toNat (0 : Int))).2.1 (f (U.toNat (0 : Int))).2.2.1 (g (U.toNat (0 : Int))).1 (g (U.toNat (0 : Int))).2.1 (g (U.toNat (0 : Int))).2.2.1)) (lk sbN (f (U.toNat (1 : Int))).1 (f
      (U.toNat (1 : Int))).2.1 (f (U.toNat (1 : Int))).2.2.1 (g (U.toNat (1 : Int))).1 (g (U.toNat (1 : Int))).2.1 (g (U.toNat (1 : Int))).2.2.1) (lk sbF (f (U.toNat (1 : Int))).1 (f
      (U.toNat (1 : Int))).2.1 (f (U.toNat (1 : Int))).2.2.1 (g (U.toNat (1 : Int))).1 (g (U.toNat (1 : Int))).2.1 (g (U.toNat (1 : Int))).2.2.1) ∧ lk aNx n f k s h (nat_lit 0) (fun x =>
      ((nat_lit 0, fun x => ((0 : Int), (0 : Int), (0 : Int), PUnit.unit)), (0 : Int), (0 : Int), (0 : Int), PUnit.unit)) (lk sbF (f (U.toNat (0 : Int))).1 (f (U.toNat (0 : Int))).2.1 (f
      (U.toNat (0 : Int))).2.2.1 (g (U.toNat (0 : Int))).1 (g (U.toNat (0 : Int))).2.1 (g (U.toNat (0 : Int))).2.2.1) (lk sbN (f (U.toNat (0 : Int))).1 (f (U.toNat (0 : Int))).2.1 (f
      (U.toNat (0 : Int))).2.2.1 (g (U.toNat (0 : Int))).1 (g (U.toNat (0 : Int))).2.1 (g (U.toNat (0 : Int))).2.2.1) = lk aNx n f k s h (nat_lit 0) (fun x => ((nat_lit 0, fun x => ((0 :
      Int), (0 : Int), (0 : Int), PUnit.unit)), (0 : Int), (0 : Int), (0 : Int), PUnit.unit)) (lk sbF (f (U.toNat (0 : Int))).1 (f (U.toNat (0 : Int))).2.1 (f (U.toNat (0 : Int))).2.2.1
      (g (U.toNat (0 : Int))).1 (g (U.toNat (0 : Int))).2.1 (g (U.toNat (0 : Int))).2.2.1) (lk sbN (f (U.toNat (0 : Int))).1 (f (U.toNat (0 : Int))).2.1 (f (U.toNat (0 : Int))).2.2.1 (g
      (U.toNat (0 : Int))).1 (g (U.toNat (0 : Int))).2.1 (g (U.toNat (0 : Int))).2.2.1) ∧ (49 : TypeId) = (49 : TypeId) ∧ (49 : TypeId) = (49 : TypeId) ∧ (49 : TypeId) = (49 : TypeId) ∧
      (49 : TypeId) = (49 : TypeId)) (.ret (.tup [.row [.sl [.int .i64, .int .i64, .int .i64], .int .i64, .int .i64, .int .i64] (lk bNx k s h (lk diF f g (nat_lit 0)) (lk aNx n f k s h
      (nat_lit 0) (fun x => ((nat_lit 0, fun x => ((0 : Int), (0 : Int), (0 : Int), PUnit.unit)), (0 : Int), (0 : Int), (0 : Int), PUnit.unit)) (lk sbF (f (U.toNat (0 : Int))).1 (f
      (U.toNat (0 : Int))).2.1 (f (U.toNat (0 : Int))).2.2.1 (g (U.toNat (0 : Int))).1 (g (U.toNat (0 : Int))).2.1 (g (U.toNat (0 : Int))).2.2.1) (lk sbN (f (U.toNat (0 : Int))).1 (f
      (U.toNat (0 : Int))).2.1 (f (U.toNat (0 : Int))).2.2.1 (g (U.toNat (0 : Int))).1 (g (U.toNat (0 : Int))).2.1 (g (U.toNat (0 : Int))).2.2.1)) (lk aLx n f k s h (nat_lit 0) (fun x =>
      ((nat_lit 0, fun x => ((0 : Int), (0 : Int), (0 : Int), PUnit.unit)), (0 : Int), (0 : Int), (0 : Int), PUnit.unit)) (lk sbF (f (U.toNat (0 : Int))).1 (f (U.toNat (0 : Int))).2.1 (f
      (U.toNat (0 : Int))).2.2.1 (g (U.toNat (0 : Int))).1 (g (U.toNat (0 : Int))).2.1 (g (U.toNat (0 : Int))).2.2.1) (lk sbN (f (U.toNat (0 : Int))).1 (f (U.toNat (0 : Int))).2.1 (f
      (U.toNat (0 : Int))).2.2.1 (g (U.toNat (0 : Int))).1 (g (U.toNat (0 : Int))).2.1 (g (U.toNat (0 : Int))).2.2.1)) (lk sbF (f (U.toNat (1 : Int))).1 (f (U.toNat (1 : Int))).2.1 (f
      (U.toNat (1 : Int))).2.2.1 (g (U.toNat (1 : Int))).1 (g (U.toNat (1 : Int))).2.1 (g (U.toNat (1 : Int))).2.2.1) (lk sbN (f (U.toNat (1 : Int))).1 (f (U.toNat (1 : Int))).2.1 (f
      (U.toNat (1 : Int))).2.2.1 (g (U.toNat (1 : Int))).1 (g (U.toNat (1 : Int))).2.1 (g (U.toNat (1 : Int))).2.2.1)) (lk bLx k s h (lk diF f g (nat_lit 0)) (lk aNx n f k s h (nat_lit 0)
      (fun x => ((nat_lit 0, fun x => ((0 : Int), (0 : Int), (0 : Int), PUnit.unit)), (0 : Int), (0 : Int), (0 : Int), PUnit.unit)) (lk sbF (f (U.toNat (0 : Int))).1 (f (U.toNat (0 :
      Int))).2.1 (f (U.toNat (0 : Int))).2.2.1 (g (U.toNat (0 : Int))).1 (g (U.toNat (0 : Int))).2.1 (g (U.toNat (0 : Int))).2.2.1) (lk sbN (f (U.toNat (0 : Int))).1 (f (U.toNat (0 :
      Int))).2.1 (f (U.toNat (0 : Int))).2.2.1 (g (U.toNat (0 : Int))).1 (g (U.toNat (0 : Int))).2.1 (g (U.toNat (0 : Int))).2.2.1)) (lk aLx n f k s h (nat_lit 0) (fun x => ((nat_lit 0,
      fun x => ((0 : Int), (0 : Int), (0 : Int), PUnit.unit)), (0 : Int), (0 : Int), (0 : Int), PUnit.unit)) (lk sbF (f (U.toNat (0 : Int))).1 (f (U.toNat (0 : Int))).2.1 (f (U.toNat (0 :
      Int))).2.2.1 (g (U.toNat (0 : Int))).1 (g (U.toNat (0 : Int))).2.1 (g (U.toNat (0 : Int))).2.2.1) (lk sbN (f (U.toNat (0 : Int))).1 (f (U.toNat (0 : Int))).2.1 (f (U.toNat (0 :
      Int))).2.2.1 (g (U.toNat (0 : Int))).1 (g (U.toNat (0 : Int))).2.1 (g (U.toNat (0 : Int))).2.2.1)) (lk sbF (f (U.toNat (1 : Int))).1 (f (U.toNat (1 : Int))).2.1 (f (U.toNat (1 :
      Int))).2.2.1 (g (U.toNat (1 : Int))).1 (g (U.toNat (1 : Int))).2.1 (g (U.toNat (1 : Int))).2.2.1) (lk sbN (f (U.toNat (1 : Int))).1 (f (U.toNat (1 : Int))).2.1 (f (U.toNat (1 :
      Int))).2.2.1 (g (U.toNat (1 : Int))).1 (g (U.toNat (1 : Int))).2.1 (g (U.toNat (1 : Int))).2.2.1)), .lit (.int .i64 0)])))))))))))))))) := by kernel_rfl
set_option maxRecDepth 100000 in
theorem t_qDWithin (n : Nat) (f : Nat → R3) (k s h : Int) (m : Nat) (g : Nat → R3) (k1 s1 h1 : Int) : conB Go.Proofs.Try.prog (conOf d15) noLoops 10 80 [.agg [.row [.int .i64, .int .i64, .int .i64] n f, .lit (.int .i64 k), .lit (.int .i64 s), .lit (.int .i64 h)], .agg [.row [.int .i64, .int .i64, .int .i64] m g, .lit (.int .i64 k1), .lit (.int .i64 s1), .lit (.int .i64 h1)]] =
    T.ask (Row64 n f ∧ Row64 m g) (.br (U.ne (lk boE n f k s h m g k1 s1 h1) (0 : Int)) (.ret (.tup [.lit (.bool false), .lit (.int .i64 (lk boE n f k s h m g k1 s1 h1))])) (.ask (Row64
      (lk diN n f k s h m g k1 s1 h1) (lk diF f g)) (.ask (Row64 n f) (.ret (.tup [.lit (.bool (U.eq (lk szD (lk diN n f k s h m g k1 s1 h1) (lk diF f g) (lk diX n f k s h m g k1 s1 h1 k)
      (lk diX n f k s h m g k1 s1 h1 s) (lk diX n f k s h m g k1 s1 h1 h)) (lk szD n f k s h))), .lit (.int .i64 0)]))))) := by kernel_rfl
set_option maxRecDepth 100000 in
theorem t_qDSame (n : Nat) (f : Nat → R3) (k s h : Int) (m : Nat) (g : Nat → R3) (k1 s1 h1 : Int) : conB Go.Proofs.Try.prog (conOf d15) (loopsOf lqW) 10 81 [.agg [.row [.int .i64, .int .i64, .int .i64] n f, .lit (.int .i64 k), .lit (.int .i64 s), .lit (.int .i64 h)], .agg [.row [.int .i64, .int .i64, .int .i64] m g, .lit (.int .i64 k1), .lit (.int .i64 s1), .lit (.int .i64 h1)]] =
    T.ask (Row64 n f ∧ Row64 m g) (.br (U.ne (lk boE n f k s h m g k1 s1 h1) (0 : Int)) (.ret (.lit (.bool false))) (.ask (Row64 n f) (.br (U.eq (lk szD n f k s h) (0 : Int)) (.ask
      (Row64 n f) (.ask (Row64 m g) (.ret (.lit (.bool (U.eq (lk szD n f k s h) (lk szD m g k1 s1 h1))))))) (.ask (Row64 m g) (.br (U.eq (lk szD m g k1 s1 h1) (0 : Int)) (.ask (Row64 n f)
      (.ask (Row64 m g) (.ret (.lit (.bool (U.eq (lk szD n f k s h) (lk szD m g k1 s1 h1))))))) (.br (U.lt (0 : Int) (Int.ofNat n)) (.ask ((0 : Int) ≤ (0 : Int) ∧ (0 : Int) < ↑n) (.ask
      ((0 : Int) ≤ (0 : Int) ∧ (0 : Int) < ↑m) (.br (U.not (U.andb (U.eq (f (U.toNat (Int.ofNat 0))).1 (g (U.toNat (Int.ofNat 0))).1) (U.andb (U.eq (f (U.toNat (Int.ofNat 0))).2.1 (g
      (U.toNat (Int.ofNat 0))).2.1) (U.eq (f (U.toNat (Int.ofNat 0))).2.2.1 (g (U.toNat (Int.ofNat 0))).2.2.1)))) (.ret (.lit (.bool false))) (.br (U.lt (1 : Int) (Int.ofNat n)) (.ask ((0
      : Int) ≤ (1 : Int) ∧ (1 : Int) < ↑n) (.ask ((0 : Int) ≤ (1 : Int) ∧ (1 : Int) < ↑m) (.br (U.not (U.andb (U.eq (f (U.toNat (Int.ofNat 1))).1 (g (U.toNat (Int.ofNat 1))).1) (U.andb
      (U.eq (f (U.toNat (Int.ofNat 1))).2.1 (g (U.toNat (Int.ofNat 1))).2.1) (U.eq (f (U.toNat (Int.ofNat 1))).2.2.1 (g (U.toNat (Int.ofNat 1))).2.2.1)))) (.ret (.lit (.bool false))) (.br
      (U.lt (2 : Int) (Int.ofNat n)) (.ask ((0 : Int) ≤ (2 : Int) ∧ (2 : Int) < ↑n) (.ask ((0 : Int) ≤ (2 : Int) ∧ (2 : Int) < ↑m) (.br (U.not (U.andb (U.eq (f (U.toNat (Int.ofNat 2))).1
      (g (U.toNat (Int.ofNat 2))).1) (U.andb (U.eq (f (U.toNat (Int.ofNat 2))).2.1 (g (U.toNat (Int.ofNat 2))).2.1) (U.eq (f (U.toNat (Int.ofNat 2))).2.2.1 (g (U.toNat (Int.ofNat
      2))).2.2.1)))) (.ret (.lit (.bool false))) (.stuck (nat_lit 105))))) (.ret (.lit (.bool true))))))) (.ret (.lit (.bool true))))))) (.ret (.lit (.bool true))))))))) := by kernel_rfl
end Go.RX.Span

/- Domains: the reference's pair, Intersect, Within, Same. -/
set_option linter.unusedVariables false
set_option linter.unusedSimpArgs false
set_option maxRecDepth 100000
namespace Go.RX.Span
open Go Go.RX
attribute [local irreducible] sx conB

theorem qpair_ok : ConOK P 157 c_both := con_of (allOK mixed d14_ok) 10 157 fun args r h => by
  unfold c_both at h
  split at h
  · rename_i n f k s h' m g k1 s1 h1
    obtain ⟨hp, hq⟩ := (T.is_ask h).1
    have h := (T.is_ask h).2
    obtain rfl := T.is_ret h
    rw [t_qpair]
    unfold boE
    by_cases c1 : chD n f k s h' = 0
    · by_cases c2 : chD m g k1 s1 h1 = 0
      · by_cases c3 : n = m
        · subst c3
          simp [T.All, U.ne_eq, lk_eq, hp, hq, c1, c2]
        · have : ¬ ((n : Int) = (m : Int)) := by omega
          simp [T.All, U.ne_eq, lk_eq, hp, hq, c1, c2, c3, this]
      · simp [T.All, U.ne_eq, lk_eq, hp, hq, c1, c2]
    · simp [T.All, U.ne_eq, lk_eq, hp, hq, c1]
  · exact h.elim
theorem d14p_ok : ∀ p ∈ d14p, ConOK P p.1 p.2 := by
  intro p hp
  rcases List.mem_cons.1 hp with rfl | hp
  · exact qpair_ok
  · exact d14_ok p hp
theorem lqI_ok : ∀ p ∈ lqI, LoopsOK P p.2 (bodyOf P p.1) := by
  intro p hp
  simp only [lqI, List.mem_singleton] at hp
  subst hp
  exact loopsOK_un fun q hq => by simp only [List.mem_singleton] at hq; subst hq; exact ⟨3, rfl⟩
theorem lqW_ok : ∀ p ∈ lqW, LoopsOK P p.2 (bodyOf P p.1) := by
  intro p hp
  simp only [lqW, List.mem_singleton] at hp
  subst hp
  exact loopsOK_un fun q hq => by simp only [List.mem_singleton] at hq; subst hq; exact ⟨3, rfl⟩
theorem qDIntersect_ok : ConOK P 77 c_DIntersect := con_cl (allOKL mixed d14p_ok lqI_ok) 10 77 fun args r h => by
  unfold c_DIntersect at h
  split at h
  · rename_i n f k s h' m g k1 s1 h1
    obtain ⟨hp, hq⟩ := (T.is_ask h).1
    have h := (T.is_ask h).2
    obtain rfl := T.is_ret h
    rw [t_qDIntersect]
    simp only [tn, lk_eq]
    refine ⟨⟨hp, hq⟩, fun hE => ?_, fun hE => ?_⟩
    · have hE : boE n f k s h' m g k1 s1 h1 ≠ 0 := U.ne_t.mp hE
      have e1 : diN n f k s h' m g k1 s1 h1 = 0 := by unfold diN; rw [if_pos hE]
      have e2 : ∀ x, diX n f k s h' m g k1 s1 h1 x = 0 := fun x => by unfold diX; rw [if_pos hE]
      rw [e1, e2, e2, e2]
      exact ⟨cl_agg ⟨cl_nil0 rfl, cl_lit rfl, cl_lit rfl, cl_lit rfl, rfl⟩, cl_lit rfl, rfl⟩
    · have hE : boE n f k s h' m g k1 s1 h1 = 0 := U.ne_f.mp hE
      obtain ⟨c1, c2, c3⟩ := boE_zero.1 hE
      subst c3
      obtain ⟨d1, d1'⟩ := chD_zero.1 c1
      have e1 : diN n f k s h' n g k1 s1 h1 = n := by unfold diN; rw [if_neg (by simp [hE])]
      have e2 : ∀ x, diX n f k s h' n g k1 s1 h1 x = x := fun x => by unfold diX; rw [if_neg (by simp [hE])]
      rw [e1, e2, e2, e2, hE]
      have hn := d1.1
      have hI : ∀ i, i < n → I64 (f i).1 ∧ I64 (f i).2.1 ∧ I64 (f i).2.2.1 ∧ I64 (g i).1 ∧ I64 (g i).2.1 ∧ I64 (g i).2.2.1 := fun i hi => by
        obtain ⟨x1, x2, x3⟩ := hp i hi
        obtain ⟨y1, y2, y3⟩ := hq i hi
        exact ⟨x1, x2, x3, y1, y2, y3⟩
      have l0 : U.lt (0 : Int) (Int.ofNat n) = true := by rw [U.lt_eq]; exact decide_eq_true (by simp only [Int.ofNat_eq_natCast]; omega)
      refine ⟨fun _ => ⟨by omega, by omega, hI 0 (by omega), by omega, ?_⟩, fun h => (by rw [l0] at h; cases h)⟩
      rcases hn with rfl | rfl
      · refine ⟨fun h => absurd (U.lt_t.mp h) (by decide), fun _ => ?_⟩
        refine ⟨cl_agg ⟨cl_row' rfl fun i hi => ?_, cl_lit rfl, cl_lit rfl, cl_lit rfl, rfl⟩, cl_lit rfl, rfl⟩
        obtain rfl : i = 0 := by omega
        rfl
      · refine ⟨fun _ => ⟨by omega, by omega, hI 1 (by omega), by omega, fun h => absurd (U.lt_t.mp h) (by decide), fun _ => ?_⟩, fun h => absurd (U.lt_f.mp h) (by decide)⟩
        refine ⟨cl_agg ⟨cl_row' rfl fun i hi => ?_, cl_lit rfl, cl_lit rfl, cl_lit rfl, rfl⟩, cl_lit rfl, rfl⟩
        rcases (show i = 0 ∨ i = 1 by omega) with rfl | rfl
        · exact cat_l (by omega)
        · exact cat_r (by omega)
  · exact h.elim
theorem d15_ok : ∀ p ∈ d15, ConOK P p.1 p.2 := by
  intro p hp
  rcases List.mem_cons.1 hp with rfl | hp
  · exact qDIntersect_ok
  · exact d14p_ok p hp
theorem qDWithin_ok : ConOK P 80 c_DWithin := con_of (allOK mixed d15_ok) 10 80 fun args r h => by
  unfold c_DWithin at h
  split at h
  · rename_i n f k s h' m g k1 s1 h1
    obtain ⟨hp, hq⟩ := (T.is_ask h).1
    have h := (T.is_ask h).2
    obtain rfl := T.is_ret h
    rw [t_qDWithin]
    simp only [lk_eq]
    refine ⟨⟨hp, hq⟩, fun hE => ?_, fun hE => ?_⟩
    · have hE : boE n f k s h' m g k1 s1 h1 ≠ 0 := U.ne_t.mp hE
      have e : wiD n f k s h' m g k1 s1 h1 = false := by unfold wiD; rw [if_pos hE]
      rw [e]; exact rfl
    · have hE : boE n f k s h' m g k1 s1 h1 = 0 := U.ne_f.mp hE
      have e1 : diN n f k s h' m g k1 s1 h1 = n := by unfold diN; rw [if_neg (by simp [hE])]
      have e2 : ∀ x, diX n f k s h' m g k1 s1 h1 x = x := fun x => by unfold diX; rw [if_neg (by simp [hE])]
      rw [e1, e2, e2, e2]
      refine ⟨dr_64 (chD_zero.1 (di_right hE)).1, hp, ?_⟩
      have e : wiD n f k s h' m g k1 s1 h1 = decide (szD n (diF f g) k s h' = szD n f k s h') := by unfold wiD; rw [if_neg (by simp [hE])]; rfl
      rw [e, U.eq_eq, hE]
      exact congrArg (fun b => SV.tup [SV.lit (.bool b), SV.lit (.int .i64 0)]) (by by_cases hq : szD n (diF f g) k s h' = szD n f k s h' <;> simp [hq])
  · exact h.elim
end Go.RX.Span

/- Domains: the reference's Subtract and Same: what they return. -/
set_option linter.unusedVariables false
set_option linter.unusedSimpArgs false
set_option maxRecDepth 100000
namespace Go.RX.Span
open Go Go.RX
attribute [local irreducible] sx conB

theorem Ee_ok : EnvOK Ee := envOK (allOK mixed d15_ok) 10
theorem szE_nonneg (x : DE) : 0 ≤ szE x := by
  unfold szE szD
  split
  · exact Int.le_refl _
  · rename_i hc
    exact (dr_prod (chD_zero.1 (Classical.byContradiction hc)).1).1

set_option maxHeartbeats 1000000 in
theorem roundCx (n0 : Nat) (q : XEx) (hq : PhiCx n0 q) : ((sx Ee [] n0 (loopOf P 79 11) (mkS 110 [2,3,6,8,9,10] (VCx q).1, (VCx q).2)).bind (proj 110 [2,3,6,8,9,10])).All fun r => match r.1 with
      | .normal => ∃ q', PhiCx n0 q' ∧ q'.N - q'.j < q.N - q.j ∧ Wk 110 [2,3,6,8,9,10] n0 r.2 (VCx q') ∧ ∀ o, o = OCx q' → o = OCx q
      | e => ∃ s, (e, s) = OCx q ∧ Wk 110 [2,3,6,8,9,10] n0 r.2 s := by
  obtain ⟨n, f, k, s, h, m, g, k1, s1, h1, n2, f2, k2, s2, h2, c, L, N, F, j⟩ := q
  obtain ⟨⟨h0, hn, hf, hc, hN, hF⟩, hj⟩ := hq
  simp only [] at h0 hn hf hc hN hF hj
  subst h0
  skip
  show ((sx Ee [] 0 (loopOf P 79 11) (mkS 110 [2,3,6,8,9,10] (slE N F (aNx n f k s h c L F j) (j : Int)), memE n f k s h m g k1 s1 h1 n2 f2 k2 s2 h2 (aNx n f k s h c L F j) (aLx n f k s h c L F j))).bind (proj 110 [2,3,6,8,9,10])).All _
  rw [t_qDS11]
  have hle := seAx_le n f k s h c L F j
  have e2 := addj (j := j) (by omega)
  have hno : ¬ 0 < szE (cnd0 n f k s h (F j)) → VCx ⟨n, f, k, s, h, m, g, k1, s1, h1, n2, f2, k2, s2, h2, c, L, N, F, j + 1⟩ = (slE N F (aNx n f k s h c L F j) ((j + 1 : Nat) : Int), memE n f k s h m g k1 s1 h1 n2 f2 k2 s2 h2 (aNx n f k s h c L F j) (aLx n f k s h c L F j)) := fun hp => by
    simp only [VCx, aNx, aLx, seAx_no hp]
  have hyes : 0 < szE (cnd0 n f k s h (F j)) → VCx ⟨n, f, k, s, h, m, g, k1, s1, h1, n2, f2, k2, s2, h2, c, L, N, F, j + 1⟩ = (slE N F (aNx n f k s h c L F j + 1) ((j + 1 : Nat) : Int), memE n f k s h m g k1 s1 h1 n2 f2 k2 s2 h2 (aNx n f k s h c L F j + 1) (U.cat (aNx n f k s h c L F j) (aLx n f k s h c L F j) fun _ => cnd0 n f k s h (F j))) := fun hp => by
    simp only [VCx, aNx, aLx, seAx_yes hp]
  have hcN : aNx n f k s h c L F j ≤ c + j := hle.2
  have hz0 : ¬ szE (cnd0 n f k s h (F j)) < 0 := Int.not_lt.2 (szE_nonneg _)
  simp only [tn1, tn0, tnj, e2]
  by_cases hlt : j < N
  · have hFj := hF j hlt
    refine ⟨fun _ => ⟨by omega, ⟨by omega, by omega, by omega⟩, fun hz => ⟨row1_64 hFj _ rfl, fun hs => ?_, fun hs => ⟨by omega, ?_⟩⟩, fun hz => ?_⟩, fun h => absurd (U.lt_f.mp h) (by simp only [Int.ofNat_eq_natCast]; omega)⟩
    · rcases hn with rfl | rfl
      · have hp : ¬ 0 < szE (cnd0 1 f k s h (F j)) := fun hp => by
          have hs := U.eq_t.mp hs
          rw [lk_eq] at hs
          have hs' : szE (cnd0 1 f k s h (F j)) = 0 := hs
          omega
        refine ⟨⟨1, f, k, s, h, m, g, k1, s1, h1, n2, f2, k2, s2, h2, c, L, N, F, j + 1⟩, ⟨⟨rfl, .inl rfl, hf, hc, hN, hF⟩, by simp only []; omega⟩, by simp only []; omega, ?_, fun o ho => ho⟩
        rw [hno hp]
        exact wk_of [some 0, some 1, some 2, some 3] rfl (Nat.zero_le _) (fun b hb => by omega) ⟨⟨rfl, rfl⟩, ⟨rfl, rfl⟩, ⟨rfl, rfl⟩, ⟨rfl, rowS fun _ _ => rfl⟩, ⟨rfl, rfl, rfl⟩, rfl, trivial⟩ ⟨⟨rfl, ⟨rfl, rowS fun _ _ => rfl⟩, rfl, rfl, rfl, trivial⟩, ⟨rfl, ⟨rfl, rowS fun _ _ => rfl⟩, rfl, rfl, rfl, trivial⟩, ⟨rfl, ⟨rfl, rowS fun _ _ => rfl⟩, rfl, rfl, rfl, trivial⟩, ⟨rfl, rfl, rfl, rowL fun i hi => rfl⟩, trivial⟩
      · rw [isz21] at hz; cases hz
    · rcases hn with rfl | rfl
      · have hp : 0 < szE (cnd0 1 f k s h (F j)) := by
          have hs := U.eq_f.mp hs
          rw [lk_eq] at hs
          have hs' : szE (cnd0 1 f k s h (F j)) ≠ 0 := hs
          omega
        refine ⟨⟨1, f, k, s, h, m, g, k1, s1, h1, n2, f2, k2, s2, h2, c, L, N, F, j + 1⟩, ⟨⟨rfl, .inl rfl, hf, hc, hN, hF⟩, by simp only []; omega⟩, by simp only []; omega, ?_, fun o ho => ho⟩
        rw [hyes hp]
        exact wk_of [some 0, some 1, some 2, some 8] rfl (Nat.zero_le _) (fun b hb => by omega) ⟨⟨rfl, rfl⟩, ⟨rfl, rfl⟩, ⟨rfl, rfl⟩, ⟨rfl, rowS fun _ _ => rfl⟩, ⟨rfl, rfl, rfl⟩, rfl, trivial⟩ ⟨⟨rfl, ⟨rfl, rowS fun _ _ => rfl⟩, rfl, rfl, rfl, trivial⟩, ⟨rfl, ⟨rfl, rowS fun _ _ => rfl⟩, rfl, rfl, rfl, trivial⟩, ⟨rfl, ⟨rfl, rowS fun _ _ => rfl⟩, rfl, rfl, rfl, trivial⟩, ⟨rfl, rfl, rfl, rowL fun i hi => rfl⟩, trivial⟩
      · rw [isz21] at hz; cases hz
    · rcases hn with rfl | rfl
      · rw [isz11] at hz; cases hz
      · have ec : U.cat 1 (fun _ => F j) (fun i => f (i + 1)) = c0F 2 f (F j) := c0F_2
        have e3 : U.nsub 2 1 = 1 := by rw [U.nsub_eq]
        refine ⟨⟨by omega, by omega⟩, ?_, fun hs => ?_, fun hs => ⟨by omega, ?_⟩⟩
        · rw [e3]
          exact row2_64 hFj (hf 1 (by omega)) _ ((U.cat_eq _ _ _ _).trans rfl) ((U.cat_eq _ _ _ _).trans ((if_neg (by omega)).trans (congrFun (cutF_some (.ki .i64 1) f 1) (1 - 1))))
        · have hp : ¬ 0 < szE (cnd0 2 f k s h (F j)) := fun hp => by
            have hs := U.eq_t.mp hs
            rw [e3, lk_eq] at hs
            erw [ec] at hs
            have hs' : szE (cnd0 2 f k s h (F j)) = 0 := hs
            omega
          refine ⟨⟨2, f, k, s, h, m, g, k1, s1, h1, n2, f2, k2, s2, h2, c, L, N, F, j + 1⟩, ⟨⟨rfl, .inr rfl, hf, hc, hN, hF⟩, by simp only []; omega⟩, by simp only []; omega, ?_, fun o ho => ho⟩
          rw [hno hp]
          exact wk_of [some 0, some 1, some 2, some 3] rfl (Nat.zero_le _) (fun b hb => by omega) ⟨⟨rfl, rfl⟩, ⟨rfl, rfl⟩, ⟨rfl, rfl⟩, ⟨rfl, rowS fun _ _ => rfl⟩, ⟨rfl, rfl, rfl⟩, rfl, trivial⟩ ⟨⟨rfl, ⟨rfl, rowS fun _ _ => rfl⟩, rfl, rfl, rfl, trivial⟩, ⟨rfl, ⟨rfl, rowS fun _ _ => rfl⟩, rfl, rfl, rfl, trivial⟩, ⟨rfl, ⟨rfl, rowS fun _ _ => rfl⟩, rfl, rfl, rfl, trivial⟩, ⟨rfl, rfl, rfl, rowL fun i hi => rfl⟩, trivial⟩
        · have hp : 0 < szE (cnd0 2 f k s h (F j)) := by
            have hs := U.eq_f.mp hs
            rw [e3, lk_eq] at hs
            erw [ec] at hs
            have hs' : szE (cnd0 2 f k s h (F j)) ≠ 0 := hs
            omega
          refine ⟨⟨2, f, k, s, h, m, g, k1, s1, h1, n2, f2, k2, s2, h2, c, L, N, F, j + 1⟩, ⟨⟨rfl, .inr rfl, hf, hc, hN, hF⟩, by simp only []; omega⟩, by simp only []; omega, ?_, fun o ho => ho⟩
          rw [hyes hp]
          refine wk_of [some 0, some 1, some 2, some 9] rfl (Nat.zero_le _) (fun b hb => by omega) ⟨⟨rfl, rfl⟩, ⟨rfl, rfl⟩, ⟨rfl, rfl⟩, ⟨rfl, rowS fun _ _ => rfl⟩, ⟨rfl, rfl, rfl⟩, rfl, trivial⟩ ⟨⟨rfl, ⟨rfl, rowS fun _ _ => rfl⟩, rfl, rfl, rfl, trivial⟩, ⟨rfl, ⟨rfl, rowS fun _ _ => rfl⟩, rfl, rfl, rfl, trivial⟩, ⟨rfl, ⟨rfl, rowS fun _ _ => rfl⟩, rfl, rfl, rfl, trivial⟩, ⟨rfl, rfl, rfl, rowL fun i hi => ?_⟩, trivial⟩
          rw [e3]
          erw [ec]
          rfl
  · obtain rfl : j = N := by omega
    refine ⟨fun h => absurd (U.lt_t.mp h) (by simp only [Int.ofNat_eq_natCast]; omega), fun _ => ⟨_, rfl, ?_⟩⟩
    exact wk_of [some 0, some 1, some 2, some 3] rfl (Nat.zero_le _) (fun b hb => by omega) ⟨⟨rfl, rfl⟩, ⟨rfl, rfl⟩, ⟨rfl, rfl⟩, trivial, ⟨rfl, rfl, rfl⟩, trivial, trivial⟩ ⟨⟨rfl, ⟨rfl, rowS fun _ _ => rfl⟩, rfl, rfl, rfl, trivial⟩, ⟨rfl, ⟨rfl, rowS fun _ _ => rfl⟩, rfl, rfl, rfl, trivial⟩, ⟨rfl, ⟨rfl, rowS fun _ _ => rfl⟩, rfl, rfl, rfl, trivial⟩, ⟨rfl, rfl, rfl, rowL fun i hi => rfl⟩, trivial⟩

set_option maxHeartbeats 1000000 in
theorem roundEx (n0 : Nat) (q : XEx) (hq : PhiEx n0 q) : ((sx Ee [] n0 (loopOf P 79 21) (mkS 110 [2,3,6,12,9,13] (VEx q).1, (VEx q).2)).bind (proj 110 [2,3,6,12,9,13])).All fun r => match r.1 with
      | .normal => ∃ q', PhiEx n0 q' ∧ q'.N - q'.j < q.N - q.j ∧ Wk 110 [2,3,6,12,9,13] n0 r.2 (VEx q') ∧ ∀ o, o = OEx q' → o = OEx q
      | e => ∃ s, (e, s) = OEx q ∧ Wk 110 [2,3,6,12,9,13] n0 r.2 s := by
  obtain ⟨n, f, k, s, h, m, g, k1, s1, h1, n2, f2, k2, s2, h2, c, L, N, F, j⟩ := q
  obtain ⟨⟨h0, hn, hf, hc, hN, hF⟩, hj⟩ := hq
  simp only [] at h0 hn hf hc hN hF hj
  subst h0
  subst hn
  show ((sx Ee [] 0 (loopOf P 79 21) (mkS 110 [2,3,6,12,9,13] (slE N F (bNx k s h (f2 0) c L F j) (j : Int)), memE n f k s h m g k1 s1 h1 2 f2 k2 s2 h2 (bNx k s h (f2 0) c L F j) (bLx k s h (f2 0) c L F j))).bind (proj 110 [2,3,6,12,9,13])).All _
  rw [t_qDS21]
  have hle := seBx_le k s h (f2 0) c L F j
  have e2 := addj (j := j) (by omega)
  have hno : ¬ 0 < szE (cnd1 k s h (f2 0) (F j)) → VEx ⟨n, f, k, s, h, m, g, k1, s1, h1, 2, f2, k2, s2, h2, c, L, N, F, j + 1⟩ = (slE N F (bNx k s h (f2 0) c L F j) ((j + 1 : Nat) : Int), memE n f k s h m g k1 s1 h1 2 f2 k2 s2 h2 (bNx k s h (f2 0) c L F j) (bLx k s h (f2 0) c L F j)) := fun hp => by
    simp only [VEx, bNx, bLx, seBx_no hp]
  have hyes : 0 < szE (cnd1 k s h (f2 0) (F j)) → VEx ⟨n, f, k, s, h, m, g, k1, s1, h1, 2, f2, k2, s2, h2, c, L, N, F, j + 1⟩ = (slE N F (bNx k s h (f2 0) c L F j + 1) ((j + 1 : Nat) : Int), memE n f k s h m g k1 s1 h1 2 f2 k2 s2 h2 (bNx k s h (f2 0) c L F j + 1) (U.cat (bNx k s h (f2 0) c L F j) (bLx k s h (f2 0) c L F j) fun _ => cnd1 k s h (f2 0) (F j))) := fun hp => by
    simp only [VEx, bNx, bLx, seBx_yes hp]
  have hcN : bNx k s h (f2 0) c L F j ≤ c + j := hle.2
  have hz0 : ¬ szE (cnd1 k s h (f2 0) (F j)) < 0 := Int.not_lt.2 (szE_nonneg _)
  simp only [tn1, tn0, tnj, e2]
  by_cases hlt : j < N
  · have hFj := hF j hlt
    refine ⟨fun _ => ⟨⟨by omega, by omega⟩, by omega, row2_64 (hf 0 (by omega)) hFj _ rfl rfl, fun hs => ?_, fun hs => ⟨by omega, ?_⟩⟩, fun h => absurd (U.lt_f.mp h) (by simp only [Int.ofNat_eq_natCast]; omega)⟩
    · have hp : ¬ 0 < szE (cnd1 k s h (f2 0) (F j)) := fun hp => by
        have hs := U.eq_t.mp hs
        rw [lk_eq] at hs
        have hs' : szE (cnd1 k s h (f2 0) (F j)) = 0 := hs
        omega
      refine ⟨⟨n, f, k, s, h, m, g, k1, s1, h1, 2, f2, k2, s2, h2, c, L, N, F, j + 1⟩, ⟨⟨rfl, rfl, hf, hc, hN, hF⟩, by simp only []; omega⟩, by simp only []; omega, ?_, fun o ho => ho⟩
      rw [hno hp]
      exact wk_of [some 0, some 1, some 2, some 3] rfl (Nat.zero_le _) (fun b hb => by omega) ⟨⟨rfl, rfl⟩, ⟨rfl, rfl⟩, ⟨rfl, rfl⟩, ⟨rfl, rowS fun _ _ => rfl⟩, ⟨rfl, rfl, rfl⟩, rfl, trivial⟩ ⟨⟨rfl, ⟨rfl, rowS fun _ _ => rfl⟩, rfl, rfl, rfl, trivial⟩, ⟨rfl, ⟨rfl, rowS fun _ _ => rfl⟩, rfl, rfl, rfl, trivial⟩, ⟨rfl, ⟨rfl, rowS fun _ _ => rfl⟩, rfl, rfl, rfl, trivial⟩, ⟨rfl, rfl, rfl, rowL fun i hi => rfl⟩, trivial⟩
    · have hp : 0 < szE (cnd1 k s h (f2 0) (F j)) := by
        have hs := U.eq_f.mp hs
        rw [lk_eq] at hs
        have hs' : szE (cnd1 k s h (f2 0) (F j)) ≠ 0 := hs
        omega
      refine ⟨⟨n, f, k, s, h, m, g, k1, s1, h1, 2, f2, k2, s2, h2, c, L, N, F, j + 1⟩, ⟨⟨rfl, rfl, hf, hc, hN, hF⟩, by simp only []; omega⟩, by simp only []; omega, ?_, fun o ho => ho⟩
      rw [hyes hp]
      exact wk_of [some 0, some 1, some 2, some 8] rfl (Nat.zero_le _) (fun b hb => by omega) ⟨⟨rfl, rfl⟩, ⟨rfl, rfl⟩, ⟨rfl, rfl⟩, ⟨rfl, rowS fun _ _ => rfl⟩, ⟨rfl, rfl, rfl⟩, rfl, trivial⟩ ⟨⟨rfl, ⟨rfl, rowS fun _ _ => rfl⟩, rfl, rfl, rfl, trivial⟩, ⟨rfl, ⟨rfl, rowS fun _ _ => rfl⟩, rfl, rfl, rfl, trivial⟩, ⟨rfl, ⟨rfl, rowS fun _ _ => rfl⟩, rfl, rfl, rfl, trivial⟩, ⟨rfl, rfl, rfl, rowL fun i hi => rfl⟩, trivial⟩
  · obtain rfl : j = N := by omega
    refine ⟨fun h => absurd (U.lt_t.mp h) (by simp only [Int.ofNat_eq_natCast]; omega), fun _ => ⟨_, rfl, ?_⟩⟩
    exact wk_of [some 0, some 1, some 2, some 3] rfl (Nat.zero_le _) (fun b hb => by omega) ⟨⟨rfl, rfl⟩, ⟨rfl, rfl⟩, ⟨rfl, rfl⟩, trivial, ⟨rfl, rfl, rfl⟩, trivial, trivial⟩ ⟨⟨rfl, ⟨rfl, rowS fun _ _ => rfl⟩, rfl, rfl, rfl, trivial⟩, ⟨rfl, ⟨rfl, rowS fun _ _ => rfl⟩, rfl, rfl, rfl, trivial⟩, ⟨rfl, ⟨rfl, rowS fun _ _ => rfl⟩, rfl, rfl, rfl, trivial⟩, ⟨rfl, rfl, rfl, rowL fun i hi => rfl⟩, trivial⟩

set_option maxHeartbeats 1000000 in
theorem loopCx : LoopOK P (loopOf P 79 11) (few 110 [2,3,6,8,9,10] gCx) :=
  loop_few (E := Ee) mixed Ee_ok loopsOK_none 110 [2,3,6,8,9,10] (X := XEx) gCx (fun _ x => VCx x) PhiCx (fun q => q.N - q.j) (fun _ x o => o = OCx x)
    (fun n0 st r h => by
      obtain ⟨sl, mm⟩ := st
      unfold gCx at h
      dsimp only at h
      split at h
      rotate_left
      · exact h.elim
      rename_i N F c0
      unfold gCy at h
      split at h
      · rename_i e0 n f k s h' t0 e1 m g k1 s1 h1 t1 e2 n2 f2 k2 s2 h2 t2 e4 c' ss L t4
        by_cases e : eqShs ss ssD = true
        rotate_left
        · rw [dif_neg e] at h; exact h.elim
        rw [dif_pos e] at h
        have es := eqShs_eq _ _ e
        subst es
        obtain ⟨hp, hc, rfl, rfl, rfl, rfl⟩ := (T.is_ask h).1
        obtain rfl := T.is_ret (T.is_ask h).2
        have hp' := hp
        obtain ⟨h0, _⟩ := hp'
        subst h0; subst hc
        refine ⟨⟨n, f, k, s, h', m, g, k1, s1, h1, n2, f2, k2, s2, h2, c0, L, N, F, 0⟩, ⟨hp, Nat.zero_le _⟩, ?_, fun o ho => by rw [ho]; simp only [OCx, oCx, lk_eq]; rfl⟩
        exact wk_of [some 0, some 1, some 2, some 3] rfl (Nat.zero_le _) (fun b hb => by omega) ⟨⟨rfl, rfl⟩, ⟨rfl, rfl⟩, ⟨rfl, rfl⟩, ⟨rfl, rowS fun _ _ => rfl⟩, ⟨rfl, rfl, rfl⟩, rfl, trivial⟩ ⟨⟨rfl, ⟨rfl, rowS fun _ _ => rfl⟩, rfl, rfl, rfl, trivial⟩, ⟨rfl, ⟨rfl, rowS fun _ _ => rfl⟩, rfl, rfl, rfl, trivial⟩, ⟨rfl, ⟨rfl, rowS fun _ _ => rfl⟩, rfl, rfl, rfl, trivial⟩, ⟨rfl, rfl, rfl, rowL fun i hi => rfl⟩, trivial⟩
      · exact h.elim)
    roundCx

set_option maxHeartbeats 1000000 in
theorem loopEx : LoopOK P (loopOf P 79 21) (few 110 [2,3,6,12,9,13] gEx) :=
  loop_few (E := Ee) mixed Ee_ok loopsOK_none 110 [2,3,6,12,9,13] (X := XEx) gEx (fun _ x => VEx x) PhiEx (fun q => q.N - q.j) (fun _ x o => o = OEx x)
    (fun n0 st r h => by
      obtain ⟨sl, mm⟩ := st
      unfold gEx at h
      dsimp only at h
      split at h
      rotate_left
      · exact h.elim
      rename_i N F c0
      unfold gEy at h
      split at h
      · rename_i e0 n f k s h' t0 e1 m g k1 s1 h1 t1 e2 n2 f2 k2 s2 h2 t2 e4 c' ss L t4
        by_cases e : eqShs ss ssD = true
        rotate_left
        · rw [dif_neg e] at h; exact h.elim
        rw [dif_pos e] at h
        have es := eqShs_eq _ _ e
        subst es
        obtain ⟨hp, hc, rfl, rfl, rfl, rfl⟩ := (T.is_ask h).1
        obtain rfl := T.is_ret (T.is_ask h).2
        have hp' := hp
        obtain ⟨h0, _⟩ := hp'
        subst h0; subst hc
        refine ⟨⟨n, f, k, s, h', m, g, k1, s1, h1, n2, f2, k2, s2, h2, c0, L, N, F, 0⟩, ⟨hp, Nat.zero_le _⟩, ?_, fun o ho => by rw [ho]; simp only [OEx, oEx, lk_eq]; rfl⟩
        exact wk_of [some 0, some 1, some 2, some 3] rfl (Nat.zero_le _) (fun b hb => by omega) ⟨⟨rfl, rfl⟩, ⟨rfl, rfl⟩, ⟨rfl, rfl⟩, ⟨rfl, rowS fun _ _ => rfl⟩, ⟨rfl, rfl, rfl⟩, rfl, trivial⟩ ⟨⟨rfl, ⟨rfl, rowS fun _ _ => rfl⟩, rfl, rfl, rfl, trivial⟩, ⟨rfl, ⟨rfl, rowS fun _ _ => rfl⟩, rfl, rfl, rfl, trivial⟩, ⟨rfl, ⟨rfl, rowS fun _ _ => rfl⟩, rfl, rfl, rfl, trivial⟩, ⟨rfl, rfl, rfl, rowL fun i hi => rfl⟩, trivial⟩
      · exact h.elim)
    roundEx
theorem lqS_ok : ∀ p ∈ lqS, LoopsOK P p.2 (bodyOf P p.1) := by
  intro p hp
  simp only [lqS, List.mem_singleton] at hp
  subst hp
  refine loopsOK_of (by kernel_rfl) fun k g hk => ?_
  simp only [List.mem_cons, List.not_mem_nil, or_false, Prod.mk.injEq, LoopC.sum.injEq] at hk
  rcases hk with ⟨rfl, rfl⟩ | ⟨rfl, rfl⟩
  · exact loopCx
  · exact loopEx
theorem qDSubtract_ok : ConOK P 79 c_DSubtract := con_cl (allOKL mixed d15_ok lqS_ok) 10 79 fun args r h => by
  unfold c_DSubtract at h
  split at h
  · rename_i n f k s h' m g k1 s1 h1
    obtain ⟨hp, hq⟩ := (T.is_ask h).1
    have h := (T.is_ask h).2
    obtain rfl := T.is_ret h
    rw [t_qDSubtract]
    simp only [tn0, tn1, lk_eq]
    refine T.all_mono (K := fun t => Cl t (dsR n f k s h' m g k1 s1 h1)) (fun t ht => ht) ?_
    refine ⟨⟨hp, hq⟩, fun hE => ?_, fun hE => ?_⟩
    · have hE : boE n f k s h' m g k1 s1 h1 ≠ 0 := U.ne_t.mp hE
      exact ds_err (by unfold dsE; rw [if_pos hE]) hE
    have hE : boE n f k s h' m g k1 s1 h1 = 0 := U.ne_f.mp hE
    have nE : ¬ boE n f k s h' m g k1 s1 h1 ≠ 0 := by simp [hE]
    obtain ⟨c1, c2, c3⟩ := boE_zero.1 hE
    subst c3
    obtain ⟨d1, _⟩ := chD_zero.1 c1
    obtain ⟨d2, _⟩ := chD_zero.1 c2
    have hn := d1.1
    have e1 : diN n f k s h' n g k1 s1 h1 = n := by unfold diN; rw [if_neg nE]
    have e2 : ∀ x, diX n f k s h' n g k1 s1 h1 x = x := fun x => by unfold diX; rw [if_neg nE]
    rw [e1, e2, e2, e2]
    have hdi := dr_64 (chD_zero.1 (di_right hE)).1
    have hI : ∀ i, i < n → I64 (f i).1 ∧ I64 (f i).2.1 ∧ I64 (f i).2.2.1 ∧ I64 (g i).1 ∧ I64 (g i).2.1 ∧ I64 (g i).2.2.1 := fun i hi => by
      obtain ⟨x1, x2, x3⟩ := hp i hi
      obtain ⟨y1, y2, y3⟩ := hq i hi
      exact ⟨x1, x2, x3, y1, y2, y3⟩
    have hnn := szE_nonneg (mkD n f k s h')
    have ecat : (U.cat 0 (fun _ => ((0 : Int), (0 : Int), (0 : Int), ())) f : Nat → R3) = f := funext fun i => (U.cat_eq _ _ _ _).trans (if_neg (Nat.not_lt_zero i))
    have esz : szD (0 + n) (U.cat 0 (fun _ => ((0 : Int), (0 : Int), (0 : Int), ())) f) k s h' = szE (mkD n f k s h') := by rw [Nat.zero_add, ecat]; rfl
    refine ⟨hdi, fun z => ⟨by omega, ?_, fun z1 => ?_, fun z1 => ⟨by omega, ?_⟩⟩, fun z => ⟨⟨by omega, by omega⟩, ⟨by omega, by omega⟩, hI 0 (by omega), fun z1 => ?_, fun z1 => ⟨⟨⟨rfl, hn, hp, by omega, sbN_le _ _ _ _ _ _, fun i _ => sb_64 (d1.2 0 (by omega)).1 (d2.2 0 (by omega)).1 i⟩, trivial, trivial, trivial, trivial, trivial⟩, fun z2 => ?_, fun z2 => ?_⟩⟩⟩
    · rw [Nat.zero_add]
      exact fun i hi => by
        have e : (U.cat 0 (fun _ => zeroEs [[Sh.int IntKind.i64], [Sh.int IntKind.i64], [Sh.int IntKind.i64]].reverse.flatten) (castEls rfl f) : Nat → R3) i = f i := (U.cat_eq _ _ _ _).trans (if_neg (Nat.not_lt_zero i))
        have hh := hp i hi
        rw [← e] at hh
        exact hh
    · have z : szD n (diF f g) k s h' = 0 := U.eq_t.mp z
      have z1 : szD (0 + n) (U.cat 0 (fun _ => ((0 : Int), (0 : Int), (0 : Int), ())) f) k s h' = 0 := U.eq_t.mp z1
      rw [esz] at z1
      have z1 : ¬ 0 < szE (mkD n f k s h') := by omega
      have hE0 : dsE n f k s h' n g k1 s1 h1 = 0 := by unfold dsE; rw [if_neg nE, if_pos z]
      have eL : dsL n f k s h' n g k1 s1 h1 = push noD (mkD n f k s h') := by unfold dsL; rw [if_neg (by rw [hE0]; simp), if_neg nE, if_pos z]
      have eP : push noD (mkD n f k s h') = noD := by unfold push; rw [if_neg z1]
      exact ds_ok hE0 (by unfold dsN; rw [eL, eP]; rfl) fun i hi => absurd hi (Nat.not_lt_zero i)
    · have z : szD n (diF f g) k s h' = 0 := U.eq_t.mp z
      have z1 : ¬ szD (0 + n) (U.cat 0 (fun _ => ((0 : Int), (0 : Int), (0 : Int), ())) f) k s h' = 0 := U.eq_f.mp z1
      rw [esz] at z1
      have z1 : 0 < szE (mkD n f k s h') := by omega
      have hE0 : dsE n f k s h' n g k1 s1 h1 = 0 := by unfold dsE; rw [if_neg nE, if_pos z]
      have eL : dsL n f k s h' n g k1 s1 h1 = push noD (mkD n f k s h') := by unfold dsL; rw [if_neg (by rw [hE0]; simp), if_neg nE, if_pos z]
      have eP : push noD (mkD n f k s h') = (1, U.cat 0 noD.2 fun _ => mkD n f k s h') := by unfold push; rw [if_pos z1]; rfl
      have ee : (((0 + n, U.cat 0 (fun _ => ((0 : Int), (0 : Int), (0 : Int), ())) f), k, s, h', ()) : DE) = mkD n f k s h' := by rw [Nat.zero_add, ecat]; rfl
      exact ds_ok hE0 (by unfold dsN; rw [eL, eP]) fun i hi => by
        unfold dsF; rw [eL, eP]
        refine ((U.cat_eq 0 _ _ i).trans (if_neg (Nat.not_lt_zero i))).trans ?_
        exact ee.trans ((U.cat_eq 0 noD.2 (fun _ => mkD n f k s h') i).trans (if_neg (Nat.not_lt_zero i))).symm
    · have z : ¬ szD n (diF f g) k s h' = 0 := U.eq_f.mp z
      have z1 : sb0E f g ≠ 0 := U.ne_t.mp z1
      exact ds_err (by unfold dsE; rw [if_neg nE, if_neg z, if_pos z1]; rfl) z1
    · have z : ¬ szD n (diF f g) k s h' = 0 := U.eq_f.mp z
      have z1 : ¬ sb0E f g ≠ 0 := fun h => h (U.ne_f.mp z1)
      have z2 : (n : Int) = 1 := U.eq_t.mp z2
      obtain rfl : n = 1 := by omega
      have hE0 : dsE 1 f k s h' 1 g k1 s1 h1 = 0 := by unfold dsE; rw [if_neg nE, if_neg z, if_neg z1, if_pos rfl]
      have eL : dsL 1 f k s h' 1 g k1 s1 h1 = ds0 1 f k s h' g := by unfold dsL ds1; rw [if_neg (by rw [hE0]; simp), if_neg nE, if_neg z, if_pos rfl]
      exact ds_ok hE0 (by unfold dsN; rw [eL]; rfl) fun i hi => by unfold dsF; rw [eL]; rfl
    · have z : ¬ szD n (diF f g) k s h' = 0 := U.eq_f.mp z
      have z1 : ¬ sb0E f g ≠ 0 := fun h => h (U.ne_f.mp z1)
      have z2 : ¬ (n : Int) = 1 := U.eq_f.mp z2
      obtain rfl : n = 2 := by omega
      have le1 := (seAx_le 2 f k s h' 0 noL (sb0F f g) (sb0N f g)).2
      have le2 : sb0N f g ≤ 1001 := sbN_le _ _ _ _ _ _
      refine ⟨⟨by omega, by omega⟩, ⟨by omega, by omega⟩, hI 1 (by omega), fun z3 => ?_, fun z3 => ⟨⟨⟨rfl, rfl, hdi, ?_, sbN_le _ _ _ _ _ _, fun i _ => sb_64 (d1.2 1 (by omega)).1 (d2.2 1 (by omega)).1 i⟩, trivial, trivial, trivial, trivial, trivial⟩, ?_⟩⟩
      · have z3 : sb1E f g ≠ 0 := U.ne_t.mp z3
        exact ds_err (by unfold dsE; rw [if_neg nE, if_neg z, if_neg z1, if_neg (by omega)]; rfl) z3
      · show (seAx 2 f k s h' 0 noL (sb0F f g) (sb0N f g)).1 ≤ 2000
        omega
      · have z3 : sb1E f g = 0 := U.ne_f.mp z3
        have hE0 : dsE 2 f k s h' 2 g k1 s1 h1 = 0 := by unfold dsE; rw [if_neg nE, if_neg z, if_neg z1, if_neg (by omega)]; exact z3
        have eL : dsL 2 f k s h' 2 g k1 s1 h1 = pushes (fun j => cnd1 k s h' (diF f g 0) (sb1F f g j)) (ds0 2 f k s h' g) (sb1N f g) := by unfold dsL ds1; rw [if_neg (by rw [hE0]; simp), if_neg nE, if_neg z, if_neg (by omega)]
        exact ds_ok hE0 (by unfold dsN; rw [eL]; rfl) fun i hi => by unfold dsF; rw [eL]; rfl
  · exact h.elim
theorem key3 (a b c x y z : Int) : (U.not (U.andb (U.eq a x) (U.andb (U.eq b y) (U.eq c z))) = false) ↔ (a = x ∧ b = y ∧ c = z) := by
  rw [U.not_f, U.andb_t, U.andb_t, U.eq_t, U.eq_t, U.eq_t]
theorem qDSame_ok : ConOK P 81 c_DSame := con_of (allOKL mixed d15_ok lqW_ok) 10 81 fun args r h => by
  unfold c_DSame at h
  split at h
  · rename_i n f k s h' m g k1 s1 h1
    obtain ⟨hp, hq⟩ := (T.is_ask h).1
    have h := (T.is_ask h).2
    obtain rfl := T.is_ret h
    rw [t_qDSame]
    simp only [lk_eq, tn]
    refine ⟨⟨hp, hq⟩, fun hE => ?_, fun hE => ?_⟩
    · have hE : boE n f k s h' m g k1 s1 h1 ≠ 0 := U.ne_t.mp hE
      have e : saD n f k s h' m g k1 s1 h1 = false := by unfold saD; rw [if_pos hE]
      rw [e]; exact rfl
    · have hE : boE n f k s h' m g k1 s1 h1 = 0 := U.ne_f.mp hE
      obtain ⟨c1, c2, c3⟩ := boE_zero.1 hE
      subst c3
      have hn := (chD_zero.1 c1).1.1
      unfold saD
      rw [if_neg (by simp [hE])]
      refine ⟨hp, fun z => ⟨hp, hq, ?_⟩, fun z => ⟨hq, fun z' => ⟨hp, hq, ?_⟩, fun z' => ?_⟩⟩
      · have z : szD n f k s h' = 0 := U.eq_t.mp z
        rw [if_pos (.inl z), U.eq_eq]
        exact congrArg (fun b => SV.lit (.bool b)) (by by_cases hq : szD n f k s h' = szD n g k1 s1 h1 <;> simp [hq])
      · have z' : szD n g k1 s1 h1 = 0 := U.eq_t.mp z'
        rw [if_pos (.inr z'), U.eq_eq]
        exact congrArg (fun b => SV.lit (.bool b)) (by by_cases hq : szD n f k s h' = szD n g k1 s1 h1 <;> simp [hq])
      · have z : szD n f k s h' ≠ 0 := U.eq_f.mp z
        have z' : szD n g k1 s1 h1 ≠ 0 := U.eq_f.mp z'
        rw [if_neg (by rintro (h | h); exact z h; exact z' h)]
        have yes : ∀ b : Bool, b = eqR3 n f n g → SV.lit (.bool b) = SV.lit (.bool (eqR3 n f n g)) := fun b hb => by rw [hb]
        have key : ∀ i, (U.not (U.andb (U.eq (f i).1 (g i).1) (U.andb (U.eq (f i).2.1 (g i).2.1) (U.eq (f i).2.2.1 (g i).2.2.1))) = false) ↔ ((f i).1 = (g i).1 ∧ (f i).2.1 = (g i).2.1 ∧ (f i).2.2.1 = (g i).2.2.1) := fun i => key3 _ _ _ _ _ _
        have keyT : ∀ i, i < n → U.not (U.andb (U.eq (f i).1 (g i).1) (U.andb (U.eq (f i).2.1 (g i).2.1) (U.eq (f i).2.2.1 (g i).2.2.1))) = true → false = eqR3 n f n g := fun i hi ht => by
          cases he : eqR3 n f n g
          · rfl
          · have hh := (key i).2 ((eqR3_t.1 he).2 i hi)
            rw [hh] at ht; cases ht
        rcases hn with rfl | rfl
        · refine ⟨fun _ => ⟨by omega, by omega, fun z1 => yes _ (keyT 0 (by omega) z1), fun z1 => ⟨fun h => absurd (U.lt_t.mp h) (by decide), fun _ => yes _ ?_⟩⟩, fun h => absurd (U.lt_f.mp h) (by decide)⟩
          exact (eqR3_t.2 ⟨rfl, fun i hi => by
            obtain rfl : i = 0 := by omega
            exact (key 0).1 z1⟩).symm
        · refine ⟨fun _ => ⟨by omega, by omega, fun z1 => yes _ (keyT 0 (by omega) z1), fun z1 => ⟨fun _ => ⟨by omega, by omega, fun z2 => yes _ (keyT 1 (by omega) z2), fun z2 => ⟨fun h => absurd (U.lt_t.mp h) (by decide), fun _ => yes _ ?_⟩⟩, fun h => absurd (U.lt_f.mp h) (by decide)⟩⟩, fun h => absurd (U.lt_f.mp h) (by decide)⟩
          exact (eqR3_t.2 ⟨rfl, fun i hi => by
            rcases (show i = 0 ∨ i = 1 by omega) with rfl | rfl
            · exact (key 0).1 z1
            · exact (key 1).1 z2⟩).symm
  · exact h.elim
end Go.RX.Span

/- Lists of domains compared: EqualFunc with Equal. -/
set_option linter.unusedVariables false
set_option linter.unusedSimpArgs false
set_option maxRecDepth 100000
namespace Go.RX.Span
open Go Go.RX
attribute [local irreducible] sx conB

def SameD (n : Nat) (F G : Nat → DE) : Prop := n ≤ 100000 ∧ ∀ i, i < n → F i = G i ∧ (F i).1.1 ≤ 100000
noncomputable def c_EqF : Con := fun args => match args with
  | [.row ss n F, .row ss' m G, .fn (.func 60) [] []] =>
    if e : eqShs ss ssD = true ∧ eqShs ss' ssD = true then .ask (n = m ∧ SameD n (castEls e.1 F) (castEls e.2 G)) (.ret (.lit (.bool true))) else .stuck 2
  | _ => .stuck 1
structure XFx where
  (n : Nat) (F G : Nat → DE) (j : Nat)
noncomputable abbrev slF (n : Nat) (F G : Nat → DE) (j : Int) : List SV := [.row ssD n G, .fn (.func 60) [] [], .row ssD n F, .lit (.int .i64 (n : Int)), .lit (.int .i64 j)]
noncomputable def VFx (q : XFx) : Few := (slF q.n q.F q.G (q.j : Int), [])
noncomputable def OFx (q : XFx) : Ex × Few := (.exit 0, ([.any, .any, .any, .any, .any], []))
def PhiFx (n0 : Nat) (q : XFx) : Prop := n0 = 0 ∧ SameD q.n q.F q.G ∧ q.j ≤ q.n
noncomputable def gFx : Nat → Few → T (Ex × Few)
  | n0, ([.row ss m G, .fn (.func 60) [] [], .row ss' n F, .lit (.int .i64 l), .ki .i64 (.ofNat 0)], []) =>
    if e : eqShs ss ssD = true ∧ eqShs ss' ssD = true then .ask (n0 = 0 ∧ n = m ∧ l = Int.ofNat n ∧ SameD n (castEls e.2 F) (castEls e.1 G)) (.ret (.exit 0, ([.any, .any, .any, .any, .any], []))) else .stuck 2
  | _, _ => .stuck 1
noncomputable abbrev lF : List (Nat × Loops) := [(59, [(4, .sum (few 32 [1,2,15,16,17] gFx))])]
noncomputable abbrev Ef : Env := ⟨P, conOf d11, scall P (conOf d11) noLoops 10⟩
theorem Ef_ok : EnvOK Ef := envOK (allOK mixed d11_ok) 10
end Go.RX.Span

/- Lists of domains compared: the walk. -/
set_option linter.unusedVariables false
set_option linter.unusedSimpArgs false
set_option maxRecDepth 100000
namespace Go.RX.Span
open Go Go.RX
attribute [local irreducible] sx conB

--%R \(castEls \(c_EqF\S+ ssD ssD ⟨rfl, rfl⟩\) ([FG])\) => \1
set_option maxRecDepth 100000 in
theorem t_EF (n0 n : Nat) (F G : Nat → DE) (j : Int) : (sx Ef [] n0 (loopOf P 59 4) (mkS 32 [1,2,15,16,17] (slF n F G j), [])).bind (proj 32 [1,2,15,16,17]) =
    T.br (U.lt j (Int.ofNat n)) (.ask ((0 : Int) ≤ j ∧ j < ↑n) (.ask ((0 : Int) ≤ j ∧ j < ↑n) (.ask ((F (U.toNat j)).fst.1 ≤ nat_lit 9223372036854775807) (.br (U.not (lk eqD (F (U.toNat
      j)).fst.1 (F (U.toNat j)).fst.2 (F (U.toNat j)).2.1 (F (U.toNat j)).2.2.1 (F (U.toNat j)).2.2.2.1 (G (U.toNat j)).fst.1 (G (U.toNat j)).fst.2 (G (U.toNat j)).2.1 (G (U.toNat
      j)).2.2.1 (G (U.toNat j)).2.2.2.1)) (.ret (Ex.ret, [.row [.sl [.int .i64, .int .i64, .int .i64], .int .i64, .int .i64, .int .i64] n G, SV.fn (Fn.func (nat_lit 60)) [] [], .row [.sl
      [.int .i64, .int .i64, .int .i64], .int .i64, .int .i64, .int .i64] n F, .lit (.int .i64 (Int.ofNat n)), .lit (.int .i64 j)], [(nat_lit 1, some (Blk.cells [.row [.int .i64, .int
      .i64, .int .i64] (F (U.toNat j)).fst.1 (F (U.toNat j)).fst.2, .lit (.int .i64 (F (U.toNat j)).2.1), .lit (.int .i64 (F (U.toNat j)).2.2.1), .lit (.int .i64 (F (U.toNat j)).2.2.2.1)]
      (nat_lit 49))), (nat_lit 1, some (Blk.cells [.row [.int .i64, .int .i64, .int .i64] (G (U.toNat j)).fst.1 (G (U.toNat j)).fst.2, .lit (.int .i64 (G (U.toNat j)).2.1), .lit (.int
      .i64 (G (U.toNat j)).2.2.1), .lit (.int .i64 (G (U.toNat j)).2.2.2.1)] (nat_lit 49)))])) (.ret (Ex.normal, [.row [.sl [.int .i64, .int .i64, .int .i64], .int .i64, .int .i64, .int
      .i64] n G, SV.fn (Fn.func (nat_lit 60)) [] [], .row [.sl [.int .i64, .int .i64, .int .i64], .int .i64, .int .i64, .int .i64] n F, .lit (.int .i64 (Int.ofNat n)), .lit (.int .i64
      (U.add .i64 j (1 : Int)))], [(nat_lit 1, some (Blk.cells [.row [.int .i64, .int .i64, .int .i64] (F (U.toNat j)).fst.1 (F (U.toNat j)).fst.2, .lit (.int .i64 (F (U.toNat j)).2.1),
      .lit (.int .i64 (F (U.toNat j)).2.2.1), .lit (.int .i64 (F (U.toNat j)).2.2.2.1)] (nat_lit 49))), (nat_lit 1, some (Blk.cells [.row [.int .i64, .int .i64, .int .i64] (G (U.toNat
      j)).fst.1 (G (U.toNat j)).fst.2, .lit (.int .i64 (G (U.toNat j)).2.1), .lit (.int .i64 (G (U.toNat j)).2.2.1), .lit (.int .i64 (G (U.toNat j)).2.2.2.1)] (nat_lit 49)))])))))) (.ret
      (Ex.exit (nat_lit 0), [.row [.sl [.int .i64, .int .i64, .int .i64], .int .i64, .int .i64, .int .i64] n G, SV.fn (Fn.func (nat_lit 60)) [] [], .row [.sl [.int .i64, .int .i64, .int
      .i64], .int .i64, .int .i64, .int .i64] n F, .lit (.int .i64 (Int.ofNat n)), .lit (.int .i64 j)], [])) := by kernel_rfl
set_option maxRecDepth 100000 in
theorem t_EqF (n : Nat) (F : Nat → DE) (m : Nat) (G : Nat → DE) : conB Go.Proofs.Try.prog (conOf d11) (loopsOf lF) 10 59 [.row ssD n F, .row ssD m G, .fn (.func 60) [] []] =
    T.br (U.ne (Int.ofNat n) (Int.ofNat m)) (.ret (.lit (.bool false))) (.ask (nat_lit 0 = (0 : Nat) ∧ n = m ∧ ↑n = Int.ofNat n ∧ SameD n F G) (.ret (.lit (.bool true)))) := by kernel_rfl
theorem roundFx (n0 : Nat) (q : XFx) (hq : PhiFx n0 q) : ((sx Ef [] n0 (loopOf P 59 4) (mkS 32 [1,2,15,16,17] (VFx q).1, (VFx q).2)).bind (proj 32 [1,2,15,16,17])).All fun r => match r.1 with
      | .normal => ∃ q', PhiFx n0 q' ∧ q'.n - q'.j < q.n - q.j ∧ Wk 32 [1,2,15,16,17] n0 r.2 (VFx q') ∧ ∀ o, o = OFx q' → o = OFx q
      | e => ∃ s, (e, s) = OFx q ∧ Wk 32 [1,2,15,16,17] n0 r.2 s := by
  obtain ⟨n, F, G, j⟩ := q
  obtain ⟨h0, ⟨hn, hF⟩, hj⟩ := hq
  simp only [] at h0 hn hF hj
  subst h0
  show ((sx Ef [] 0 (loopOf P 59 4) (mkS 32 [1,2,15,16,17] (slF n F G (j : Int)), [])).bind (proj 32 [1,2,15,16,17])).All _
  rw [t_EF]
  have e2 : U.add .i64 (j : Int) 1 = ((j + 1 : Nat) : Int) := by rw [U.add64 (by unfold I64; omega)]; omega
  simp only [tnj, e2]
  by_cases hlt : j < n
  · obtain ⟨e1, e2⟩ := hF j hlt
    have eq1 : eqD (F j).1.1 (F j).1.2 (F j).2.1 (F j).2.2.1 (F j).2.2.2.1 (G j).1.1 (G j).1.2 (G j).2.1 (G j).2.2.1 (G j).2.2.2.1 = true := by rw [← e1]; exact eqD_self _ _ _ _ _
    refine ⟨fun _ => ⟨⟨by omega, by omega⟩, ⟨by omega, by omega⟩, Nat.le_trans e2 (by omega), fun hh => ?_, fun _ => ?_⟩, fun h => absurd (U.lt_f.mp h) (by simp only [Int.ofNat_eq_natCast]; omega)⟩
    · rw [lk_eq] at hh
      have h1 := U.not_t.mp hh
      exact absurd (h1.symm.trans eq1) (by decide)
    · refine ⟨⟨n, F, G, j + 1⟩, ⟨rfl, ⟨hn, hF⟩, by simp only []; omega⟩, by simp only []; omega, ?_, fun o ho => ho⟩
      exact wk_of [] rfl (Nat.zero_le _) (fun b hb => by omega) ⟨⟨rfl, rowL fun i hi => rfl⟩, ⟨rfl, trivial, trivial⟩, ⟨rfl, rowL fun i hi => rfl⟩, rfl, rfl, trivial⟩ trivial
  · obtain rfl : j = n := by omega
    refine ⟨fun h => absurd (U.lt_t.mp h) (by simp only [Int.ofNat_eq_natCast]; omega), fun _ => ⟨_, rfl, ?_⟩⟩
    exact wk_of [] rfl (Nat.zero_le _) (fun b hb => by omega) ⟨trivial, trivial, trivial, trivial, trivial, trivial⟩ trivial
theorem loopFx : LoopOK P (loopOf P 59 4) (few 32 [1,2,15,16,17] gFx) :=
  loop_few (E := Ef) mixed Ef_ok loopsOK_none 32 [1,2,15,16,17] (X := XFx) gFx (fun _ x => VFx x) PhiFx (fun q => q.n - q.j) (fun _ x o => o = OFx x)
    (fun n0 st r h => by
      unfold gFx at h
      split at h
      · rename_i n0 ss m G ss' n F l
        by_cases e : eqShs ss ssD = true ∧ eqShs ss' ssD = true
        rotate_left
        · rw [dif_neg e] at h; exact h.elim
        rw [dif_pos e] at h
        obtain ⟨ea, eb⟩ := e
        have es := eqShs_eq _ _ ea
        subst es
        have es := eqShs_eq _ _ eb
        subst es
        obtain ⟨h0, hn, hl, hs⟩ := (T.is_ask h).1
        obtain rfl := T.is_ret (T.is_ask h).2
        subst h0; subst hn; subst hl
        refine ⟨⟨n, F, G, 0⟩, ⟨rfl, hs, Nat.zero_le _⟩, ?_, fun o ho => ho⟩
        exact wk_of [] rfl (Nat.zero_le _) (fun b hb => by omega) ⟨⟨rfl, rowL fun i hi => rfl⟩, ⟨rfl, trivial, trivial⟩, ⟨rfl, rowL fun i hi => rfl⟩, rfl, rfl, trivial⟩ trivial
      · exact h.elim)
    roundFx
theorem lF_ok : ∀ p ∈ lF, LoopsOK P p.2 (bodyOf P p.1) := by
  intro p hp
  simp only [lF, List.mem_singleton] at hp
  subst hp
  refine loopsOK_of (by kernel_rfl) fun k g hk => ?_
  simp only [List.mem_singleton, Prod.mk.injEq, LoopC.sum.injEq] at hk
  obtain ⟨rfl, rfl⟩ := hk
  exact loopFx
theorem EqF_ok : ConOK P 59 c_EqF := con_of (allOKL mixed d11_ok lF_ok) 10 59 fun args r h => by
  unfold c_EqF at h
  split at h
  · rename_i ss n F ss' m G
    by_cases e : eqShs ss ssD = true ∧ eqShs ss' ssD = true
    rotate_left
    · rw [dif_neg e] at h; exact h.elim
    rw [dif_pos e] at h
    obtain ⟨ea, eb⟩ := e
    have es := eqShs_eq _ _ ea
    subst es
    have es := eqShs_eq _ _ eb
    subst es
    obtain ⟨hn, hs⟩ := (T.is_ask h).1
    obtain rfl := T.is_ret (T.is_ask h).2
    subst hn
    rw [t_EqF]
    exact ⟨fun h => absurd rfl (U.ne_t.mp h), fun _ => ⟨⟨rfl, rfl, rfl, hs⟩, rfl⟩⟩
  · exact h.elim
end Go.RX.Span

/- Domains: what the law of pairs returns. -/
set_option linter.unusedVariables false
set_option linter.unusedSimpArgs false
set_option maxRecDepth 100000
namespace Go.RX.Span
open Go Go.RX
attribute [local irreducible] sx conB

noncomputable abbrev d16 : List (Nat × Con) := (78, c_DSubtract) :: (79, c_DSubtract) :: (80, c_DWithin) :: (81, c_DSame) :: (65, c_DWithin) :: (66, c_DSame) :: (59, c_EqF) :: d15 --%K
theorem d16_ok : ∀ p ∈ d16, ConOK P p.1 p.2 := by
  intro p hp
  simp only [d16, List.mem_cons] at hp
  rcases hp with rfl | rfl | rfl | rfl | rfl | rfl | rfl | hp
  · exact DSubtract_ok
  · exact qDSubtract_ok
  · exact qDWithin_ok
  · exact qDSame_ok
  · exact DWithin_ok
  · exact DSame_ok
  · exact EqF_ok
  · exact d15_ok p (by simpa [d15, d14p] using hp)
noncomputable def c_DomainPairs : Con := fun args => match args with
  | [.agg [.row [.int .i64, .int .i64, .int .i64] n f, .lit (.int .i64 k), .lit (.int .i64 s), .lit (.int .i64 h)], .agg [.row [.int .i64, .int .i64, .int .i64] m g, .lit (.int .i64 k1), .lit (.int .i64 s1), .lit (.int .i64 h1)]] =>
    .ask (Row64 n f ∧ Row64 m g) (.ret (.lit (.bool true)))
  | _ => .stuck 1
set_option maxRecDepth 100000 in
theorem t_DomainPairs (n : Nat) (f : Nat → R3) (k s h : Int) (m : Nat) (g : Nat → R3) (k1 s1 h1 : Int) : conB Go.Proofs.Try.prog (conOf d16) noLoops 10 14 [.agg [.row [.int .i64, .int .i64, .int .i64] n f, .lit (.int .i64 k), .lit (.int .i64 s), .lit (.int .i64 h)], .agg [.row [.int .i64, .int .i64, .int .i64] m g, .lit (.int .i64 k1), .lit (.int .i64 s1), .lit (.int .i64 h1)]] =
    T.ask (Row64 n f ∧ Row64 m g) (.ask (Row64 n f ∧ Row64 m g) (.ask (Row64 n f ∧ Row64 m g) (.ask (Row64 n f ∧ Row64 m g) (.ask (Row64 n f ∧ Row64 m g) (.ask (Row64 n f ∧ Row64 m g)
      (.ask (lk diN n f k s h m g k1 s1 h1 ≤ nat_lit 9223372036854775807) (.br (lk eqD (lk diN n f k s h m g k1 s1 h1) (lk diF f g) (lk diX n f k s h m g k1 s1 h1 k) (lk diX n f k s h m g
      k1 s1 h1 s) (lk diX n f k s h m g k1 s1 h1 h) (lk diN n f k s h m g k1 s1 h1) (lk diF f g) (lk diX n f k s h m g k1 s1 h1 k) (lk diX n f k s h m g k1 s1 h1 s) (lk diX n f k s h m g
      k1 s1 h1 h)) (.br (U.eq (lk boE n f k s h m g k1 s1 h1) (lk boE n f k s h m g k1 s1 h1)) (.ask (lk dsN n f k s h m g k1 s1 h1 = lk dsN n f k s h m g k1 s1 h1 ∧ SameD (lk dsN n f k s
      h m g k1 s1 h1) (castEls (c_EqF._proof_1 [.sl [.int .i64, .int .i64, .int .i64], .int .i64, .int .i64, .int .i64] [.sl [.int .i64, .int .i64, .int .i64], .int .i64, .int .i64, .int
      .i64] ⟨rfl, rfl⟩) (lk dsF n f k s h m g k1 s1 h1)) (castEls (c_EqF._proof_2 [.sl [.int .i64, .int .i64, .int .i64], .int .i64, .int .i64, .int .i64] [.sl [.int .i64, .int .i64, .int
      .i64], .int .i64, .int .i64, .int .i64] ⟨rfl, rfl⟩) (lk dsF n f k s h m g k1 s1 h1))) (.br true (.br (U.eq (lk dsE n f k s h m g k1 s1 h1) (lk dsE n f k s h m g k1 s1 h1)) (.br
      (U.beq (lk wiD n f k s h m g k1 s1 h1) (lk wiD n f k s h m g k1 s1 h1)) (.br (U.eq (lk boE n f k s h m g k1 s1 h1) (lk boE n f k s h m g k1 s1 h1)) (.ask (Row64 n f ∧ Row64 m g)
      (.ask (Row64 n f ∧ Row64 m g) (.br (U.beq (lk saD n f k s h m g k1 s1 h1) (lk saD n f k s h m g k1 s1 h1)) (.ret (.lit (.bool true))) (.ret (.lit (.bool false)))))) (.ret (.lit
      (.bool false)))) (.ret (.lit (.bool false)))) (.ret (.lit (.bool false)))) (.ret (.lit (.bool false))))) (.ret (.lit (.bool false)))) (.ret (.lit (.bool false)))))))))) := by kernel_rfl
theorem diN_le (n : Nat) (f : Nat → R3) (k s h : Int) (m : Nat) (g : Nat → R3) (k' s' h' : Int) : diN n f k s h m g k' s' h' ≤ 2 := by
  unfold diN
  split
  · omega
  · rename_i hE
    have := (chD_zero.1 (boE_zero.1 (Classical.byContradiction hE)).1).1.1
    omega
theorem pushes_short {c : Nat → DE} {q : DL} {b : Nat} (hc : ∀ j, (c j).1.1 ≤ b) (hq : ∀ i, i < q.1 → (q.2 i).1.1 ≤ b) : ∀ N i, i < (pushes c q N).1 → ((pushes c q N).2 i).1.1 ≤ b
  | 0, i, hi => hq i hi
  | N + 1, i, hi => by
    have ih := pushes_short hc hq N
    revert hi
    simp only [pushes]
    unfold push
    split
    · intro hi
      have hi : i < (pushes c q N).1 + 1 := hi
      show (U.cat (pushes c q N).1 (pushes c q N).2 (fun _ => c N) i).1.1 ≤ b
      rw [U.cat_eq]
      split
      · rename_i h; exact ih i h
      · exact hc N
    · exact ih i
theorem ds_same (n : Nat) (f : Nat → R3) (k s h : Int) (m : Nat) (g : Nat → R3) (k' s' h' : Int) : SameD (dsN n f k s h m g k' s' h') (dsF n f k s h m g k' s' h') (dsF n f k s h m g k' s' h') := by
  have none : SameD noD.1 noD.2 noD.2 := ⟨by show 0 ≤ _; omega, fun i hi => absurd hi (Nat.not_lt_zero i)⟩
  have key : ∀ q : DL, q.1 ≤ 100000 → (∀ i, i < q.1 → (q.2 i).1.1 ≤ 100000) → SameD q.1 q.2 q.2 := fun q h1 h2 => ⟨h1, fun i hi => ⟨rfl, h2 i hi⟩⟩
  unfold dsN dsF dsL
  split
  · exact none
  split
  · exact none
  rename_i hE
  have hn := (chD_zero.1 (boE_zero.1 (Classical.byContradiction hE)).1).1.1
  split
  · refine key _ (by have := (push_le noD (mkD n f k s h)).2; have e : noD.1 = 0 := rfl; omega) fun i hi => ?_
    revert hi
    unfold push
    split
    · intro hi
      show (U.cat noD.1 noD.2 (fun _ => mkD n f k s h) i).1.1 ≤ 100000
      rw [U.cat_eq, if_neg (show ¬ i < noD.1 from Nat.not_lt_zero i)]
      show n ≤ 100000
      omega
    · exact fun hi => absurd hi (Nat.not_lt_zero i)
  · have l0 : (ds0 n f k s h g).1 ≤ 1001 := by
      have h1 := (pushes_le (fun j => cnd0 n f k s h (sb0F f g j)) noD (sb0N f g)).2
      have h2 : sb0N f g ≤ 1001 := sbN_le _ _ _ _ _ _
      have e : noD.1 = 0 := rfl
      show (pushes _ _ _).1 ≤ 1001
      omega
    have s0 : ∀ i, i < (ds0 n f k s h g).1 → ((ds0 n f k s h g).2 i).1.1 ≤ 100000 := pushes_short (fun j => by show n ≤ 100000; omega) (fun i hi => absurd hi (Nat.not_lt_zero i)) _
    unfold ds1
    split
    · exact key _ (by omega) s0
    · refine key _ ?_ (pushes_short (fun j => by show 2 ≤ 100000; omega) s0 _)
      have h1 := (pushes_le (fun j => cnd1 k s h (diF f g 0) (sb1F f g j)) (ds0 n f k s h g) (sb1N f g)).2
      have h2 : sb1N f g ≤ 1001 := sbN_le _ _ _ _ _ _
      omega
theorem DomainPairs_ok : ConOK P 14 c_DomainPairs := con_of (allOK mixed d16_ok) 10 14 fun args r h => by
  unfold c_DomainPairs at h
  split at h
  · rename_i n f k s h' m g k1 s1 h1
    obtain ⟨p1, p2⟩ := (T.is_ask h).1
    have h := (T.is_ask h).2
    obtain rfl := T.is_ret h
    rw [t_DomainPairs]
    have a : diN n f k s h' m g k1 s1 h1 ≤ 9223372036854775807 := by have := diN_le n f k s h' m g k1 s1 h1; omega
    have b := ds_same n f k s h' m g k1 s1 h1
    simp only [lk_eq, eqD_self]
    simp [T.All, p1, p2, a, b, U.eq_eq, U.ne_eq, U.beq_eq, U.not_eq]
    exact b
  · exact h.elim
end Go.RX.Span

