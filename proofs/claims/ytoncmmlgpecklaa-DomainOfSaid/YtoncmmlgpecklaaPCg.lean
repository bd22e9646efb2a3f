/- Domains: the reference's functions: the walks. -/
import Derived.Test.YtoncmmlgpecklaaPCf
set_option linter.unusedVariables false
set_option linter.unusedSimpArgs false
set_option maxRecDepth 100000
namespace Go.RX.Span
open Go Go.RX
attribute [local irreducible] sx conB
noncomputable abbrev d7 : List (Nat × Con) := (64, c_true) :: d6 --%K
theorem d7_ok : ∀ p ∈ d7, ConOK P p.1 p.2 := by
  intro p hp
  simp only [d7, List.mem_cons] at hp
  rcases hp with rfl | hp
  · exact awake2_ok
  · exact d6_ok p (by simpa [d6] using hp)
set_option maxRecDepth 100000 in
theorem t_DPosition (n : Nat) (f : Nat → R3) (k s h : Int) (m : Nat) (e : Nat → R1) : conB Go.Proofs.Try.prog (conOf d7) noLoops 10 71 [.agg [.row [.int .i64, .int .i64, .int .i64] n f, .lit (.int .i64 k), .lit (.int .i64 s), .lit (.int .i64 h)], .row [.int .i64] m e] =
    T.ask (Row64 n f) (T.br (U.ne (lk chD n f k s h) (0 : Int)) (T.ret (SV.tup [SV.lit (Value.int IntKind.i64 (0 : Int)), SV.lit (Value.bool false)])) (T.br (U.ne (Int.ofNat m)
      (Int.ofNat n)) (T.ret (SV.tup [SV.lit (Value.int IntKind.i64 (0 : Int)), SV.lit (Value.bool false)])) (T.br (U.eq (Int.ofNat m) (1 : Int)) (T.ask ((0 : Int) ≤ (0 : Int) ∧ (0 : Int)
      < ↑n) (T.ask ((0 : Int) ≤ (0 : Int) ∧ (0 : Int) < ↑m) (T.ask (I64 (f (U.toNat (0 : Int))).1 ∧ I64 (f (U.toNat (0 : Int))).snd.1 ∧ I64 (f (U.toNat (0 : Int))).snd.snd.1) (T.ret
      (SV.tup [SV.lit (Value.int IntKind.i64 (lk pos (f (U.toNat (0 : Int))).1 (f (U.toNat (0 : Int))).snd.1 (f (U.toNat (0 : Int))).snd.snd.1 (e (U.toNat (0 : Int))).1)), SV.lit
      (Value.bool (lk has (f (U.toNat (0 : Int))).1 (f (U.toNat (0 : Int))).snd.1 (f (U.toNat (0 : Int))).snd.snd.1 (e (U.toNat (0 : Int))).1))]))))) (T.ask (nat_lit 1 + (1 : Nat) ≤ m)
      (T.ask ((0 : Int) ≤ (0 : Int) ∧ (0 : Int) < ↑n) (T.ask (I64 (f (U.toNat (0 : Int))).1 ∧ I64 (f (U.toNat (0 : Int))).snd.1 ∧ I64 (f (U.toNat (0 : Int))).snd.snd.1) (T.ask ((0 : Int)
      ≤ (1 : Int) ∧ (1 : Int) < ↑n) (T.ask (I64 (f (U.toNat (1 : Int))).1 ∧ I64 (f (U.toNat (1 : Int))).snd.1 ∧ I64 (f (U.toNat (1 : Int))).snd.snd.1) (T.br (U.not (lk has (f (U.toNat (0
      : Int))).1 (f (U.toNat (0 : Int))).snd.1 (f (U.toNat (0 : Int))).snd.snd.1 (e (0 : Nat)).1)) (T.ret (SV.tup [SV.lit (Value.int IntKind.i64 (0 : Int)), SV.lit (Value.bool false)]))
      (T.br (U.not (lk has (f (U.toNat (1 : Int))).1 (f (U.toNat (1 : Int))).snd.1 (f (U.toNat (1 : Int))).snd.snd.1 (e ((0 : Nat) + (1 : Nat))).1)) (T.ret (SV.tup [SV.lit (Value.int
      IntKind.i64 (0 : Int)), SV.lit (Value.bool false)])) (T.ask (Row64 n f ∧ (n = (1 : Nat) ∨ n = (2 : Nat))) (T.ret (SV.tup [SV.lit (Value.int IntKind.i64 (U.add IntKind.i64 (U.mul
      IntKind.i64 (lk pos (f (U.toNat (0 : Int))).1 (f (U.toNat (0 : Int))).snd.1 (f (U.toNat (0 : Int))).snd.snd.1 (e (0 : Nat)).1) (lk colD n f)) (lk pos (f (U.toNat (1 : Int))).1 (f
      (U.toNat (1 : Int))).snd.1 (f (U.toNat (1 : Int))).snd.snd.1 (e ((0 : Nat) + (1 : Nat))).1))), SV.lit (Value.bool true)]))))))))))))) := by kernel_rfl
theorem pv_eq {x y : Int} {b c : Bool} (h1 : x = y) (h2 : b = c) : SV.tup [.lit (.int .i64 x), .lit (.bool b)] = SV.tup [.lit (.int .i64 y), .lit (.bool c)] := by rw [h1, h2]
theorem mul_add_bnd {x y z X : Int} (hx0 : 0 ≤ x) (hx : x ≤ X) (hy0 : 0 ≤ y) (hy : y ≤ 2000001) (hX : X ≤ 2000001) (hz0 : 0 ≤ z) (hz : z ≤ 2000001) : 0 ≤ x * y ∧ x * y ≤ 5000000000000 ∧ 0 ≤ x * y + z ∧ x * y + z ≤ 6000000000000 := by
  have h1 := Int.mul_nonneg hx0 hy0
  have h2 := Int.mul_le_mul (show x ≤ 2000001 by omega) hy hy0 (by omega)
  omega
theorem DPosition_ok : ConOK P 71 c_DPosition := con_of (allOK mixed d7_ok) 10 71 fun args r h => by
  unfold c_DPosition at h
  split at h
  · rename_i n f k s h' m e
    have hp : Row64 n f := (T.is_ask h).1
    have h := (T.is_ask h).2
    obtain rfl := T.is_ret h
    rw [t_DPosition]
    simp only [tn0, tn1, lk_eq]
    have no : ¬ (chD n f k s h' = 0 ∧ m = n ∧ hasR (f 0) (e 0).1 = true ∧ (n = 2 → hasR (f 1) (e 1).1 = true)) → SV.tup [.lit (.int .i64 0), .lit (.bool false)] = SV.tup [.lit (.int .i64 (posD n f k s h' m e)), .lit (.bool (hasD n f k s h' m e))] :=
      fun h => pv_eq (hasD_f h).2.symm (hasD_f h).1.symm
    refine ⟨hp, fun z => ?_, fun z => ⟨fun g => ?_, fun g => ?_⟩⟩
    · have z := U.ne_t.mp z
      exact no fun h => z h.1
    · have g := U.ne_t.mp g
      exact no fun h => g (by rw [h.2.1])
    have z : chD n f k s h' = 0 := U.ne_f.mp z
    have g : (m : Int) = n := U.ne_f.mp g
    obtain rfl : m = n := by omega
    obtain ⟨d1, d1'⟩ := chD_zero.1 z
    have hn := d1.1
    refine ⟨fun g1 => ?_, fun g1 => ?_⟩
    · have g1 : (m : Int) = 1 := U.eq_t.mp g1
      obtain rfl : m = 1 := by omega
      refine ⟨⟨by omega, by omega⟩, ⟨by omega, by omega⟩, hp 0 (by omega), ?_⟩
      by_cases hh : hasR (f 0) (e 0).1 = true
      · obtain ⟨h1, h2⟩ := hasD_t (k := k) (s := s) (h := h') (m := 1) (e := e) ⟨z, rfl, hh, fun h => by omega⟩
        exact pv_eq (by rw [h2, if_pos rfl]; rfl) (by rw [h1]; exact hh)
      · have hf : hasR (f 0) (e 0).1 = false := by simpa using hh
        obtain ⟨h1, h2⟩ := hasD_f (k := k) (s := s) (h := h') (m := 1) (e := e) (n := 1) (f := f) (fun h => hh h.2.2.1)
        have hp0 : posR (f 0) (e 0).1 = 0 := by unfold posR pos; rw [if_neg hh]
        exact pv_eq (by rw [h2]; exact hp0) (by rw [h1]; exact hf)
    · have g1 : (m : Int) ≠ 1 := U.eq_f.mp g1
      obtain rfl : m = 2 := by omega
      refine ⟨by omega, ⟨by omega, by omega⟩, hp 0 (by omega), ⟨by omega, by omega⟩, hp 1 (by omega), fun q => ?_, fun q => ⟨fun q2 => ?_, fun q2 => ⟨⟨hp, .inr rfl⟩, ?_⟩⟩⟩
      · have q : hasR (f 0) (e 0).1 = false := U.not_t.mp q
        exact no fun h => by rw [h.2.2.1] at q; cases q
      · have q2 : hasR (f 1) (e 1).1 = false := U.not_t.mp q2
        exact no fun h => by rw [h.2.2.2 rfl] at q2; cases q2
      · have q : hasR (f 0) (e 0).1 = true := U.not_f.mp q
        have q2 : hasR (f 1) (e 1).1 = true := U.not_f.mp q2
        obtain ⟨h1, h2⟩ := hasD_t (k := k) (s := s) (h := h') (m := 2) (e := e) ⟨z, rfl, q, fun _ => q2⟩
        have b0 : 0 ≤ posR (f 0) (e 0).1 ∧ posR (f 0) (e 0).1 ≤ 2000000 := pos_bnd q
        have b1 : 0 ≤ posR (f 1) (e 1).1 ∧ posR (f 1) (e 1).1 ≤ 2000000 := pos_bnd q2
        have c1 := (rr_size (d1.2 1 (by omega))).2
        have hb := mul_add_bnd (x := posR (f 0) (e 0).1) (y := szR (f 1)) (z := posR (f 1) (e 1).1) b0.1 b0.2 c1.1 c1.2 (by omega) b1.1 (by omega)
        refine pv_eq ?_ h1.symm
        rw [h2, if_neg (by omega)]
        show U.add .i64 (U.mul .i64 (posR (f 0) (e 0).1) (colD 2 f)) (posR (f 1) (e 1).1) = _
        have ec : colD 2 f = szR (f 1) := rfl
        rw [ec, U.mul64 (by unfold I64; omega), U.add64 (by unfold I64; omega)]
  · exact h.elim
set_option maxRecDepth 100000 in
theorem t_DHas (n : Nat) (f : Nat → R3) (k s h : Int) (m : Nat) (e : Nat → R1) : conB Go.Proofs.Try.prog (conOf ((71, c_DPosition) :: d7)) noLoops 10 88 [.agg [.row [.int .i64, .int .i64, .int .i64] n f, .lit (.int .i64 k), .lit (.int .i64 s), .lit (.int .i64 h)], .row [.int .i64] m e] =
    T.ask (Row64 n f) (T.ret (SV.lit (Value.bool (lk hasD n f k s h m e)))) := by kernel_rfl
theorem d7p_ok : ∀ p ∈ (71, c_DPosition) :: d7, ConOK P p.1 p.2 := by
  intro p hp
  simp only [List.mem_cons] at hp
  rcases hp with rfl | hp
  · exact DPosition_ok
  · exact d7_ok p (by simpa [d7] using hp)
theorem DHas_ok : ConOK P 88 c_DHas := con_of (allOK mixed d7p_ok) 10 88 fun args r h => by
  unfold c_DHas at h
  split at h
  · rename_i n f k s h' m e
    have hp : Row64 n f := (T.is_ask h).1
    have h := (T.is_ask h).2
    obtain rfl := T.is_ret h
    rw [t_DHas]
    exact ⟨hp, rfl⟩
  · exact h.elim

set_option maxRecDepth 100000 in
theorem t_qmapped (k s h : Int) : conB Go.Proofs.Try.prog (conOf []) noLoops 10 167 [.agg [.lit (.int .i64 k), .lit (.int .i64 s), .lit (.int .i64 h)]] =
    T.br (U.eq k (0 : Int)) (T.br (U.eq s (0 : Int)) (T.br (U.ge h (0 : Int)) (T.ret (SV.lit (Value.bool (U.lt h (8 : Int))))) (T.ret (SV.lit (Value.bool false)))) (T.ret (SV.lit
      (Value.bool false)))) (T.br (U.eq k (1 : Int)) (T.br (U.eq s (0 : Int)) (T.ret (SV.lit (Value.bool (U.eq h (0 : Int))))) (T.ret (SV.lit (Value.bool false)))) (T.br (U.eq k (2 :
      Int)) (T.br (U.eq s (0 : Int)) (T.ret (SV.lit (Value.bool (U.eq h (0 : Int))))) (T.ret (SV.lit (Value.bool false)))) (T.br (U.eq k (4 : Int)) (T.br (U.eq s (0 : Int)) (T.ret (SV.lit
      (Value.bool (U.eq h (0 : Int))))) (T.ret (SV.lit (Value.bool false)))) (T.br (U.eq k (3 : Int)) (T.br (U.ge s (1 : Int)) (T.br (U.le s (1000 : Int)) (T.ret (SV.lit (Value.bool (U.eq
      h (0 : Int))))) (T.ret (SV.lit (Value.bool false)))) (T.ret (SV.lit (Value.bool false)))) (T.ret (SV.lit (Value.bool false))))))) := by kernel_rfl
theorem qmapped_ok : ConOK P 167 c_fits := con_of (allOK mixed none_ok) 10 167 fun args r h => by
  unfold c_fits at h
  split at h
  · rename_i k s h'
    obtain rfl := T.is_ret h
    rw [t_qmapped]
    unfold fitB
    have key : ∀ {p : Prop} [Decidable p] {b : Bool}, (b = true ↔ p) → SV.lit (.bool b) = SV.lit (.bool (decide p)) := fun h => by
      rw [SV.lit.injEq, Value.bool.injEq, Bool.eq_iff_iff, decide_eq_true_iff]; exact h
    simp only [T.All, lk_eq]
    refine ⟨fun h0 => ?_, fun h0 => ⟨fun h1 => ?_, fun h1 => ⟨fun h2 => ?_, fun h2 => ⟨fun h3 => ?_, fun h3 => ⟨fun h4 => ?_, fun h4 => ?_⟩⟩⟩⟩⟩
    all_goals (try refine ⟨fun h5 => ?_, fun h5 => ?_⟩)
    all_goals (try refine ⟨fun h6 => ?_, fun h6 => ?_⟩)
    all_goals
      refine key ?_
      simp only [U.eq_t, U.eq_f, U.ge_t, U.ge_f, U.lt_t, U.le_t, U.le_f, Bool.false_eq_true, false_iff] at *
      omega
  · exact h.elim
set_option maxRecDepth 100000 in
theorem t_qup (a b c : Int) : conB Go.Proofs.Try.prog (conOf []) noLoops 10 164 [.agg [.lit (.int .i64 a), .lit (.int .i64 b), .lit (.int .i64 c)]] =
    T.br (U.lt c (0 : Int)) (T.ret (SV.agg [SV.lit (Value.int IntKind.i64 a), SV.lit (Value.int IntKind.i64 b), SV.lit (Value.int IntKind.i64 (U.sub IntKind.i64 (0 : Int) c))])) (T.ret
      (SV.agg [SV.lit (Value.int IntKind.i64 a), SV.lit (Value.int IntKind.i64 b), SV.lit (Value.int IntKind.i64 c)])) := by kernel_rfl
noncomputable abbrev lrC : List (Nat × Loops) := [(86, [(4, .un 3)])] --%K
noncomputable abbrev lrS : List (Nat × Loops) := [(87, [(5, .un 3)])] --%K
noncomputable abbrev lrO : List (Nat × Loops) := [(83, [(5, .un 3)])] --%K
noncomputable abbrev lrH : List (Nat × Loops) := [(89, [(4, .un 3)])] --%K
noncomputable abbrev lrP : List (Nat × Loops) := [(85, [(5, .un 3)])] --%K
noncomputable abbrev d8 : List (Nat × Con) := (167, c_fits) :: (164, c_rup) :: d7 --%K
noncomputable abbrev d9 : List (Nat × Con) := (86, c_DCheck) :: d8 --%K
noncomputable abbrev d10 : List (Nat × Con) := (87, c_DSize) :: (89, c_DHas) :: d9 --%K
set_option maxRecDepth 100000 in
theorem t_qCheck (n : Nat) (f : Nat → R3) (k s h : Int) : conB Go.Proofs.Try.prog (conOf d8) (loopsOf lrC) 10 86 [.agg [.row [.int .i64, .int .i64, .int .i64] n f, .lit (.int .i64 k), .lit (.int .i64 s), .lit (.int .i64 h)]] =
    T.br (U.lt (Int.ofNat n) (1 : Int)) (T.ret (SV.lit (Value.int IntKind.i64 (5 : Int)))) (T.br (U.gt (Int.ofNat n) (2 : Int)) (T.ret (SV.lit (Value.int IntKind.i64 (5 : Int)))) (T.br
      (U.lt (0 : Int) (Int.ofNat n)) (T.ask ((0 : Int) ≤ (0 : Int) ∧ (0 : Int) < ↑n) (T.ask (I64 (f (U.toNat (Int.ofNat (0 : Nat)))).1 ∧ I64 (f (U.toNat (Int.ofNat (0 : Nat)))).snd.1 ∧
      I64 (f (U.toNat (Int.ofNat (0 : Nat)))).snd.snd.1) (T.br (U.ne (lk chk (f (U.toNat (Int.ofNat (0 : Nat)))).1 (f (U.toNat (Int.ofNat (0 : Nat)))).snd.1 (f (U.toNat (Int.ofNat (0 :
      Nat)))).snd.snd.1) (0 : Int)) (T.ret (SV.lit (Value.int IntKind.i64 (lk chk (f (U.toNat (Int.ofNat (0 : Nat)))).1 (f (U.toNat (Int.ofNat (0 : Nat)))).snd.1 (f (U.toNat (Int.ofNat (0
      : Nat)))).snd.snd.1)))) (T.ask ((0 : Int) ≤ (0 : Int) ∧ (0 : Int) < ↑n) (T.br (U.lt (f (U.toNat (Int.ofNat (0 : Nat)))).snd.snd.1 (0 : Int)) (T.ret (SV.lit (Value.int IntKind.i64 (2
      : Int)))) (T.br (U.lt (1 : Int) (Int.ofNat n)) (T.ask ((0 : Int) ≤ (1 : Int) ∧ (1 : Int) < ↑n) (T.ask (I64 (f (U.toNat (Int.ofNat (1 : Nat)))).1 ∧ I64 (f (U.toNat (Int.ofNat (1 :
      Nat)))).snd.1 ∧ I64 (f (U.toNat (Int.ofNat (1 : Nat)))).snd.snd.1) (T.br (U.ne (lk chk (f (U.toNat (Int.ofNat (1 : Nat)))).1 (f (U.toNat (Int.ofNat (1 : Nat)))).snd.1 (f (U.toNat
      (Int.ofNat (1 : Nat)))).snd.snd.1) (0 : Int)) (T.ret (SV.lit (Value.int IntKind.i64 (lk chk (f (U.toNat (Int.ofNat (1 : Nat)))).1 (f (U.toNat (Int.ofNat (1 : Nat)))).snd.1 (f
      (U.toNat (Int.ofNat (1 : Nat)))).snd.snd.1)))) (T.ask ((0 : Int) ≤ (1 : Int) ∧ (1 : Int) < ↑n) (T.br (U.lt (f (U.toNat (Int.ofNat (1 : Nat)))).snd.snd.1 (0 : Int)) (T.ret (SV.lit
      (Value.int IntKind.i64 (2 : Int)))) (T.br (U.lt (2 : Int) (Int.ofNat n)) (T.ask ((0 : Int) ≤ (2 : Int) ∧ (2 : Int) < ↑n) (T.ask (I64 (f (U.toNat (Int.ofNat (2 : Nat)))).1 ∧ I64 (f
      (U.toNat (Int.ofNat (2 : Nat)))).snd.1 ∧ I64 (f (U.toNat (Int.ofNat (2 : Nat)))).snd.snd.1) (T.br (U.ne (lk chk (f (U.toNat (Int.ofNat (2 : Nat)))).1 (f (U.toNat (Int.ofNat (2 :
      Nat)))).snd.1 (f (U.toNat (Int.ofNat (2 : Nat)))).snd.snd.1) (0 : Int)) (T.ret (SV.lit (Value.int IntKind.i64 (lk chk (f (U.toNat (Int.ofNat (2 : Nat)))).1 (f (U.toNat (Int.ofNat (2
      : Nat)))).snd.1 (f (U.toNat (Int.ofNat (2 : Nat)))).snd.snd.1)))) (T.ask ((0 : Int) ≤ (2 : Int) ∧ (2 : Int) < ↑n) (T.br (U.lt (f (U.toNat (Int.ofNat (2 : Nat)))).snd.snd.1 (0 :
      Int)) (T.ret (SV.lit (Value.int IntKind.i64 (2 : Int)))) (T.stuck (nat_lit 105))))))) (T.br (U.not (lk fitB k s h)) (T.ret (SV.lit (Value.int IntKind.i64 (2 : Int)))) (T.ret (SV.lit
      (Value.int IntKind.i64 (0 : Int))))))))))) (T.br (U.not (lk fitB k s h)) (T.ret (SV.lit (Value.int IntKind.i64 (2 : Int)))) (T.ret (SV.lit (Value.int IntKind.i64 (0 : Int)))))))))))
      (T.br (U.not (lk fitB k s h)) (T.ret (SV.lit (Value.int IntKind.i64 (2 : Int)))) (T.ret (SV.lit (Value.int IntKind.i64 (0 : Int))))))) := by kernel_rfl
set_option maxRecDepth 100000 in
theorem t_qSize (n : Nat) (f : Nat → R3) (k s h : Int) : conB Go.Proofs.Try.prog (conOf d9) (loopsOf lrS) 10 87 [.agg [.row [.int .i64, .int .i64, .int .i64] n f, .lit (.int .i64 k), .lit (.int .i64 s), .lit (.int .i64 h)]] =
    T.ask (Row64 n f) (T.br (U.ne (lk chD n f k s h) (0 : Int)) (T.ret (SV.lit (Value.int IntKind.i64 (0 : Int)))) (T.br (U.lt (0 : Int) (Int.ofNat n)) (T.ask ((0 : Int) ≤ (0 : Int) ∧
      (0 : Int) < ↑n) (T.ask (I64 (f (U.toNat (Int.ofNat (0 : Nat)))).1 ∧ I64 (f (U.toNat (Int.ofNat (0 : Nat)))).snd.1 ∧ I64 (f (U.toNat (Int.ofNat (0 : Nat)))).snd.snd.1) (T.br (U.lt (1
      : Int) (Int.ofNat n)) (T.ask ((0 : Int) ≤ (1 : Int) ∧ (1 : Int) < ↑n) (T.ask (I64 (f (U.toNat (Int.ofNat (1 : Nat)))).1 ∧ I64 (f (U.toNat (Int.ofNat (1 : Nat)))).snd.1 ∧ I64 (f
      (U.toNat (Int.ofNat (1 : Nat)))).snd.snd.1) (T.br (U.lt (2 : Int) (Int.ofNat n)) (T.ask ((0 : Int) ≤ (2 : Int) ∧ (2 : Int) < ↑n) (T.ask (I64 (f (U.toNat (Int.ofNat (2 : Nat)))).1 ∧
      I64 (f (U.toNat (Int.ofNat (2 : Nat)))).snd.1 ∧ I64 (f (U.toNat (Int.ofNat (2 : Nat)))).snd.snd.1) (T.stuck (nat_lit 105)))) (T.ret (SV.lit (Value.int IntKind.i64 (U.mul IntKind.i64
      (U.mul IntKind.i64 (1 : Int) (lk size (f (U.toNat (Int.ofNat (0 : Nat)))).1 (f (U.toNat (Int.ofNat (0 : Nat)))).snd.1 (f (U.toNat (Int.ofNat (0 : Nat)))).snd.snd.1)) (lk size (f
      (U.toNat (Int.ofNat (1 : Nat)))).1 (f (U.toNat (Int.ofNat (1 : Nat)))).snd.1 (f (U.toNat (Int.ofNat (1 : Nat)))).snd.snd.1)))))))) (T.ret (SV.lit (Value.int IntKind.i64 (U.mul
      IntKind.i64 (1 : Int) (lk size (f (U.toNat (Int.ofNat (0 : Nat)))).1 (f (U.toNat (Int.ofNat (0 : Nat)))).snd.1 (f (U.toNat (Int.ofNat (0 : Nat)))).snd.snd.1)))))))) (T.ret (SV.lit
      (Value.int IntKind.i64 (1 : Int)))))) := by kernel_rfl
set_option maxRecDepth 100000 in
theorem t_qOf (n : Nat) (f : Nat → R3) : conB Go.Proofs.Try.prog (conOf d8) (loopsOf lrO) 10 83 [.row [.int .i64, .int .i64, .int .i64] n f] =
    T.br (U.lt (Int.ofNat n) (1 : Int)) (T.ret (SV.tup [SV.agg [SV.lit (Value.slice none (nat_lit 0) (nat_lit 0)), SV.lit (Value.int IntKind.i64 (0 : Int)), SV.lit (Value.int
      IntKind.i64 (0 : Int)), SV.lit (Value.int IntKind.i64 (0 : Int))], SV.lit (Value.int IntKind.i64 (5 : Int))])) (T.br (U.gt (Int.ofNat n) (2 : Int)) (T.ret (SV.tup [SV.agg [SV.lit
      (Value.slice none (nat_lit 0) (nat_lit 0)), SV.lit (Value.int IntKind.i64 (0 : Int)), SV.lit (Value.int IntKind.i64 (0 : Int)), SV.lit (Value.int IntKind.i64 (0 : Int))], SV.lit
      (Value.int IntKind.i64 (5 : Int))])) (T.br (U.lt (0 : Int) (Int.ofNat n)) (T.ask ((0 : Int) ≤ (0 : Int) ∧ (0 : Int) < ↑n) (T.ask (I64 (f (U.toNat (Int.ofNat (0 : Nat)))).1 ∧ I64 (f
      (U.toNat (Int.ofNat (0 : Nat)))).snd.1 ∧ I64 (f (U.toNat (Int.ofNat (0 : Nat)))).snd.snd.1) (T.br (U.ne (lk chk (f (U.toNat (Int.ofNat (0 : Nat)))).1 (f (U.toNat (Int.ofNat (0 :
      Nat)))).snd.1 (f (U.toNat (Int.ofNat (0 : Nat)))).snd.snd.1) (0 : Int)) (T.ret (SV.tup [SV.agg [SV.lit (Value.slice none (nat_lit 0) (nat_lit 0)), SV.lit (Value.int IntKind.i64 (0 :
      Int)), SV.lit (Value.int IntKind.i64 (0 : Int)), SV.lit (Value.int IntKind.i64 (0 : Int))], SV.lit (Value.int IntKind.i64 (lk chk (f (U.toNat (Int.ofNat (0 : Nat)))).1 (f (U.toNat
      (Int.ofNat (0 : Nat)))).snd.1 (f (U.toNat (Int.ofNat (0 : Nat)))).snd.snd.1))])) (T.ask ((0 : Int) ≤ (0 : Int) ∧ (0 : Int) < ↑n) (T.ask (Neg64 (f (U.toNat (Int.ofNat (0 :
      Nat)))).snd.snd.1) (T.ask ((1 : Nat) * nat_lit 24 ≤ nat_lit 140737488351232) (T.br (U.lt (1 : Int) (Int.ofNat n)) (T.ask ((0 : Int) ≤ (1 : Int) ∧ (1 : Int) < ↑n) (T.ask (I64 (f
      (U.toNat (Int.ofNat (1 : Nat)))).1 ∧ I64 (f (U.toNat (Int.ofNat (1 : Nat)))).snd.1 ∧ I64 (f (U.toNat (Int.ofNat (1 : Nat)))).snd.snd.1) (T.br (U.ne (lk chk (f (U.toNat (Int.ofNat (1
      : Nat)))).1 (f (U.toNat (Int.ofNat (1 : Nat)))).snd.1 (f (U.toNat (Int.ofNat (1 : Nat)))).snd.snd.1) (0 : Int)) (T.ret (SV.tup [SV.agg [SV.lit (Value.slice none (nat_lit 0) (nat_lit
      0)), SV.lit (Value.int IntKind.i64 (0 : Int)), SV.lit (Value.int IntKind.i64 (0 : Int)), SV.lit (Value.int IntKind.i64 (0 : Int))], SV.lit (Value.int IntKind.i64 (lk chk (f (U.toNat
      (Int.ofNat (1 : Nat)))).1 (f (U.toNat (Int.ofNat (1 : Nat)))).snd.1 (f (U.toNat (Int.ofNat (1 : Nat)))).snd.snd.1))])) (T.ask ((0 : Int) ≤ (1 : Int) ∧ (1 : Int) < ↑n) (T.ask (Neg64
      (f (U.toNat (Int.ofNat (1 : Nat)))).snd.snd.1) (T.ask (((1 : Nat) + (1 : Nat)) * nat_lit 24 ≤ nat_lit 140737488351232) (T.br (U.lt (2 : Int) (Int.ofNat n)) (T.ask ((0 : Int) ≤ (2 :
      Int) ∧ (2 : Int) < ↑n) (T.ask (I64 (f (U.toNat (Int.ofNat (2 : Nat)))).1 ∧ I64 (f (U.toNat (Int.ofNat (2 : Nat)))).snd.1 ∧ I64 (f (U.toNat (Int.ofNat (2 : Nat)))).snd.snd.1) (T.br
      (U.ne (lk chk (f (U.toNat (Int.ofNat (2 : Nat)))).1 (f (U.toNat (Int.ofNat (2 : Nat)))).snd.1 (f (U.toNat (Int.ofNat (2 : Nat)))).snd.snd.1) (0 : Int)) (T.ret (SV.tup [SV.agg
      [SV.lit (Value.slice none (nat_lit 0) (nat_lit 0)), SV.lit (Value.int IntKind.i64 (0 : Int)), SV.lit (Value.int IntKind.i64 (0 : Int)), SV.lit (Value.int IntKind.i64 (0 : Int))],
      SV.lit (Value.int IntKind.i64 (lk chk (f (U.toNat (Int.ofNat (2 : Nat)))).1 (f (U.toNat (Int.ofNat (2 : Nat)))).snd.1 (f (U.toNat (Int.ofNat (2 : Nat)))).snd.snd.1))])) (T.ask ((0 :
      Int) ≤ (2 : Int) ∧ (2 : Int) < ↑n) (T.ask (Neg64 (f (U.toNat (Int.ofNat (2 : Nat)))).snd.snd.1) (T.ask (((1 : Nat) + (1 : Nat) + (1 : Nat)) * nat_lit 24 ≤ nat_lit 140737488351232)
      (T.stuck (nat_lit 105)))))))) (T.ret (SV.tup [SV.agg [SV.row [Sh.int IntKind.i64, Sh.int IntKind.i64, Sh.int IntKind.i64] (nat_lit 2) (U.cat (nat_lit 1) (fun x => ((f (U.toNat
      (Int.ofNat (0 : Nat)))).1, (f (U.toNat (Int.ofNat (0 : Nat)))).snd.1, lk absI (f (U.toNat (Int.ofNat (0 : Nat)))).snd.snd.1, PUnit.unit)) fun x => ((f (U.toNat (Int.ofNat (1 :
      Nat)))).1, (f (U.toNat (Int.ofNat (1 : Nat)))).snd.1, lk absI (f (U.toNat (Int.ofNat (1 : Nat)))).snd.snd.1, PUnit.unit)), SV.lit (Value.int IntKind.i64 (0 : Int)), SV.lit
      (Value.int IntKind.i64 (0 : Int)), SV.lit (Value.int IntKind.i64 (0 : Int))], SV.lit (Value.int IntKind.i64 (0 : Int))]))))))))) (T.ret (SV.tup [SV.agg [SV.row [Sh.int IntKind.i64,
      Sh.int IntKind.i64, Sh.int IntKind.i64] (nat_lit 1) fun x => ((f (U.toNat (Int.ofNat (0 : Nat)))).1, (f (U.toNat (Int.ofNat (0 : Nat)))).snd.1, lk absI (f (U.toNat (Int.ofNat (0 :
      Nat)))).snd.snd.1, PUnit.unit), SV.lit (Value.int IntKind.i64 (0 : Int)), SV.lit (Value.int IntKind.i64 (0 : Int)), SV.lit (Value.int IntKind.i64 (0 : Int))], SV.lit (Value.int
      IntKind.i64 (0 : Int))]))))))))) (T.ret (SV.tup [SV.agg [SV.lit (Value.slice none (nat_lit 0) (nat_lit 0)), SV.lit (Value.int IntKind.i64 (0 : Int)), SV.lit (Value.int IntKind.i64
      (0 : Int)), SV.lit (Value.int IntKind.i64 (0 : Int))], SV.lit (Value.int IntKind.i64 (0 : Int))])))) := by kernel_rfl
set_option maxRecDepth 100000 in
theorem t_qHas (n : Nat) (f : Nat → R3) (k s h : Int) (m : Nat) (e : Nat → R1) : conB Go.Proofs.Try.prog (conOf d9) (loopsOf lrH) 10 89 [.agg [.row [.int .i64, .int .i64, .int .i64] n f, .lit (.int .i64 k), .lit (.int .i64 s), .lit (.int .i64 h)], .row [.int .i64] m e] =
    T.ask (Row64 n f) (T.br (U.ne (lk chD n f k s h) (0 : Int)) (T.ret (SV.lit (Value.bool false))) (T.br (U.ne (Int.ofNat m) (Int.ofNat n)) (T.ret (SV.lit (Value.bool false))) (T.br
      (U.lt (0 : Int) (Int.ofNat m)) (T.ask ((0 : Int) ≤ (0 : Int) ∧ (0 : Int) < ↑n) (T.ask ((0 : Int) ≤ (0 : Int) ∧ (0 : Int) < ↑m) (T.ask (I64 (f (U.toNat (Int.ofNat (0 : Nat)))).1 ∧
      I64 (f (U.toNat (Int.ofNat (0 : Nat)))).snd.1 ∧ I64 (f (U.toNat (Int.ofNat (0 : Nat)))).snd.snd.1) (T.br (U.not (lk has (f (U.toNat (Int.ofNat (0 : Nat)))).1 (f (U.toNat (Int.ofNat
      (0 : Nat)))).snd.1 (f (U.toNat (Int.ofNat (0 : Nat)))).snd.snd.1 (e (U.toNat (Int.ofNat (0 : Nat)))).1)) (T.ret (SV.lit (Value.bool false))) (T.br (U.lt (1 : Int) (Int.ofNat m))
      (T.ask ((0 : Int) ≤ (1 : Int) ∧ (1 : Int) < ↑n) (T.ask ((0 : Int) ≤ (1 : Int) ∧ (1 : Int) < ↑m) (T.ask (I64 (f (U.toNat (Int.ofNat (1 : Nat)))).1 ∧ I64 (f (U.toNat (Int.ofNat (1 :
      Nat)))).snd.1 ∧ I64 (f (U.toNat (Int.ofNat (1 : Nat)))).snd.snd.1) (T.br (U.not (lk has (f (U.toNat (Int.ofNat (1 : Nat)))).1 (f (U.toNat (Int.ofNat (1 : Nat)))).snd.1 (f (U.toNat
      (Int.ofNat (1 : Nat)))).snd.snd.1 (e (U.toNat (Int.ofNat (1 : Nat)))).1)) (T.ret (SV.lit (Value.bool false))) (T.br (U.lt (2 : Int) (Int.ofNat m)) (T.ask ((0 : Int) ≤ (2 : Int) ∧ (2
      : Int) < ↑n) (T.ask ((0 : Int) ≤ (2 : Int) ∧ (2 : Int) < ↑m) (T.ask (I64 (f (U.toNat (Int.ofNat (2 : Nat)))).1 ∧ I64 (f (U.toNat (Int.ofNat (2 : Nat)))).snd.1 ∧ I64 (f (U.toNat
      (Int.ofNat (2 : Nat)))).snd.snd.1) (T.br (U.not (lk has (f (U.toNat (Int.ofNat (2 : Nat)))).1 (f (U.toNat (Int.ofNat (2 : Nat)))).snd.1 (f (U.toNat (Int.ofNat (2 : Nat)))).snd.snd.1
      (e (U.toNat (Int.ofNat (2 : Nat)))).1)) (T.ret (SV.lit (Value.bool false))) (T.stuck (nat_lit 105)))))) (T.ret (SV.lit (Value.bool true)))))))) (T.ret (SV.lit (Value.bool
      true)))))))) (T.ret (SV.lit (Value.bool true)))))) := by kernel_rfl
set_option maxRecDepth 100000 in
theorem t_qPos (n : Nat) (f : Nat → R3) (k s h : Int) (m : Nat) (e : Nat → R1) : conB Go.Proofs.Try.prog (conOf d10) (loopsOf lrP) 10 85 [.agg [.row [.int .i64, .int .i64, .int .i64] n f, .lit (.int .i64 k), .lit (.int .i64 s), .lit (.int .i64 h)], .row [.int .i64] m e] =
    T.ask (Row64 n f) (T.br (U.not (lk hasD n f k s h m e)) (T.ret (SV.tup [SV.lit (Value.int IntKind.i64 (0 : Int)), SV.lit (Value.bool false)])) (T.br (U.lt (0 : Int) (Int.ofNat m))
      (T.ask ((0 : Int) ≤ (0 : Int) ∧ (0 : Int) < ↑n) (T.ask ((0 : Int) ≤ (0 : Int) ∧ (0 : Int) < ↑m) (T.ask (I64 (f (U.toNat (Int.ofNat (0 : Nat)))).1 ∧ I64 (f (U.toNat (Int.ofNat (0 :
      Nat)))).snd.1 ∧ I64 (f (U.toNat (Int.ofNat (0 : Nat)))).snd.snd.1) (T.ask ((0 : Int) ≤ (0 : Int) ∧ (0 : Int) < ↑n) (T.ask (I64 (f (U.toNat (Int.ofNat (0 : Nat)))).1 ∧ I64 (f
      (U.toNat (Int.ofNat (0 : Nat)))).snd.1 ∧ I64 (f (U.toNat (Int.ofNat (0 : Nat)))).snd.snd.1) (T.br (U.lt (1 : Int) (Int.ofNat m)) (T.ask ((0 : Int) ≤ (1 : Int) ∧ (1 : Int) < ↑n)
      (T.ask ((0 : Int) ≤ (1 : Int) ∧ (1 : Int) < ↑m) (T.ask (I64 (f (U.toNat (Int.ofNat (1 : Nat)))).1 ∧ I64 (f (U.toNat (Int.ofNat (1 : Nat)))).snd.1 ∧ I64 (f (U.toNat (Int.ofNat (1 :
      Nat)))).snd.snd.1) (T.ask ((0 : Int) ≤ (1 : Int) ∧ (1 : Int) < ↑n) (T.ask (I64 (f (U.toNat (Int.ofNat (1 : Nat)))).1 ∧ I64 (f (U.toNat (Int.ofNat (1 : Nat)))).snd.1 ∧ I64 (f
      (U.toNat (Int.ofNat (1 : Nat)))).snd.snd.1) (T.br (U.lt (2 : Int) (Int.ofNat m)) (T.ask ((0 : Int) ≤ (2 : Int) ∧ (2 : Int) < ↑n) (T.ask ((0 : Int) ≤ (2 : Int) ∧ (2 : Int) < ↑m)
      (T.ask (I64 (f (U.toNat (Int.ofNat (2 : Nat)))).1 ∧ I64 (f (U.toNat (Int.ofNat (2 : Nat)))).snd.1 ∧ I64 (f (U.toNat (Int.ofNat (2 : Nat)))).snd.snd.1) (T.ask ((0 : Int) ≤ (2 : Int)
      ∧ (2 : Int) < ↑n) (T.ask (I64 (f (U.toNat (Int.ofNat (2 : Nat)))).1 ∧ I64 (f (U.toNat (Int.ofNat (2 : Nat)))).snd.1 ∧ I64 (f (U.toNat (Int.ofNat (2 : Nat)))).snd.snd.1) (T.stuck
      (nat_lit 105))))))) (T.ret (SV.tup [SV.lit (Value.int IntKind.i64 (U.add IntKind.i64 (U.mul IntKind.i64 (U.add IntKind.i64 (U.mul IntKind.i64 (0 : Int) (lk size (f (U.toNat
      (Int.ofNat (0 : Nat)))).1 (f (U.toNat (Int.ofNat (0 : Nat)))).snd.1 (f (U.toNat (Int.ofNat (0 : Nat)))).snd.snd.1)) (lk pos (f (U.toNat (Int.ofNat (0 : Nat)))).1 (f (U.toNat
      (Int.ofNat (0 : Nat)))).snd.1 (f (U.toNat (Int.ofNat (0 : Nat)))).snd.snd.1 (e (U.toNat (Int.ofNat (0 : Nat)))).1)) (lk size (f (U.toNat (Int.ofNat (1 : Nat)))).1 (f (U.toNat
      (Int.ofNat (1 : Nat)))).snd.1 (f (U.toNat (Int.ofNat (1 : Nat)))).snd.snd.1)) (lk pos (f (U.toNat (Int.ofNat (1 : Nat)))).1 (f (U.toNat (Int.ofNat (1 : Nat)))).snd.1 (f (U.toNat
      (Int.ofNat (1 : Nat)))).snd.snd.1 (e (U.toNat (Int.ofNat (1 : Nat)))).1))), SV.lit (Value.bool true)])))))))) (T.ret (SV.tup [SV.lit (Value.int IntKind.i64 (U.add IntKind.i64 (U.mul
      IntKind.i64 (0 : Int) (lk size (f (U.toNat (Int.ofNat (0 : Nat)))).1 (f (U.toNat (Int.ofNat (0 : Nat)))).snd.1 (f (U.toNat (Int.ofNat (0 : Nat)))).snd.snd.1)) (lk pos (f (U.toNat
      (Int.ofNat (0 : Nat)))).1 (f (U.toNat (Int.ofNat (0 : Nat)))).snd.1 (f (U.toNat (Int.ofNat (0 : Nat)))).snd.snd.1 (e (U.toNat (Int.ofNat (0 : Nat)))).1))), SV.lit (Value.bool
      true)])))))))) (T.ret (SV.tup [SV.lit (Value.int IntKind.i64 (0 : Int)), SV.lit (Value.bool true)])))) := by kernel_rfl
set_option maxRecDepth 100000 in
theorem t_qNth (n : Nat) (f : Nat → R3) (k s h q : Int) : conB Go.Proofs.Try.prog (conOf d10) noLoops 10 84 [.agg [.row [.int .i64, .int .i64, .int .i64] n f, .lit (.int .i64 k), .lit (.int .i64 s), .lit (.int .i64 h)], .lit (.int .i64 q)] =
    T.ask (Row64 n f) (T.br (U.ne (lk chD n f k s h) (0 : Int)) (T.ret (SV.tup [SV.lit (Value.slice none (nat_lit 0) (nat_lit 0)), SV.lit (Value.int IntKind.i64 (lk chD n f k s h))]))
      (T.br (U.lt q (0 : Int)) (T.ret (SV.tup [SV.lit (Value.slice none (nat_lit 0) (nat_lit 0)), SV.lit (Value.int IntKind.i64 (4 : Int))])) (T.ask (Row64 n f) (T.br (U.ge q (lk szD n f
      k s h)) (T.ret (SV.tup [SV.lit (Value.slice none (nat_lit 0) (nat_lit 0)), SV.lit (Value.int IntKind.i64 (4 : Int))])) (T.br (U.eq (Int.ofNat n) (1 : Int)) (T.ask ((0 : Int) ≤ (0 :
      Int) ∧ (0 : Int) < ↑n) (T.ask (I64 (f (U.toNat (0 : Int))).1 ∧ I64 (f (U.toNat (0 : Int))).snd.1 ∧ I64 (f (U.toNat (0 : Int))).snd.snd.1) (T.ret (SV.tup [SV.row [Sh.int IntKind.i64]
      (nat_lit 1) fun x => (lk nth (f (U.toNat (0 : Int))).1 (f (U.toNat (0 : Int))).snd.1 (f (U.toNat (0 : Int))).snd.snd.1 q, PUnit.unit), SV.lit (Value.int IntKind.i64 (0 : Int))]))))
      (T.ask ((0 : Int) ≤ (1 : Int) ∧ (1 : Int) < ↑n) (T.ask (I64 (f (U.toNat (1 : Int))).1 ∧ I64 (f (U.toNat (1 : Int))).snd.1 ∧ I64 (f (U.toNat (1 : Int))).snd.snd.1) (T.ask ((0 : Int)
      ≤ (0 : Int) ∧ (0 : Int) < ↑n) (T.ask (lk size (f (U.toNat (1 : Int))).1 (f (U.toNat (1 : Int))).snd.1 (f (U.toNat (1 : Int))).snd.snd.1 ≠ (0 : Int)) (T.ask (I64 (f (U.toNat (0 :
      Int))).1 ∧ I64 (f (U.toNat (0 : Int))).snd.1 ∧ I64 (f (U.toNat (0 : Int))).snd.snd.1) (T.ask ((0 : Int) ≤ (1 : Int) ∧ (1 : Int) < ↑n) (T.ask (lk size (f (U.toNat (1 : Int))).1 (f
      (U.toNat (1 : Int))).snd.1 (f (U.toNat (1 : Int))).snd.snd.1 ≠ (0 : Int)) (T.ask (I64 (f (U.toNat (1 : Int))).1 ∧ I64 (f (U.toNat (1 : Int))).snd.1 ∧ I64 (f (U.toNat (1 :
      Int))).snd.snd.1) (T.ret (SV.tup [SV.row [Sh.int IntKind.i64] (nat_lit 2) (ofList [(lk nth (f (U.toNat (1 : Int))).1 (f (U.toNat (1 : Int))).snd.1 (f (U.toNat (1 : Int))).snd.snd.1
      (U.rem q (lk size (f (U.toNat (1 : Int))).1 (f (U.toNat (1 : Int))).snd.1 (f (U.toNat (1 : Int))).snd.snd.1)), ()), (lk nth (f (U.toNat (0 : Int))).1 (f (U.toNat (0 : Int))).snd.1
      (f (U.toNat (0 : Int))).snd.snd.1 (U.quo IntKind.i64 q (lk size (f (U.toNat (1 : Int))).1 (f (U.toNat (1 : Int))).snd.1 (f (U.toNat (1 : Int))).snd.snd.1)), ())].reverse), SV.lit
      (Value.int IntKind.i64 (0 : Int))]))))))))))))))) := by kernel_rfl
theorem lrC_ok : ∀ p ∈ lrC, LoopsOK P p.2 (bodyOf P p.1) := by
  intro p hp
  simp only [lrC, List.mem_singleton] at hp
  subst hp
  exact loopsOK_un fun q hq => by simp only [List.mem_singleton] at hq; subst hq; exact ⟨3, rfl⟩
theorem lrS_ok : ∀ p ∈ lrS, LoopsOK P p.2 (bodyOf P p.1) := by
  intro p hp
  simp only [lrS, List.mem_singleton] at hp
  subst hp
  exact loopsOK_un fun q hq => by simp only [List.mem_singleton] at hq; subst hq; exact ⟨3, rfl⟩
theorem lrO_ok : ∀ p ∈ lrO, LoopsOK P p.2 (bodyOf P p.1) := by
  intro p hp
  simp only [lrO, List.mem_singleton] at hp
  subst hp
  exact loopsOK_un fun q hq => by simp only [List.mem_singleton] at hq; subst hq; exact ⟨3, rfl⟩
theorem lrH_ok : ∀ p ∈ lrH, LoopsOK P p.2 (bodyOf P p.1) := by
  intro p hp
  simp only [lrH, List.mem_singleton] at hp
  subst hp
  exact loopsOK_un fun q hq => by simp only [List.mem_singleton] at hq; subst hq; exact ⟨3, rfl⟩
theorem lrP_ok : ∀ p ∈ lrP, LoopsOK P p.2 (bodyOf P p.1) := by
  intro p hp
  simp only [lrP, List.mem_singleton] at hp
  subst hp
  exact loopsOK_un fun q hq => by simp only [List.mem_singleton] at hq; subst hq; exact ⟨3, rfl⟩
theorem qup_ok : ConOK P 164 c_rup := con_of (allOK mixed none_ok) 10 164 fun args r h => by
  unfold c_rup at h
  split at h
  · rename_i a b c
    have hp := (T.is_ask h).1
    have h := (T.is_ask h).2
    obtain rfl := T.is_ret h
    rw [t_qup]
    simp only [lk_eq]
    refine ⟨fun g => ?_, fun g => ?_⟩
    · have g : c < 0 := U.lt_t.mp g
      unfold Neg64 at hp
      rw [U.sub64 (by unfold I64 at hp ⊢; omega), absI_neg g, Int.zero_sub]; exact rfl
    · have g : 0 ≤ c := U.lt_f.mp g
      rw [absI_pos (by omega)]; exact rfl
  · exact h.elim
theorem d8_ok : ∀ p ∈ d8, ConOK P p.1 p.2 := by
  intro p hp
  simp only [d8, List.mem_cons] at hp
  rcases hp with rfl | rfl | hp
  · exact qmapped_ok
  · exact qup_ok
  · exact d7_ok p (by simpa [d7] using hp)
theorem qCheck_ok : ConOK P 86 c_DCheck := con_of (allOKL mixed d8_ok lrC_ok) 10 86 fun args r h => by
  unfold c_DCheck at h
  split at h
  · rename_i n f k s h'
    have hp : Row64 n f := (T.is_ask h).1
    have h := (T.is_ask h).2
    obtain rfl := T.is_ret h
    rw [t_qCheck]
    obtain ⟨a0, b0, c0, hf0⟩ := r3 (f 0)
    obtain ⟨a1, b1, c1, hf1⟩ := r3 (f 1)
    have hI0 : 0 < n → I64 a0 ∧ I64 b0 ∧ I64 c0 := fun hn => by have := hp 0 hn; rw [hf0] at this; exact this
    have hI1 : 1 < n → I64 a1 ∧ I64 b1 ∧ I64 c1 := fun hn => by have := hp 1 hn; rw [hf1] at this; exact this
    have k0 : ck1 (f 0) = if chk a0 b0 c0 ≠ 0 then chk a0 b0 c0 else if c0 < 0 then 2 else 0 := by rw [hf0]; rfl
    have k1 : ck1 (f 1) = if chk a1 b1 c1 ≠ 0 then chk a1 b1 c1 else if c1 < 0 then 2 else 0 := by rw [hf1]; rfl
    simp only [tn, lk_eq, hf0, hf1]
    simp only [Int.ofNat_eq_natCast]
    by_cases h1 : n < 1
    · have : n = 0 := by omega
      subst this
      simp [T.All, U.lt_eq, chD]
    by_cases h2 : 2 < n
    · have e : chD n f k s h' = 5 := by unfold chD; rw [if_pos (.inr h2)]
      have g1 : U.lt (n : Int) 1 = false := by rw [U.lt_eq]; exact decide_eq_false (by omega)
      have g2 : U.gt (n : Int) 2 = true := by rw [U.gt_eq]; exact decide_eq_true (by omega)
      simp only [T.All, g1, g2, e]
      simp
    have hn : n = 1 ∨ n = 2 := by omega
    by_cases z0 : chk a0 b0 c0 = 0
    · by_cases m0 : c0 < 0
      · rw [if_neg (by simp [z0]), if_pos m0] at k0
        have e2 : chD n f k s h' = 2 := by unfold chD; rw [if_neg (by omega), if_pos (by omega), k0]
        rcases hn with rfl | rfl <;> simp [T.All, U.lt_eq, U.gt_eq, U.ne_eq, hI0, z0, m0, e2]
      · rw [if_neg (by simp [z0]), if_neg m0] at k0
        rcases hn with rfl | rfl
        · have e2 : chD 1 f k s h' = if fitB k s h' = true then 0 else 2 := by unfold chD; rw [if_neg (by omega), if_neg (by omega), if_neg (by omega)]
          cases hf : fitB k s h' <;> simp [T.All, U.lt_eq, U.gt_eq, U.ne_eq, U.not_eq, hI0, z0, m0, e2, hf]
        · by_cases z1 : chk a1 b1 c1 = 0
          · by_cases m1 : c1 < 0
            · rw [if_neg (by simp [z1]), if_pos m1] at k1
              have e2 : chD 2 f k s h' = 2 := by unfold chD; rw [if_neg (by omega), if_neg (by omega), if_pos ⟨rfl, by omega⟩, k1]
              simp [T.All, U.lt_eq, U.gt_eq, U.ne_eq, hI0, hI1, z0, m0, z1, m1, e2]
            · rw [if_neg (by simp [z1]), if_neg m1] at k1
              have e2 : chD 2 f k s h' = if fitB k s h' = true then 0 else 2 := by unfold chD; rw [if_neg (by omega), if_neg (by omega), if_neg (fun h => h.2 k1)]
              cases hf : fitB k s h' <;> simp [T.All, U.lt_eq, U.gt_eq, U.ne_eq, U.not_eq, hI0, hI1, z0, m0, z1, m1, e2, hf]
          · rw [if_pos z1] at k1
            have e2 : chD 2 f k s h' = chk a1 b1 c1 := by unfold chD; rw [if_neg (by omega), if_neg (by omega), if_pos ⟨rfl, by rw [k1]; exact z1⟩, k1]
            simp [T.All, U.lt_eq, U.gt_eq, U.ne_eq, hI0, hI1, z0, m0, z1, e2]
    · rw [if_pos z0] at k0
      have e2 : chD n f k s h' = chk a0 b0 c0 := by unfold chD; rw [if_neg (by omega), if_pos (by rw [k0]; exact z0), k0]
      rcases hn with rfl | rfl <;> simp [T.All, U.lt_eq, U.gt_eq, U.ne_eq, hI0, z0, e2]
  · exact h.elim
theorem d9_ok : ∀ p ∈ d9, ConOK P p.1 p.2 := by
  intro p hp
  simp only [d9, List.mem_cons] at hp
  rcases hp with rfl | hp
  · exact qCheck_ok
  · exact d8_ok p (by simpa [d8] using hp)
theorem qSize_ok : ConOK P 87 c_DSize := con_of (allOKL mixed d9_ok lrS_ok) 10 87 fun args r h => by
  unfold c_DSize at h
  split at h
  · rename_i n f k s h'
    have hp : Row64 n f := (T.is_ask h).1
    have h := (T.is_ask h).2
    obtain rfl := T.is_ret h
    rw [t_qSize]
    simp only [tn, lk_eq]
    refine ⟨hp, fun hc => ?_, fun hc => ?_⟩
    · have hc : chD n f k s h' ≠ 0 := U.ne_t.mp hc
      have e : szD n f k s h' = 0 := by unfold szD; rw [if_pos hc]
      rw [e]; exact rfl
    · have hc : chD n f k s h' = 0 := U.ne_f.mp hc
      obtain ⟨d1, d2⟩ := chD_zero.1 hc
      have hn := d1.1
      have hb := dr_prod d1
      have h0 := rr_size (d1.2 0 (by omega))
      refine ⟨fun _ => ⟨⟨by omega, by omega⟩, hp 0 (by omega), fun g => ?_, fun g => ?_⟩, fun g => absurd (U.lt_f.mp g) (by simp only [Int.ofNat_eq_natCast]; omega)⟩
      · have g := U.lt_t.mp g
        simp only [Int.ofNat_eq_natCast] at g
        obtain rfl : n = 2 := by omega
        refine ⟨⟨by omega, by omega⟩, hp 1 (by omega), fun g => absurd (U.lt_t.mp g) (by decide), fun _ => ?_⟩
        show SV.lit (.int .i64 (U.mul .i64 (U.mul .i64 1 (szR (f 0))) (szR (f 1)))) = _
        have ec : colD 2 f = szR (f 1) := rfl
        rw [ec] at hb
        rw [U.mul64 (a := 1) (by unfold I64; omega), Int.one_mul, U.mul64 (by unfold I64; omega), szD_right hc, ec]
      · have g := U.lt_f.mp g
        simp only [Int.ofNat_eq_natCast] at g
        obtain rfl : n = 1 := by omega
        show SV.lit (.int .i64 (U.mul .i64 1 (szR (f 0)))) = _
        have ec : colD 1 f = 1 := rfl
        rw [U.mul64 (a := 1) (by unfold I64; omega), szD_right hc, ec, Int.one_mul, Int.mul_one]
  · exact h.elim
theorem qHas_ok : ConOK P 89 c_DHas := con_of (allOKL mixed d9_ok lrH_ok) 10 89 fun args r h => by
  unfold c_DHas at h
  split at h
  · rename_i n f k s h' m e
    have hp : Row64 n f := (T.is_ask h).1
    have h := (T.is_ask h).2
    obtain rfl := T.is_ret h
    rw [t_qHas]
    simp only [tn, lk_eq]
    have no : ¬ (chD n f k s h' = 0 ∧ m = n ∧ hasR (f 0) (e 0).1 = true ∧ (n = 2 → hasR (f 1) (e 1).1 = true)) → SV.lit (.bool false) = SV.lit (.bool (hasD n f k s h' m e)) :=
      fun h => by rw [(hasD_f h).1]
    refine ⟨hp, fun z => ?_, fun z => ⟨fun g => ?_, fun g => ?_⟩⟩
    · have z := U.ne_t.mp z
      exact no fun h => z h.1
    · have g := U.ne_t.mp g
      exact no fun h => g (by rw [h.2.1])
    have z : chD n f k s h' = 0 := U.ne_f.mp z
    have g : (m : Int) = n := U.ne_f.mp g
    obtain rfl : m = n := by omega
    obtain ⟨d1, d1'⟩ := chD_zero.1 z
    have hn := d1.1
    refine ⟨fun _ => ⟨⟨by omega, by omega⟩, ⟨by omega, by omega⟩, hp 0 (by omega), fun q => ?_, fun q => ⟨fun g1 => ?_, fun g1 => ?_⟩⟩, fun g => absurd (U.lt_f.mp g) (by simp only [Int.ofNat_eq_natCast]; omega)⟩
    · have q : hasR (f 0) (e 0).1 = false := U.not_t.mp q
      exact no fun h => by rw [h.2.2.1] at q; cases q
    · have q : hasR (f 0) (e 0).1 = true := U.not_f.mp q
      have g1 := U.lt_t.mp g1
      simp only [Int.ofNat_eq_natCast] at g1
      obtain rfl : m = 2 := by omega
      refine ⟨⟨by omega, by omega⟩, ⟨by omega, by omega⟩, hp 1 (by omega), fun q2 => ?_, fun q2 => ⟨fun g => absurd (U.lt_t.mp g) (by decide), fun _ => ?_⟩⟩
      · have q2 : hasR (f 1) (e 1).1 = false := U.not_t.mp q2
        exact no fun h => by rw [h.2.2.2 rfl] at q2; cases q2
      · have q2 : hasR (f 1) (e 1).1 = true := U.not_f.mp q2
        rw [(hasD_t (k := k) (s := s) (h := h') (m := 2) (e := e) ⟨z, rfl, q, fun _ => q2⟩).1]; exact rfl
    · have q : hasR (f 0) (e 0).1 = true := U.not_f.mp q
      have g1 := U.lt_f.mp g1
      simp only [Int.ofNat_eq_natCast] at g1
      obtain rfl : m = 1 := by omega
      rw [(hasD_t (k := k) (s := s) (h := h') (m := 1) (e := e) ⟨z, rfl, q, fun h => by omega⟩).1]; exact rfl
  · exact h.elim
theorem d10_ok : ∀ p ∈ d10, ConOK P p.1 p.2 := by
  intro p hp
  simp only [d10, List.mem_cons] at hp
  rcases hp with rfl | rfl | hp
  · exact qSize_ok
  · exact qHas_ok
  · exact d9_ok p (by simpa [d9] using hp)
theorem qPos_ok : ConOK P 85 c_DPosition := con_of (allOKL mixed d10_ok lrP_ok) 10 85 fun args r h => by
  unfold c_DPosition at h
  split at h
  · rename_i n f k s h' m e
    have hp : Row64 n f := (T.is_ask h).1
    have h := (T.is_ask h).2
    obtain rfl := T.is_ret h
    rw [t_qPos]
    simp only [tn, lk_eq]
    refine ⟨hp, fun z => ?_, fun z => ?_⟩
    · have z : hasD n f k s h' m e = false := U.not_t.mp z
      refine pv_eq ?_ z.symm
      unfold posD; rw [z]; rfl
    have z : hasD n f k s h' m e = true := U.not_f.mp z
    obtain ⟨h1, h2, h3, h4⟩ : chD n f k s h' = 0 ∧ m = n ∧ hasR (f 0) (e 0).1 = true ∧ (n = 2 → hasR (f 1) (e 1).1 = true) := of_decide_eq_true z
    subst h2
    have e2 := (hasD_t (k := k) (s := s) (h := h') (m := m) (e := e) ⟨h1, rfl, h3, h4⟩).2
    obtain ⟨d1, d1'⟩ := chD_zero.1 h1
    have hn := d1.1
    have b0 : 0 ≤ posR (f 0) (e 0).1 ∧ posR (f 0) (e 0).1 ≤ 2000000 := pos_bnd h3
    refine ⟨fun _ => ⟨⟨by omega, by omega⟩, ⟨by omega, by omega⟩, hp 0 (by omega), ⟨by omega, by omega⟩, hp 0 (by omega), fun g1 => ?_, fun g1 => ?_⟩, fun g => absurd (U.lt_f.mp g) (by simp only [Int.ofNat_eq_natCast]; omega)⟩
    · have g1 := U.lt_t.mp g1
      simp only [Int.ofNat_eq_natCast] at g1
      obtain rfl : m = 2 := by omega
      refine ⟨⟨by omega, by omega⟩, ⟨by omega, by omega⟩, hp 1 (by omega), ⟨by omega, by omega⟩, hp 1 (by omega), fun g => absurd (U.lt_t.mp g) (by decide), fun _ => pv_eq ?_ z.symm⟩
      have b1 : 0 ≤ posR (f 1) (e 1).1 ∧ posR (f 1) (e 1).1 ≤ 2000000 := pos_bnd (h4 rfl)
      have c1 := (rr_size (d1.2 1 (by omega))).2
      have hb := mul_add_bnd (x := posR (f 0) (e 0).1) (y := szR (f 1)) (z := posR (f 1) (e 1).1) b0.1 b0.2 c1.1 c1.2 (by omega) b1.1 (by omega)
      rw [e2, if_neg (by omega)]
      show U.add .i64 (U.mul .i64 (U.add .i64 (U.mul .i64 0 (szR (f 0))) (posR (f 0) (e 0).1)) (szR (f 1))) (posR (f 1) (e 1).1) = _
      rw [U.mul64 (a := 0) (by unfold I64; omega), Int.zero_mul, U.add64 (a := 0) (by unfold I64; omega), Int.zero_add, U.mul64 (by unfold I64; omega), U.add64 (by unfold I64; omega)]
    · have g1 := U.lt_f.mp g1
      simp only [Int.ofNat_eq_natCast] at g1
      obtain rfl : m = 1 := by omega
      refine pv_eq ?_ z.symm
      rw [e2, if_pos rfl]
      show U.add .i64 (U.mul .i64 0 (szR (f 0))) (posR (f 0) (e 0).1) = _
      rw [U.mul64 (a := 0) (by unfold I64; omega), Int.zero_mul, U.add64 (a := 0) (by unfold I64; omega), Int.zero_add]
  · exact h.elim
theorem qOf_ok : ConOK P 83 c_DOf := con_cl (allOKL mixed d8_ok lrO_ok) 10 83 fun args r h => by
  unfold c_DOf at h
  split at h
  · rename_i n f
    have hp : Row64 n f := (T.is_ask h).1
    have h := (T.is_ask h).2
    obtain rfl := T.is_ret h
    rw [t_qOf]
    simp only [tn, lk_eq]
    refine T.all_mono (K := fun s => Cl s (dofV n f)) (fun s hs => hs) ?_
    have big : n < 1 ∨ 2 < n → dofE n f = 5 := fun h => by unfold dofE; rw [if_pos h]
    have ie : (Int.ofNat n) = (n : Int) := rfl
    have neg : ∀ i, chk (rA (f i)) (rB (f i)) (rC (f i)) = 0 → Neg64 (rC (f i)) := fun i z => by
      have hc := right_c (chk_zero.1 z)
      unfold Neg64 I64; omega
    refine ⟨fun g => ?_, fun g => ⟨fun g2 => ?_, fun g2 => ?_⟩⟩
    · have := U.lt_t.mp g
      exact dof_err (big (.inl (by omega))) (by decide)
    · have := U.gt_t.mp g2
      exact dof_err (big (.inr (by omega))) (by decide)
    have g := U.lt_f.mp g
    have g2 := U.gt_f.mp g2
    rw [ie] at g g2
    have hn : n = 1 ∨ n = 2 := by omega
    have nb : ¬ (n < 1 ∨ 2 < n) := by omega
    refine ⟨fun _ => ⟨⟨by omega, by omega⟩, hp 0 (by omega), fun z => ?_, fun z => ⟨⟨by omega, by omega⟩, neg 0 (U.ne_f.mp z), by decide, fun g3 => ?_, fun g3 => ?_⟩⟩, fun g3 => ?_⟩
    · have z : chk (rA (f 0)) (rB (f 0)) (rC (f 0)) ≠ 0 := U.ne_t.mp z
      exact dof_err (by unfold dofE; rw [if_neg nb, if_pos z]; rfl) z
    · have z : chk (rA (f 0)) (rB (f 0)) (rC (f 0)) = 0 := U.ne_f.mp z
      have g3 := U.lt_t.mp g3
      rw [ie] at g3
      obtain rfl : n = 2 := by omega
      refine ⟨⟨by omega, by omega⟩, hp 1 (by omega), fun z1 => ?_, fun z1 => ⟨⟨by omega, by omega⟩, neg 1 (U.ne_f.mp z1), by decide, fun g4 => absurd (U.lt_t.mp g4) (by decide), fun _ => ?_⟩⟩
      · have z1 : chk (rA (f 1)) (rB (f 1)) (rC (f 1)) ≠ 0 := U.ne_t.mp z1
        exact dof_err (by unfold dofE; rw [if_neg nb, if_neg (by simp [z]), if_pos ⟨rfl, z1⟩]; rfl) z1
      · have z1 : chk (rA (f 1)) (rB (f 1)) (rC (f 1)) = 0 := U.ne_f.mp z1
        refine dof_ok (by unfold dofE; rw [if_neg nb, if_neg (by simp [z]), if_neg (by simp [z1])]) fun i hi => ?_
        rcases (show i = 0 ∨ i = 1 by omega) with rfl | rfl
        · exact cat_l (by omega)
        · exact cat_r (by omega)
    · have z : chk (rA (f 0)) (rB (f 0)) (rC (f 0)) = 0 := U.ne_f.mp z
      have g3 := U.lt_f.mp g3
      rw [ie] at g3
      obtain rfl : n = 1 := by omega
      refine dof_ok (by unfold dofE; rw [if_neg nb, if_neg (by simp [z]), if_neg (by omega)]) fun i hi => ?_
      obtain rfl : i = 0 := by omega
      rfl
    · have g3 := U.lt_f.mp g3
      rw [ie] at g3
      omega
  · exact h.elim
theorem qNth_ok : ConOK P 84 c_DNth := con_cl (allOK mixed d10_ok) 10 84 fun args r h => by
  unfold c_DNth at h
  split at h
  · rename_i n f k s h' q
    obtain ⟨hp, hq⟩ := (T.is_ask h).1
    have h := (T.is_ask h).2
    obtain rfl := T.is_ret h
    rw [t_qNth]
    simp only [tn0, tn1, lk_eq]
    refine T.all_mono (K := fun v => Cl v (dnV n f k s h' q)) (fun v hv => hv) ?_
    have ie : (Int.ofNat n) = (n : Int) := rfl
    refine ⟨hp, fun z => ?_, fun z => ?_⟩
    · have z : chD n f k s h' ≠ 0 := U.ne_t.mp z
      exact dn_err (by unfold dnE; rw [if_pos z]) z
    have z : chD n f k s h' = 0 := U.ne_f.mp z
    obtain ⟨d1, d1'⟩ := chD_zero.1 z
    have hn := d1.1
    have hc := dr_col d1
    refine ⟨fun g => ?_, fun g => ⟨hp, fun g2 => ?_, fun g2 => ?_⟩⟩
    · have g := U.lt_t.mp g
      exact dn_err (by unfold dnE; rw [if_neg (by simp [z]), if_pos (.inl g)]) (by decide)
    · have g2 := U.ge_t.mp g2
      exact dn_err (by unfold dnE; rw [if_neg (by simp [z]), if_pos (.inr g2)]) (by decide)
    have g := U.lt_f.mp g
    have g2 := U.ge_f.mp g2
    have e0 : dnE n f k s h' q = 0 := by unfold dnE; rw [if_neg (by simp [z]), if_neg (by omega)]
    have hcol : colD n f ≠ 0 := fun hz => by rw [szD_right z, hz, Int.mul_zero] at g2; omega
    refine ⟨fun g3 => ?_, fun g3 => ?_⟩
    · have g3 : (n : Int) = 1 := U.eq_t.mp g3
      obtain rfl : n = 1 := by omega
      refine ⟨⟨by omega, by omega⟩, hp 0 (by omega), dn_ok e0 fun i hi => ?_⟩
      obtain rfl : i = 0 := by omega
      have ec : colD 1 f = 1 := rfl
      show _ = dnF 1 f q 0
      unfold dnF
      rw [if_pos rfl, ec, Int.tdiv_one]; rfl
    · have g3 : (n : Int) ≠ 1 := U.eq_f.mp g3
      obtain rfl : n = 2 := by omega
      have t1 := Int.tdiv_eq_ediv_of_nonneg (b := szR (f 1)) g
      have t2 := Int.ediv_nonneg g hc.1
      have t3 := Int.ediv_le_self (szR (f 1)) g
      have ec : colD 2 f = szR (f 1) := rfl
      rw [ec] at t2 hcol
      have eq1 : U.quo .i64 q (szR (f 1)) = q.tdiv (szR (f 1)) := U.quo64 (by unfold I64 at hq ⊢; omega)
      have eq2 : U.rem q (szR (f 1)) = q.tmod (szR (f 1)) := U.rem_eq _ _
      refine ⟨⟨by omega, by omega⟩, hp 1 (by omega), ⟨by omega, by omega⟩, hcol, hp 0 (by omega), ⟨by omega, by omega⟩, hcol, hp 1 (by omega), dn_ok e0 fun i hi => ?_⟩
      rcases (show i = 0 ∨ i = 1 by omega) with rfl | rfl
      · show ((nth (rA (f 0)) (rB (f 0)) (rC (f 0)) (U.quo .i64 q (szR (f 1))), ()) : R1) = _
        rw [eq1]; unfold dnF; rw [if_pos rfl, ec]
      · show ((nth (rA (f 1)) (rB (f 1)) (rC (f 1)) (U.rem q (szR (f 1))), ()) : R1) = _
        rw [eq2]; unfold dnF; rw [if_neg (by decide), ec]
  · exact h.elim
end Go.RX.Span

/- Domains: what the law of Of and its like returns. -/
set_option linter.unusedVariables false
set_option linter.unusedSimpArgs false
set_option maxRecDepth 100000
namespace Go.RX.Span
open Go Go.RX
attribute [local irreducible] sx conB

set_option maxRecDepth 100000 in
theorem t_DEq (n : Nat) (f : Nat → R3) (k s h : Int) (m : Nat) (g : Nat → R3) (k1 s1 h1 : Int) : conB Go.Proofs.Try.prog (conOf d3) noLoops 10 60 [.agg [.row [.int .i64, .int .i64, .int .i64] n f, .lit (.int .i64 k), .lit (.int .i64 s), .lit (.int .i64 h)], .agg [.row [.int .i64, .int .i64, .int .i64] m g, .lit (.int .i64 k1), .lit (.int .i64 s1), .lit (.int .i64 h1)]] =
    T.ask (n ≤ nat_lit 9223372036854775807) (T.br (lk eqR3 n f m g) (T.ret (SV.lit (Value.bool (U.andb (U.eq k k1) (U.andb (U.eq s s1) (U.eq h h1)))))) (T.ret (SV.lit (Value.bool
      false)))) := by kernel_rfl
theorem DEq_ok : ConOK P 60 c_DEq := con_of (allOK mixed d3_ok) 10 60 fun args r h => by
  unfold c_DEq at h
  split at h
  · rename_i n f k s h' m g k1 s1 h1
    have hp : n ≤ 9223372036854775807 := (T.is_ask h).1
    have h := (T.is_ask h).2
    obtain rfl := T.is_ret h
    rw [t_DEq]
    simp only [lk_eq]
    unfold eqD
    cases hq : eqR3 n f m g
    · simp [T.All, hp]
    · by_cases e1 : k = k1 <;> by_cases e2 : s = s1 <;> by_cases e3 : h' = h1 <;> simp [T.All, hp, U.andb_eq, U.eq_eq, e1, e2, e3]
  · exact h.elim
noncomputable abbrev d11 : List (Nat × Con) := (60, c_DEq) :: (71, c_DPosition) :: (85, c_DPosition) :: (88, c_DHas) :: (83, c_DOf) :: (84, c_DNth) :: d10
theorem d11_ok : ∀ p ∈ d11, ConOK P p.1 p.2 := by
  intro p hp
  simp only [d11, List.mem_cons] at hp
  rcases hp with rfl | rfl | rfl | rfl | rfl | rfl | hp
  · exact DEq_ok
  · exact DPosition_ok
  · exact qPos_ok
  · exact DHas_ok
  · exact qOf_ok
  · exact qNth_ok
  · exact d10_ok p (by simpa [d10] using hp)
end Go.RX.Span

/- Domains: what the law of Of and its like returns. -/
set_option linter.unusedVariables false
set_option linter.unusedSimpArgs false
set_option maxRecDepth 100000
namespace Go.RX.Span
open Go Go.RX
attribute [local irreducible] sx conB

noncomputable def c_DomainOf : Con := fun args => match args with
  | [.row [.int .i64, .int .i64, .int .i64] m g, .agg [.row [.int .i64, .int .i64, .int .i64] n f, .lit (.int .i64 k), .lit (.int .i64 s), .lit (.int .i64 h)], .row [.int .i64] q e, .lit (.int .i64 j)] =>
    .ask (Row64 m g ∧ Row64 n f ∧ I64 j) (.ret (.lit (.bool true)))
  | _ => .stuck 1
set_option maxRecDepth 100000 in
theorem t_DomainOf (m : Nat) (g : Nat → R3) (n : Nat) (f : Nat → R3) (k s h : Int) (q : Nat) (e : Nat → R1) (j : Int) : conB Go.Proofs.Try.prog (conOf d11) noLoops 10 15 [.row [.int .i64, .int .i64, .int .i64] m g, .agg [.row [.int .i64, .int .i64, .int .i64] n f, .lit (.int .i64 k), .lit (.int .i64 s), .lit (.int .i64 h)], .row [.int .i64] q e, .lit (.int .i64 j)] =
    T.ask (Row64 m g) (T.ask (Row64 m g) (T.ask (Row64 n f ∧ I64 j) (T.ask (Row64 n f ∧ I64 j) (T.ask (Row64 n f) (T.ask (Row64 n f) (T.ask (lk dofN m g ≤ nat_lit 9223372036854775807)
      (T.br (lk eqD (lk dofN m g) (lk dofF g) (0 : Int) (0 : Int) (0 : Int) (lk dofN m g) (lk dofF g) (0 : Int) (0 : Int) (0 : Int)) (T.br (U.eq (lk dofE m g) (lk dofE m g)) (T.ask (Row64
      n f) (T.ask (Row64 n f) (T.br (U.eq (lk chD n f k s h) (lk chD n f k s h)) (T.ask (Row64 n f) (T.ask (Row64 n f) (T.br (U.eq (lk szD n f k s h) (lk szD n f k s h)) (T.ask (Row64 n
      f) (T.ask (Row64 n f) (T.br (U.beq (lk hasD n f k s h q e) (lk hasD n f k s h q e)) (T.ask (lk dnN n f k s h j ≤ nat_lit 9223372036854775807) (T.br (lk eqR (lk dnN n f k s h j) (lk
      dnF n f j) (lk dnN n f k s h j) (lk dnF n f j)) (T.br (U.eq (lk dnE n f k s h j) (lk dnE n f k s h j)) (T.br (U.eq (lk posD n f k s h q e) (lk posD n f k s h q e)) (T.br (U.beq (lk
      hasD n f k s h q e) (lk hasD n f k s h q e)) (T.ret (SV.lit (Value.bool true))) (T.ret (SV.lit (Value.bool false)))) (T.ret (SV.lit (Value.bool false)))) (T.ret (SV.lit (Value.bool
      false)))) (T.ret (SV.lit (Value.bool false))))) (T.ret (SV.lit (Value.bool false)))))) (T.ret (SV.lit (Value.bool false)))))) (T.ret (SV.lit (Value.bool false)))))) (T.ret (SV.lit
      (Value.bool false)))) (T.ret (SV.lit (Value.bool false)))))))))) := by kernel_rfl
theorem eqR3_self (n : Nat) (f : Nat → R3) : eqR3 n f n f = true := eqR3_t.2 ⟨rfl, fun i _ => ⟨rfl, rfl, rfl⟩⟩
theorem eqR_self (n : Nat) (f : Nat → R1) : eqR n f n f = true := eqR_t.2 ⟨rfl, fun i _ => rfl⟩
theorem eqD_self (n : Nat) (f : Nat → R3) (k s h : Int) : eqD n f k s h n f k s h = true := decide_eq_true ⟨eqR3_self n f, rfl, rfl, rfl⟩
theorem dofN_le (n : Nat) (f : Nat → R3) : dofN n f ≤ 2 := by
  unfold dofN
  split
  · omega
  · rename_i h
    unfold dofE at h
    split at h
    · omega
    · omega
theorem dnN_le (n : Nat) (f : Nat → R3) (k s h q : Int) : dnN n f k s h q ≤ 2 := by
  unfold dnN
  split
  · omega
  · rename_i he
    unfold dnE at he
    split at he
    · omega
    · rename_i hc
      have := (chD_zero.1 (Classical.byContradiction hc)).1.1
      omega
theorem DomainOf_ok : ConOK P 15 c_DomainOf := con_of (allOK mixed d11_ok) 10 15 fun args r h => by
  unfold c_DomainOf at h
  split at h
  · rename_i m g n f k s h' q e j
    obtain ⟨p1, p2, p3⟩ := (T.is_ask h).1
    have h := (T.is_ask h).2
    obtain rfl := T.is_ret h
    rw [t_DomainOf]
    have a1 : dofN m g ≤ 9223372036854775807 := by have := dofN_le m g; omega
    have a2 : dnN n f k s h' j ≤ 9223372036854775807 := by have := dnN_le n f k s h' j; omega
    simp only [lk_eq, eqD_self, eqR_self]
    simp [T.All, p1, p2, p3, a1, a2, U.eq_eq, U.beq_eq]
  · exact h.elim
end Go.RX.Span

