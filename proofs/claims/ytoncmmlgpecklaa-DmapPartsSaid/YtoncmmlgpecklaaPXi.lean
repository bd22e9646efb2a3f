/- Domain maps: the reference's Blocks: the ways. -/
import Derived.Test.YtoncmmlgpecklaaPXh
import Derived.Test.YtoncmmlgpecklaaPXg
set_option linter.unusedVariables false
set_option linter.unusedSimpArgs false
set_option maxRecDepth 100000
namespace Go.RX.Span
open Go Go.RX
attribute [local irreducible] sx conB

--%R < ↑n => < ((n : Nat) : Int)
set_option maxRecDepth 100000 in
theorem t_Qb1 (n : Nat) (f : Nat → R3) (k s h L l : Int) : (conB Go.Proofs.Try.prog (conOf kQb) (loopsOf lQb) 10 58 [.agg [.row [.int .i64, .int .i64, .int .i64] n f, .lit (.int .i64 k), .lit (.int .i64 s), .lit (.int .i64 h)], .lit (.int .i64 L), .lit (.int .i64 l)]).force [true] =
    T.ask (Row64 n f) (.ask (U.ne (lk lcE n f k s h L l) (0 : Int) = true) (.ret (.tup [.lit (.slice none (nat_lit 0) (nat_lit 0)), .lit (.int .i64 (lk lcE n f k s h L l))]))) := by kernel_rfl
set_option maxRecDepth 100000 in
theorem t_Qb2 (n : Nat) (f : Nat → R3) (k s h L l : Int) : (conB Go.Proofs.Try.prog (conOf kQb) (loopsOf lQb) 10 58 [.agg [.row [.int .i64, .int .i64, .int .i64] n f, .lit (.int .i64 k), .lit (.int .i64 s), .lit (.int .i64 h)], .lit (.int .i64 L), .lit (.int .i64 l)]).force [false, true] =
    T.ask (Row64 n f) (.ask (U.ne (lk lcE n f k s h L l) (0 : Int) = false) (.ask (U.eq k (4 : Int) = true) (.ret (.tup [.lit (.slice none (nat_lit 0) (nat_lit 0)), .lit (.int .i64
      70)])))) := by kernel_rfl
set_option maxRecDepth 100000 in
theorem t_Qb3 (n : Nat) (f : Nat → R3) (k s h L l : Int) : (conB Go.Proofs.Try.prog (conOf kQb) (loopsOf lQb) 10 58 [.agg [.row [.int .i64, .int .i64, .int .i64] n f, .lit (.int .i64 k), .lit (.int .i64 s), .lit (.int .i64 h)], .lit (.int .i64 L), .lit (.int .i64 l)]).force [false, false, true] =
    T.ask (Row64 n f) (.ask (U.ne (lk lcE n f k s h L l) (0 : Int) = false) (.ask (U.eq k (4 : Int) = false) (.ask (Row64 n f) (.ask (U.eq (lk szD n f k s h) (0 : Int) = true) (.ret
      (.tup [.row [.sl [.int .i64, .int .i64, .int .i64], .int .i64, .int .i64, .int .i64] (nat_lit 0) fun x => ((nat_lit 0, fun x => ((0 : Int), (0 : Int), (0 : Int), PUnit.unit)), (0 :
      Int), (0 : Int), (0 : Int), PUnit.unit), .lit (.int .i64 0)])))))) := by kernel_rfl
set_option maxRecDepth 100000 in
theorem t_Qb0a (n : Nat) (f : Nat → R3) (k s h L l : Int) : (conB Go.Proofs.Try.prog (conOf kQb) (loopsOf lQb) 10 58 [.agg [.row [.int .i64, .int .i64, .int .i64] n f, .lit (.int .i64 k), .lit (.int .i64 s), .lit (.int .i64 h)], .lit (.int .i64 L), .lit (.int .i64 l)]).force [false, false, false, true, true] =
    T.ask (Row64 n f) (.ask (U.ne (lk lcE n f k s h L l) (0 : Int) = false) (.ask (U.eq k (4 : Int) = false) (.ask (Row64 n f) (.ask (U.eq (lk szD n f k s h) (0 : Int) = false) (.ask
      ((0 : Int) ≤ (0 : Int) ∧ (0 : Int) < ((n : Nat) : Int)) (.ask (I64 (f (U.toNat (0 : Int))).1 ∧ I64 (f (U.toNat (0 : Int))).2.1 ∧ I64 (f (U.toNat (0 : Int))).2.2.1) (.ask (U.eq k (0
      : Int) = true) (.ask (U.eq l h = true) (.ask (lk RqAsk n f (0 : Int) (lk size (f (U.toNat (0 : Int))).1 (f (U.toNat (0 : Int))).2.1 (f (U.toNat (0 : Int))).2.2.1) (1 : Int)) (.ask
      (((0 : Nat) + (1 : Nat)) * nat_lit 48 ≤ nat_lit 140737488351232) (.ret (.tup [.row [.sl [.int .i64, .int .i64, .int .i64], .int .i64, .int .i64, .int .i64] (nat_lit 1) (U.cat
      (nat_lit 0) (fun x => ((nat_lit 0, fun x => ((0 : Int), (0 : Int), (0 : Int), PUnit.unit)), (0 : Int), (0 : Int), (0 : Int), PUnit.unit)) fun x => ((lk bkM n, lk bkR n f (0 : Int)
      (lk size (f (U.toNat (0 : Int))).1 (f (U.toNat (0 : Int))).2.1 (f (U.toNat (0 : Int))).2.2.1) (1 : Int)), k, s, h, PUnit.unit)), .lit (.int .i64 0)])))))))))))) := by kernel_rfl
set_option maxRecDepth 100000 in
theorem t_Qb0b (n : Nat) (f : Nat → R3) (k s h L l : Int) : (conB Go.Proofs.Try.prog (conOf kQb) (loopsOf lQb) 10 58 [.agg [.row [.int .i64, .int .i64, .int .i64] n f, .lit (.int .i64 k), .lit (.int .i64 s), .lit (.int .i64 h)], .lit (.int .i64 L), .lit (.int .i64 l)]).force [false, false, false, true, false] =
    T.ask (Row64 n f) (.ask (U.ne (lk lcE n f k s h L l) (0 : Int) = false) (.ask (U.eq k (4 : Int) = false) (.ask (Row64 n f) (.ask (U.eq (lk szD n f k s h) (0 : Int) = false) (.ask
      ((0 : Int) ≤ (0 : Int) ∧ (0 : Int) < ((n : Nat) : Int)) (.ask (I64 (f (U.toNat (0 : Int))).1 ∧ I64 (f (U.toNat (0 : Int))).2.1 ∧ I64 (f (U.toNat (0 : Int))).2.2.1) (.ask (U.eq k (0
      : Int) = true) (.ask (U.eq l h = false) (.ret (.tup [.row [.sl [.int .i64, .int .i64, .int .i64], .int .i64, .int .i64, .int .i64] (nat_lit 0) fun x => ((nat_lit 0, fun x => ((0 :
      Int), (0 : Int), (0 : Int), PUnit.unit)), (0 : Int), (0 : Int), (0 : Int), PUnit.unit), .lit (.int .i64 0)])))))))))) := by kernel_rfl
set_option maxRecDepth 100000 in
theorem t_Qb1a (n : Nat) (f : Nat → R3) (k s h L l : Int) : (conB Go.Proofs.Try.prog (conOf kQb) (loopsOf lQb) 10 58 [.agg [.row [.int .i64, .int .i64, .int .i64] n f, .lit (.int .i64 k), .lit (.int .i64 s), .lit (.int .i64 h)], .lit (.int .i64 L), .lit (.int .i64 l)]).force [false, false, false, false, true, true] =
    T.ask (Row64 n f) (.ask (U.ne (lk lcE n f k s h L l) (0 : Int) = false) (.ask (U.eq k (4 : Int) = false) (.ask (Row64 n f) (.ask (U.eq (lk szD n f k s h) (0 : Int) = false) (.ask
      ((0 : Int) ≤ (0 : Int) ∧ (0 : Int) < ((n : Nat) : Int)) (.ask (I64 (f (U.toNat (0 : Int))).1 ∧ I64 (f (U.toNat (0 : Int))).2.1 ∧ I64 (f (U.toNat (0 : Int))).2.2.1) (.ask (U.eq k (0
      : Int) = false) (.ask (U.eq k (1 : Int) = true) (.ask (lk PreSa (nat_lit 0) L l (lk size (f (U.toNat (0 : Int))).1 (f (U.toNat (0 : Int))).2.1 (f (U.toNat (0 : Int))).2.2.1) ∧ false
      = false ∧ (1 : Nat) = (1 : Nat) ∧ false = false ∧ (49 : Nat) = (49 : TypeId) ∧ (49 : Nat) = (49 : TypeId)) (.ask (lk PreSa (nat_lit 0) L l (lk size (f (U.toNat (0 : Int))).1 (f
      (U.toNat (0 : Int))).2.1 (f (U.toNat (0 : Int))).2.2.1) ∧ lk loB (lk size (f (U.toNat (0 : Int))).1 (f (U.toNat (0 : Int))).2.1 (f (U.toNat (0 : Int))).2.2.1) L l = lk loB (lk size
      (f (U.toNat (0 : Int))).1 (f (U.toNat (0 : Int))).2.1 (f (U.toNat (0 : Int))).2.2.1) L l ∧ lk loB (lk size (f (U.toNat (0 : Int))).1 (f (U.toNat (0 : Int))).2.1 (f (U.toNat (0 :
      Int))).2.2.1) L l = lk loB (lk size (f (U.toNat (0 : Int))).1 (f (U.toNat (0 : Int))).2.1 (f (U.toNat (0 : Int))).2.2.1) L l ∧ false = false ∧ (1 : Nat) = (1 : Nat) ∧ false = false
      ∧ (49 : TypeId) = (49 : TypeId) ∧ (49 : TypeId) = (49 : TypeId)) (.ask (U.gt (lk loB (lk size (f (U.toNat (0 : Int))).1 (f (U.toNat (0 : Int))).2.1 (f (U.toNat (0 : Int))).2.2.1) L
      (lk nxtl l)) (lk loB (lk size (f (U.toNat (0 : Int))).1 (f (U.toNat (0 : Int))).2.1 (f (U.toNat (0 : Int))).2.2.1) L l) = true) (.ask (lk RqAsk n f (lk loB (lk size (f (U.toNat (0 :
      Int))).1 (f (U.toNat (0 : Int))).2.1 (f (U.toNat (0 : Int))).2.2.1) L l) (lk loB (lk size (f (U.toNat (0 : Int))).1 (f (U.toNat (0 : Int))).2.1 (f (U.toNat (0 : Int))).2.2.1) L (lk
      nxtl l)) (1 : Int)) (.ask (((0 : Nat) + (1 : Nat)) * nat_lit 48 ≤ nat_lit 140737488351232) (.ret (.tup [.row [.sl [.int .i64, .int .i64, .int .i64], .int .i64, .int .i64, .int .i64]
      (nat_lit 1) (U.cat (nat_lit 0) (fun x => ((nat_lit 0, fun x => ((0 : Int), (0 : Int), (0 : Int), PUnit.unit)), (0 : Int), (0 : Int), (0 : Int), PUnit.unit)) fun x => ((lk bkM n, lk
      bkR n f (lk loB (lk size (f (U.toNat (0 : Int))).1 (f (U.toNat (0 : Int))).2.1 (f (U.toNat (0 : Int))).2.2.1) L l) (lk loB (lk size (f (U.toNat (0 : Int))).1 (f (U.toNat (0 :
      Int))).2.1 (f (U.toNat (0 : Int))).2.2.1) L (lk nxtl l)) (1 : Int)), k, s, h, PUnit.unit)), .lit (.int .i64 0)]))))))))))))))) := by kernel_rfl
set_option maxRecDepth 100000 in
theorem t_Qb1b (n : Nat) (f : Nat → R3) (k s h L l : Int) : (conB Go.Proofs.Try.prog (conOf kQb) (loopsOf lQb) 10 58 [.agg [.row [.int .i64, .int .i64, .int .i64] n f, .lit (.int .i64 k), .lit (.int .i64 s), .lit (.int .i64 h)], .lit (.int .i64 L), .lit (.int .i64 l)]).force [false, false, false, false, true, false] =
    T.ask (Row64 n f) (.ask (U.ne (lk lcE n f k s h L l) (0 : Int) = false) (.ask (U.eq k (4 : Int) = false) (.ask (Row64 n f) (.ask (U.eq (lk szD n f k s h) (0 : Int) = false) (.ask
      ((0 : Int) ≤ (0 : Int) ∧ (0 : Int) < ((n : Nat) : Int)) (.ask (I64 (f (U.toNat (0 : Int))).1 ∧ I64 (f (U.toNat (0 : Int))).2.1 ∧ I64 (f (U.toNat (0 : Int))).2.2.1) (.ask (U.eq k (0
      : Int) = false) (.ask (U.eq k (1 : Int) = true) (.ask (lk PreSa (nat_lit 0) L l (lk size (f (U.toNat (0 : Int))).1 (f (U.toNat (0 : Int))).2.1 (f (U.toNat (0 : Int))).2.2.1) ∧ false
      = false ∧ (1 : Nat) = (1 : Nat) ∧ false = false ∧ (49 : Nat) = (49 : TypeId) ∧ (49 : Nat) = (49 : TypeId)) (.ask (lk PreSa (nat_lit 0) L l (lk size (f (U.toNat (0 : Int))).1 (f
      (U.toNat (0 : Int))).2.1 (f (U.toNat (0 : Int))).2.2.1) ∧ lk loB (lk size (f (U.toNat (0 : Int))).1 (f (U.toNat (0 : Int))).2.1 (f (U.toNat (0 : Int))).2.2.1) L l = lk loB (lk size
      (f (U.toNat (0 : Int))).1 (f (U.toNat (0 : Int))).2.1 (f (U.toNat (0 : Int))).2.2.1) L l ∧ lk loB (lk size (f (U.toNat (0 : Int))).1 (f (U.toNat (0 : Int))).2.1 (f (U.toNat (0 :
      Int))).2.2.1) L l = lk loB (lk size (f (U.toNat (0 : Int))).1 (f (U.toNat (0 : Int))).2.1 (f (U.toNat (0 : Int))).2.2.1) L l ∧ false = false ∧ (1 : Nat) = (1 : Nat) ∧ false = false
      ∧ (49 : TypeId) = (49 : TypeId) ∧ (49 : TypeId) = (49 : TypeId)) (.ask (U.gt (lk loB (lk size (f (U.toNat (0 : Int))).1 (f (U.toNat (0 : Int))).2.1 (f (U.toNat (0 : Int))).2.2.1) L
      (lk nxtl l)) (lk loB (lk size (f (U.toNat (0 : Int))).1 (f (U.toNat (0 : Int))).2.1 (f (U.toNat (0 : Int))).2.2.1) L l) = false) (.ret (.tup [.row [.sl [.int .i64, .int .i64, .int
      .i64], .int .i64, .int .i64, .int .i64] (nat_lit 0) fun x => ((nat_lit 0, fun x => ((0 : Int), (0 : Int), (0 : Int), PUnit.unit)), (0 : Int), (0 : Int), (0 : Int), PUnit.unit), .lit
      (.int .i64 0)]))))))))))))) := by kernel_rfl
set_option maxRecDepth 100000 in
theorem t_Qb2a (n : Nat) (f : Nat → R3) (k s h L l : Int) : (conB Go.Proofs.Try.prog (conOf kQb) (loopsOf lQb) 10 58 [.agg [.row [.int .i64, .int .i64, .int .i64] n f, .lit (.int .i64 k), .lit (.int .i64 s), .lit (.int .i64 h)], .lit (.int .i64 L), .lit (.int .i64 l)]).force [false, false, false, false, false, true, true] =
    T.ask (Row64 n f) (.ask (U.ne (lk lcE n f k s h L l) (0 : Int) = false) (.ask (U.eq k (4 : Int) = false) (.ask (Row64 n f) (.ask (U.eq (lk szD n f k s h) (0 : Int) = false) (.ask
      ((0 : Int) ≤ (0 : Int) ∧ (0 : Int) < ((n : Nat) : Int)) (.ask (I64 (f (U.toNat (0 : Int))).1 ∧ I64 (f (U.toNat (0 : Int))).2.1 ∧ I64 (f (U.toNat (0 : Int))).2.2.1) (.ask (U.eq k (0
      : Int) = false) (.ask (U.eq k (1 : Int) = false) (.ask (U.eq k (2 : Int) = true) (.ask (U.lt l (lk size (f (U.toNat (0 : Int))).1 (f (U.toNat (0 : Int))).2.1 (f (U.toNat (0 :
      Int))).2.2.1) = true) (.ask (lk RqAsk n f l (lk size (f (U.toNat (0 : Int))).1 (f (U.toNat (0 : Int))).2.1 (f (U.toNat (0 : Int))).2.2.1) L) (.ask (((0 : Nat) + (1 : Nat)) * nat_lit
      48 ≤ nat_lit 140737488351232) (.ret (.tup [.row [.sl [.int .i64, .int .i64, .int .i64], .int .i64, .int .i64, .int .i64] (nat_lit 1) (U.cat (nat_lit 0) (fun x => ((nat_lit 0, fun x
      => ((0 : Int), (0 : Int), (0 : Int), PUnit.unit)), (0 : Int), (0 : Int), (0 : Int), PUnit.unit)) fun x => ((lk bkM n, lk bkR n f l (lk size (f (U.toNat (0 : Int))).1 (f (U.toNat (0
      : Int))).2.1 (f (U.toNat (0 : Int))).2.2.1) L), k, s, h, PUnit.unit)), .lit (.int .i64 0)])))))))))))))) := by kernel_rfl
set_option maxRecDepth 100000 in
theorem t_Qb2b (n : Nat) (f : Nat → R3) (k s h L l : Int) : (conB Go.Proofs.Try.prog (conOf kQb) (loopsOf lQb) 10 58 [.agg [.row [.int .i64, .int .i64, .int .i64] n f, .lit (.int .i64 k), .lit (.int .i64 s), .lit (.int .i64 h)], .lit (.int .i64 L), .lit (.int .i64 l)]).force [false, false, false, false, false, true, false] =
    T.ask (Row64 n f) (.ask (U.ne (lk lcE n f k s h L l) (0 : Int) = false) (.ask (U.eq k (4 : Int) = false) (.ask (Row64 n f) (.ask (U.eq (lk szD n f k s h) (0 : Int) = false) (.ask
      ((0 : Int) ≤ (0 : Int) ∧ (0 : Int) < ((n : Nat) : Int)) (.ask (I64 (f (U.toNat (0 : Int))).1 ∧ I64 (f (U.toNat (0 : Int))).2.1 ∧ I64 (f (U.toNat (0 : Int))).2.2.1) (.ask (U.eq k (0
      : Int) = false) (.ask (U.eq k (1 : Int) = false) (.ask (U.eq k (2 : Int) = true) (.ask (U.lt l (lk size (f (U.toNat (0 : Int))).1 (f (U.toNat (0 : Int))).2.1 (f (U.toNat (0 :
      Int))).2.2.1) = false) (.ret (.tup [.row [.sl [.int .i64, .int .i64, .int .i64], .int .i64, .int .i64, .int .i64] (nat_lit 0) fun x => ((nat_lit 0, fun x => ((0 : Int), (0 : Int),
      (0 : Int), PUnit.unit)), (0 : Int), (0 : Int), (0 : Int), PUnit.unit), .lit (.int .i64 0)])))))))))))) := by kernel_rfl
set_option maxRecDepth 100000 in
theorem t_Qb3a (n : Nat) (f : Nat → R3) (k s h L l : Int) : (conB Go.Proofs.Try.prog (conOf kQb) (loopsOf lQb) 10 58 [.agg [.row [.int .i64, .int .i64, .int .i64] n f, .lit (.int .i64 k), .lit (.int .i64 s), .lit (.int .i64 h)], .lit (.int .i64 L), .lit (.int .i64 l)]).force [false, false, false, false, false, false, true] =
    T.ask (Row64 n f) (.ask (U.ne (lk lcE n f k s h L l) (0 : Int) = false) (.ask (U.eq k (4 : Int) = false) (.ask (Row64 n f) (.ask (U.eq (lk szD n f k s h) (0 : Int) = false) (.ask
      ((0 : Int) ≤ (0 : Int) ∧ (0 : Int) < ((n : Nat) : Int)) (.ask (I64 (f (U.toNat (0 : Int))).1 ∧ I64 (f (U.toNat (0 : Int))).2.1 ∧ I64 (f (U.toNat (0 : Int))).2.2.1) (.ask (U.eq k (0
      : Int) = false) (.ask (U.eq k (1 : Int) = false) (.ask (U.eq k (2 : Int) = false) (.ask (U.eq k (3 : Int) = true) (.ask (lk PreSc (nat_lit 0) n f (lk size (f (U.toNat (0 : Int))).1
      (f (U.toNat (0 : Int))).2.1 (f (U.toNat (0 : Int))).2.2.1) s L (lk loS (U.mul .i64 l s) s) (U.mul .i64 l s) ∧ true = true ∧ s = s ∧ false = false ∧ (1 : Nat) = (1 : Nat) ∧ false =
      false ∧ (49 : Nat) = (49 : TypeId) ∧ (49 : Nat) = (49 : TypeId)) (.ret (.tup [.row [.sl [.int .i64, .int .i64, .int .i64], .int .i64, .int .i64, .int .i64] (lk bcN (lk size (f
      (U.toNat (0 : Int))).1 (f (U.toNat (0 : Int))).2.1 (f (U.toNat (0 : Int))).2.2.1) L s (lk loS (U.mul .i64 l s) s)) (lk qcG n f k s h (lk size (f (U.toNat (0 : Int))).1 (f (U.toNat
      (0 : Int))).2.1 (f (U.toNat (0 : Int))).2.2.1) L (lk loS (U.mul .i64 l s) s)), .lit (.int .i64 0)]))))))))))))) := by kernel_rfl
end Go.RX.Span

/- Domain maps: the reference's Blocks says what the program's says. -/
set_option linter.unusedVariables false
set_option linter.unusedSimpArgs false
set_option maxRecDepth 100000
namespace Go.RX.Span
open Go Go.RX
attribute [local irreducible] sx conB

theorem rw_rg {n : Nat} {f : Nat → R3} {k s h L l : Int} (ra : RwAsk n f k s h L l) (j : Nat) : ∃ a b c, rwF n f k s h L l j = rgR (f 0) a b c ∧ 0 ≤ a ∧ b ≤ szR (f 0) ∧ 1 ≤ c := by
  obtain ⟨hd, k4, l0, l1⟩ := ra
  obtain ⟨L1, L8, hc, hl⟩ := dmE_zero.1 hd
  obtain ⟨d1, fit⟩ := chD_zero.1 hc
  have hn := d1.1
  have r0 : RR (f 0) := d1.2 0 (by omega)
  obtain ⟨_, x0, x1⟩ := rr_size r0
  obtain ⟨b1, b2⟩ := loB_bnd (L := L) x0 l0 (by omega) L1
  obtain ⟨b3, b4⟩ := loB_bnd (L := L) (l := l + 1) x0 (by omega) (by omega) L1
  unfold rwF
  split
  · exact ⟨_, _, _, rfl, Int.le_refl 0, Int.le_refl _, Int.le_refl 1⟩
  · split
    · exact ⟨_, _, _, rfl, b1, b4, Int.le_refl 1⟩
    · split
      · exact ⟨_, _, _, rfl, l0, Int.le_refl _, L1⟩
      · rcases fit_k fit with hk | hk | hk | ⟨hk, s1, s2⟩ | hk
        · omega
        · omega
        · omega
        · have p1 : 0 ≤ l * s := Int.mul_nonneg l0 (by omega)
          have p2 : 0 ≤ (j : Int) * (L * s) := Int.mul_nonneg (by omega) (Int.mul_nonneg (by omega) (by omega))
          exact ⟨_, _, _, rfl, by omega, by omega, Int.le_refl 1⟩
        · omega
theorem cl_d0 {G G' : Nat → DE} : Cl (.row ssD 0 G) (.row ssD 0 G') := ⟨rfl, eqShs_refl _, fun i hi => absurd hi (Nat.not_lt_zero _)⟩
theorem cl_d1 {z G : Nat → DE} {v : DE} (h : G 0 = v) : Cl (.row ssD 1 (U.cat 0 z fun _ => v)) (.row ssD 1 G) := ⟨rfl, eqShs_refl _, fun i hi => by
  obtain rfl : i = 0 := by omega
  exact ((U.cat_eq _ _ _ _).trans (if_neg (by omega))).trans h.symm⟩
theorem qBlocks_ok : ConOK P 58 c_Blocks := con_force (allOKL mixed kQb_ok lQb_ok) 10 58 fun args r hh => by
  unfold c_Blocks at hh
  split at hh
  · rename_i n f k s h L l
    have d := (T.is_ask hh).1
    obtain rfl := T.is_ret (T.is_ask hh).2
    by_cases hl : lcE n f k s h L l = 0
    rotate_left
    · have e1 : blE n f k s h L l = lcE n f k s h L l := by unfold blE; rw [if_pos hl]
      have e2 : blN n f k s h L l = 0 := by unfold blN; rw [if_pos (by rw [e1]; exact hl)]
      exact ⟨_, by rw [t_Qb1]; simp only [lk_eq, e1, e2]; exact ⟨d, U.ne_t.mpr hl, cl_nil, .inl rfl, rfl⟩⟩
    by_cases hk : k = 4
    · have e1 : blE n f k s h L l = 70 := by unfold blE; rw [if_neg (by simp [hl]), if_pos hk]
      have e2 : blN n f k s h L l = 0 := by unfold blN; rw [if_pos (by rw [e1]; decide)]
      exact ⟨_, by rw [t_Qb2]; simp only [lk_eq, e1, e2]; exact ⟨d, U.ne_f.mpr hl, U.eq_t.mpr hk, cl_nil, .inl rfl, rfl⟩⟩
    have e1 : blE n f k s h L l = 0 := by unfold blE; rw [if_neg (by simp [hl]), if_neg hk]
    have e2 : blN n f k s h L l = bkN n f k s h (rwF n f k s h L l) (rwN n f k s h L l) := by unfold blN; rw [if_neg (by simp [e1])]
    obtain ⟨g1, g2, g3⟩ := lcE_zero.1 hl
    obtain ⟨hd, h5⟩ := lsE_zero.1 g1
    have ra : RwAsk n f k s h L l := ⟨hd, hk, g2, g3⟩
    obtain ⟨L1, L8, hc, _⟩ := dmE_zero.1 hd
    obtain ⟨d1, fit⟩ := chD_zero.1 hc
    have hn := d1.1
    have r0 : RR (f 0) := d1.2 0 (by omega)
    have i0 := rr_64 r0
    obtain ⟨_, x0, x1⟩ := rr_size r0
    by_cases hz : szD n f k s h = 0
    · have e3 : blN n f k s h L l = 0 := by
        rw [e2]
        refine bkL_none fun j hj => ?_
        obtain ⟨a, b, c, er, q0, q1, q2⟩ := rw_rg ra j
        rw [er]; exact bk_none hc hz q0 q1 q2
      exact ⟨_, by rw [t_Qb3]; simp only [lk_eq, e1, e3]; exact ⟨d, U.ne_f.mpr hl, U.eq_f.mpr hk, d, U.eq_t.mpr hz, cl_d0, .inl rfl, rfl⟩⟩
    have x2 : 1 ≤ szR (f 0) := by
      rcases Int.lt_or_le 0 (szR (f 0)) with w | w
      · omega
      · refine absurd ?_ hz
        rw [szD_right hc, show szR (f 0) = 0 by omega, Int.zero_mul]
    have ask0 : (0 : Int) ≤ 0 ∧ (0 : Int) < (n : Int) := ⟨by omega, by omega⟩
    have es : size (f 0).1 (f 0).2.1 (f 0).2.2.1 = szR (f 0) := rfl
    have a48 : (0 + 1) * 48 ≤ 140737488351232 := by decide
    have one : ∀ {a b c : Int}, rwN n f k s h L l = 1 → (∀ j, rwF n f k s h L l j = rgR (f 0) a b c) → 0 ≤ a → a < b → b ≤ szR (f 0) → 1 ≤ c → blN n f k s h L l = 1 ∧ blG n f k s h L l 0 = bkD n f k s h (rgR (f 0) a b c) := fun hN hF p0 p1 p2 p3 => by
      obtain ⟨y1, y2⟩ := bkL_all (n := n) (f := f) (k := k) (s := s) (h := h) (F := rwF n f k s h L l) (m := 1) fun j hj => by rw [hF j]; exact bk_pos hc hz p0 p1 p2 p3
      refine ⟨by rw [e2, hN]; exact y1, ?_⟩
      unfold blG; rw [hN]
      refine (y2 0 (by omega)).trans ?_
      rw [hF 0]
    have non : ∀ {a b c : Int}, rwN n f k s h L l = 1 → (∀ j, rwF n f k s h L l j = rgR (f 0) a b c) → b ≤ a → blN n f k s h L l = 0 := fun hN hF p0 => by
      rw [e2, hN]
      exact bkL_none fun j hj => by rw [hF j]; exact bk_zero hc p0
    rcases fit_k fit with hk0 | hk1 | hk2 | ⟨hk3, s1, s2⟩ | hk4
    · by_cases hlh : l = h
      · have hN : rwN n f k s h L l = 1 := by unfold rwN; rw [if_pos hk0, if_pos hlh]
        have hF : ∀ j, rwF n f k s h L l j = rgR (f 0) 0 (szR (f 0)) 1 := fun j => by unfold rwF; rw [if_pos hk0]
        obtain ⟨y1, y2⟩ := one hN hF (Int.le_refl 0) (by omega) (Int.le_refl _) (Int.le_refl 1)
        exact ⟨_, by
          rw [t_Qb0a]; simp only [lk_eq, e1, y1, tnO0, es]
          exact ⟨d, U.ne_f.mpr hl, U.eq_f.mpr hk, d, U.eq_f.mpr hz, ask0, i0, U.eq_t.mpr hk0, U.eq_t.mpr hlh, ⟨hn, r0, Int.le_refl 0, by omega, Int.le_refl _, Int.le_refl 1, by omega⟩, a48, cl_d1 y2, .inl rfl, rfl⟩⟩
      · have hN : rwN n f k s h L l = 0 := by unfold rwN; rw [if_pos hk0, if_neg hlh]
        have y1 : blN n f k s h L l = 0 := by rw [e2, hN]; rfl
        exact ⟨_, by
          rw [t_Qb0b]; simp only [lk_eq, e1, y1, tnO0, es]
          exact ⟨d, U.ne_f.mpr hl, U.eq_f.mpr hk, d, U.eq_f.mpr hz, ask0, i0, U.eq_t.mpr hk0, U.eq_f.mpr hlh, cl_d0, .inl rfl, rfl⟩⟩
    · have hN : rwN n f k s h L l = 1 := by unfold rwN; rw [if_neg (by omega), if_pos (.inl hk1)]
      have hF : ∀ j, rwF n f k s h L l j = rgR (f 0) (loB (szR (f 0)) L l) (loB (szR (f 0)) L (l + 1)) 1 := fun j => by unfold rwF; rw [if_neg (by omega), if_pos hk1]
      obtain ⟨b1, b2⟩ := loB_bnd (L := L) x0 g2 (by omega) L1
      obtain ⟨b3, b4⟩ := loB_bnd (L := L) (l := l + 1) x0 (by omega) (by omega) L1
      have pre : PreSa 0 L l (szR (f 0)) := ⟨rfl, L1, L8, g2, g3, x2, x1⟩
      have nx : nxtl l = l + 1 := rfl
      by_cases hw : loB (szR (f 0)) L l < loB (szR (f 0)) L (l + 1)
      · obtain ⟨y1, y2⟩ := one hN hF b1 hw b4 (Int.le_refl 1)
        exact ⟨_, by
          rw [t_Qb1a]; simp only [lk_eq, e1, y1, tnO0, es, nx]
          exact ⟨d, U.ne_f.mpr hl, U.eq_f.mpr hk, d, U.eq_f.mpr hz, ask0, i0, U.eq_f.mpr (by omega), U.eq_t.mpr hk1, ⟨pre, trivial, trivial, trivial, trivial, trivial⟩, ⟨pre, trivial, trivial, trivial, trivial, trivial, trivial, trivial⟩, U.gt_t.mpr hw, ⟨hn, r0, b1, hw, b4, Int.le_refl 1, by omega⟩, a48, cl_d1 y2, .inl rfl, rfl⟩⟩
      · have y1 := non hN hF (by omega)
        exact ⟨_, by
          rw [t_Qb1b]; simp only [lk_eq, e1, y1, tnO0, es, nx]
          exact ⟨d, U.ne_f.mpr hl, U.eq_f.mpr hk, d, U.eq_f.mpr hz, ask0, i0, U.eq_f.mpr (by omega), U.eq_t.mpr hk1, ⟨pre, trivial, trivial, trivial, trivial, trivial⟩, ⟨pre, trivial, trivial, trivial, trivial, trivial, trivial, trivial⟩, U.gt_f.mpr (by omega), cl_d0, .inl rfl, rfl⟩⟩
    · have hN : rwN n f k s h L l = 1 := by unfold rwN; rw [if_neg (by omega), if_pos (.inr hk2)]
      have hF : ∀ j, rwF n f k s h L l j = rgR (f 0) l (szR (f 0)) L := fun j => by unfold rwF; rw [if_neg (by omega), if_neg (by omega), if_pos hk2]
      by_cases hw : l < szR (f 0)
      · obtain ⟨y1, y2⟩ := one hN hF g2 hw (Int.le_refl _) L1
        exact ⟨_, by
          rw [t_Qb2a]; simp only [lk_eq, e1, y1, tnO0, es]
          exact ⟨d, U.ne_f.mpr hl, U.eq_f.mpr hk, d, U.eq_f.mpr hz, ask0, i0, U.eq_f.mpr (by omega), U.eq_f.mpr (by omega), U.eq_t.mpr hk2, U.lt_t.mpr hw, ⟨hn, r0, g2, hw, Int.le_refl _, L1, L8⟩, a48, cl_d1 y2, .inl rfl, rfl⟩⟩
      · have y1 := non hN hF (by omega)
        exact ⟨_, by
          rw [t_Qb2b]; simp only [lk_eq, e1, y1, tnO0, es]
          exact ⟨d, U.ne_f.mpr hl, U.eq_f.mpr hk, d, U.eq_f.mpr hz, ask0, i0, U.eq_f.mpr (by omega), U.eq_f.mpr (by omega), U.eq_t.mpr hk2, U.lt_f.mpr (by omega), cl_d0, .inl rfl, rfl⟩⟩
    · have hN : rwN n f k s h L l = bcN (szR (f 0)) L s l := by unfold rwN; rw [if_neg (by omega), if_neg (by omega)]
      have hF : rwF n f k s h L l = bcF (f 0) (szR (f 0)) L s l := by funext j; unfold rwF; rw [if_neg (by omega), if_neg (by omega), if_neg (by omega)]
      have m1 : l * s ≤ 8 * 1000 := Int.mul_le_mul (by omega) s2 (by omega) (by omega)
      have m0 : 0 ≤ l * s := Int.mul_nonneg g2 (by omega)
      have em : U.mul .i64 l s = l * s := U.mul64 (by unfold I64; omega)
      obtain ⟨y1, y2⟩ := bkL_all (n := n) (f := f) (k := k) (s := s) (h := h) (F := bcF (f 0) (szR (f 0)) L s l) (m := bcN (szR (f 0)) L s l) fun j hj => by
        have p2 : 0 ≤ (j : Int) * (L * s) := Int.mul_nonneg (by omega) (Int.mul_nonneg (by omega) (by omega))
        have lt := (bc_lt (x := szR (f 0)) (L := L) (l := l) s1 L1 (j := j)).2 hj
        exact bk_pos hc hz (by omega) (by omega) (by omega) (Int.le_refl 1)
      have y3 : blN n f k s h L l = bcN (szR (f 0)) L s l := by rw [e2, hF, hN]; exact y1
      have y4 : ∀ j, j < bcN (szR (f 0)) L s l → blG n f k s h L l j = qcG n f k s h (szR (f 0)) L l j := fun j hj => by
        unfold blG; rw [hF, hN]; exact y2 j hj
      exact ⟨_, by
        rw [t_Qb3a]; simp only [lk_eq, e1, y3, tnO0, es, em, loS_mul s1]
        exact ⟨d, U.ne_f.mpr hl, U.eq_f.mpr hk, d, U.eq_f.mpr hz, ask0, i0, U.eq_f.mpr (by omega), U.eq_f.mpr (by omega), U.eq_f.mpr (by omega), U.eq_t.mpr hk3, ⟨⟨rfl, hn, r0, rfl, s1, s2, g2, g3, L8, rfl⟩, trivial, trivial, trivial, trivial, trivial, trivial, trivial⟩, ⟨rfl, eqShs_refl _, fun i hi => (y4 i hi).symm⟩, .inl rfl, rfl⟩⟩
    · exact absurd hk4 hk
  · exact hh.elim
end Go.RX.Span

/- Domain maps: the reference's Counts: the loop's states. -/
set_option linter.unusedVariables false
set_option linter.unusedSimpArgs false
set_option maxRecDepth 100000
namespace Go.RX.Span
open Go Go.RX
attribute [local irreducible] sx conB

def PreQc (n0 n : Nat) (f : Nat → R3) (k s h L : Int) : Prop := n0 = 0 ∧ dmE n f k s h L = 0 ∧ szDn n f k s h ≤ 5000
noncomputable abbrev slQc (L : Int) (N : Nat) (i : Int) : List SV := [.lit (.int .i64 L), .ptr 0 0, .own false 1 N, .lit (.int .i64 i)]
noncomputable def lenOf (L : Int) : Nat := U.toNat L
noncomputable def gQc : Nat → Few → T (Ex × Few)
  | n0, ([.lit (.int .i64 L), .ptr 0 0, .own z b 0, .ki .i64 0],
      [(_, some (.cells [.row [.int .i64, .int .i64, .int .i64] n f, .lit (.int .i64 k), .lit (.int .i64 s), .lit (.int .i64 h)] t0)), (_, some (.row z' 0 [.int .i64] G t1))]) =>
    .ask (lk PreQc n0 n f k s h L ∧ z = false ∧ b = 1 ∧ z' = false ∧ t0 = 49 ∧ t1 = 3)
      (.ret (.exit 0, (slQc L (lk lenOf L) L, memQa n f k s h (lk lenOf L) (lk ctF n f k s h L))))
  | _, _ => .stuck 1
noncomputable abbrev lQc : List (Nat × Loops) := [(56, [(6, .sum (few 30 [1,2,7,8] gQc))])] --%K
end Go.RX.Span

/- Domain maps: the reference's Counts: the walks. -/
set_option linter.unusedVariables false
set_option linter.unusedSimpArgs false
set_option maxRecDepth 100000
namespace Go.RX.Span
open Go Go.RX
attribute [local irreducible] sx conB

set_option maxRecDepth 100000 in
theorem t_Qc (n : Nat) (f : Nat → R3) (k s h L : Int) (N : Nat) (G : Nat → R1) (i : Int) : (sx EQ4 [] 0 (loopOf P 56 6) (mkS 30 [1,2,7,8] (slQc L N i), memQa n f k s h N G)).bind (proj 30 [1,2,7,8]) =
    T.br (U.lt i L) (.ask (Row64 n f ∧ lk PaAsk n f k s h L) (.ask ((N + (1 : Nat)) * nat_lit 8 ≤ nat_lit 140737488351232) (.ret (Ex.normal, [.lit (.int .i64 L), SV.ptr (nat_lit 0)
      (nat_lit 0), SV.own false (nat_lit 3) (N.add (nat_lit 1)), .lit (.int .i64 (U.add .i64 i (1 : Int)))], [(nat_lit 0, some (Blk.cells [.row [.int .i64, .int .i64, .int .i64] n f, .lit
      (.int .i64 k), .lit (.int .i64 s), .lit (.int .i64 h)] (nat_lit 49))), (nat_lit 1, none), (nat_lit 0, some (Blk.cells [.lit (.int .i64 (Int.ofNat (lk plN n f k s h L i)))] (nat_lit
      3))), (nat_lit 0, some (Blk.row false (N.add (nat_lit 1)) [.int .i64] (U.cat N G fun x => (Int.ofNat (lk plN n f k s h L i), PUnit.unit)) (nat_lit 3)))])))) (.ret (Ex.exit (nat_lit
      0), [.lit (.int .i64 L), SV.ptr (nat_lit 0) (nat_lit 0), SV.own false (nat_lit 1) N, .lit (.int .i64 i)], [(nat_lit 0, some (Blk.cells [.row [.int .i64, .int .i64, .int .i64] n f,
      .lit (.int .i64 k), .lit (.int .i64 s), .lit (.int .i64 h)] (nat_lit 49))), (nat_lit 0, some (Blk.row false N [.int .i64] G (nat_lit 3)))])) := by kernel_rfl
set_option maxRecDepth 100000 in
theorem t_qCounts (n : Nat) (f : Nat → R3) (k s h L : Int) : conB Go.Proofs.Try.prog (conOf kQ4) (loopsOf lQc) 10 56 [.agg [.row [.int .i64, .int .i64, .int .i64] n f, .lit (.int .i64 k), .lit (.int .i64 s), .lit (.int .i64 h)], .lit (.int .i64 L)] =
    T.ask (Row64 n f) (.br (U.ne (lk lcE n f k s h L (0 : Int)) (0 : Int)) (.ret (.tup [.lit (.slice none (nat_lit 0) (nat_lit 0)), .lit (.int .i64 (lk lcE n f k s h L (0 : Int)))]))
      (.ask (lk PreQc (nat_lit 0) n f k s h L ∧ false = false ∧ (1 : Nat) = (1 : Nat) ∧ false = false ∧ (49 : Nat) = (49 : TypeId) ∧ (3 : Nat) = (3 : TypeId)) (.ret (.tup [.row [.int
      .i64] (lk lenOf L) (lk ctF n f k s h L), .lit (.int .i64 0)])))) := by kernel_rfl
end Go.RX.Span

/- Domains: Subtract's loops: the states. -/
set_option linter.unusedVariables false
set_option linter.unusedSimpArgs false
set_option maxRecDepth 100000
namespace Go.RX.Span
open Go Go.RX
attribute [local irreducible] sx conB

end Go.RX.Span

/- Domains: Subtract of the program: the walk. -/
set_option linter.unusedVariables false
set_option linter.unusedSimpArgs false
set_option maxRecDepth 100000
namespace Go.RX.Span
open Go Go.RX
attribute [local irreducible] sx conB

--%R ofList\s+\[ => ofList (ss := [.int .i64, .int .i64, .int .i64]) [
--%R ↑n ≤ ↑n => (n : Int) ≤ (n : Int)
theorem tnj (j : Nat) : U.toNat (j : Int) = j := tn j
theorem rowL {n : Nat} {f g : Nat → DE} (h : ∀ i, i < n → f i = g i) : sameRow n f g := ⟨eqShs_refl _, fun i hi => h i hi⟩
end Go.RX.Span

/- Domains: Subtract of the program: what it returns. -/
set_option linter.unusedVariables false
set_option linter.unusedSimpArgs false
set_option maxRecDepth 100000
namespace Go.RX.Span
open Go Go.RX
attribute [local irreducible] sx conB

section
variable (n : Nat) (f : Nat → R3) (k s h : Int) (m : Nat) (g : Nat → R3) (k' s' h' : Int)
end
section
variable {n : Nat} {f : Nat → R3} {k s h : Int} {m : Nat} {g : Nat → R3} {k' s' h' : Int}
end
end Go.RX.Span

/- Lists of domains compared: EqualFunc with Equal. -/
set_option linter.unusedVariables false
set_option linter.unusedSimpArgs false
set_option maxRecDepth 100000
namespace Go.RX.Span
open Go Go.RX
attribute [local irreducible] sx conB

def SameD (n : Nat) (F G : Nat → DE) : Prop := n ≤ 100000 ∧ ∀ i, i < n → F i = G i ∧ (F i).1.1 ≤ 100000
noncomputable def c_EqF : Con := fun args => match args with
  | [.row ss n F, .row ss' m G, .fn (.func 60) [] []] =>
    if e : eqShs ss ssD = true ∧ eqShs ss' ssD = true then .ask (n = m ∧ SameD n (castEls e.1 F) (castEls e.2 G)) (.ret (.lit (.bool true))) else .stuck 2
  | _ => .stuck 1
structure XFx where
  (n : Nat) (F G : Nat → DE) (j : Nat)
noncomputable abbrev slF (n : Nat) (F G : Nat → DE) (j : Int) : List SV := [.row ssD n G, .fn (.func 60) [] [], .row ssD n F, .lit (.int .i64 (n : Int)), .lit (.int .i64 j)]
noncomputable def VFx (q : XFx) : Few := (slF q.n q.F q.G (q.j : Int), [])
noncomputable def OFx (q : XFx) : Ex × Few := (.exit 0, ([.any, .any, .any, .any, .any], []))
def PhiFx (n0 : Nat) (q : XFx) : Prop := n0 = 0 ∧ SameD q.n q.F q.G ∧ q.j ≤ q.n
noncomputable def gFx : Nat → Few → T (Ex × Few)
  | n0, ([.row ss m G, .fn (.func 60) [] [], .row ss' n F, .lit (.int .i64 l), .ki .i64 (.ofNat 0)], []) =>
    if e : eqShs ss ssD = true ∧ eqShs ss' ssD = true then .ask (n0 = 0 ∧ n = m ∧ l = Int.ofNat n ∧ SameD n (castEls e.2 F) (castEls e.1 G)) (.ret (.exit 0, ([.any, .any, .any, .any, .any], []))) else .stuck 2
  | _, _ => .stuck 1
noncomputable abbrev lF : List (Nat × Loops) := [(59, [(4, .sum (few 32 [1,2,15,16,17] gFx))])]
noncomputable abbrev Ef : Env := ⟨P, conOf d11, scall P (conOf d11) noLoops 10⟩
theorem Ef_ok : EnvOK Ef := envOK (allOK mixed d11_ok) 10
end Go.RX.Span

/- Lists of domains compared: the walk. -/
set_option linter.unusedVariables false
set_option linter.unusedSimpArgs false
set_option maxRecDepth 100000
namespace Go.RX.Span
open Go Go.RX
attribute [local irreducible] sx conB

--%R \(castEls \(c_EqF\S+ ssD ssD ⟨rfl, rfl⟩\) ([FG])\) => \1
set_option maxRecDepth 100000 in
theorem t_EF (n0 n : Nat) (F G : Nat → DE) (j : Int) : (sx Ef [] n0 (loopOf P 59 4) (mkS 32 [1,2,15,16,17] (slF n F G j), [])).bind (proj 32 [1,2,15,16,17]) =
    T.br (U.lt j (Int.ofNat n)) (.ask ((0 : Int) ≤ j ∧ j < ↑n) (.ask ((0 : Int) ≤ j ∧ j < ↑n) (.ask ((F (U.toNat j)).fst.1 ≤ nat_lit 9223372036854775807) (.br (U.not (lk eqD (F (U.toNat
      j)).fst.1 (F (U.toNat j)).fst.2 (F (U.toNat j)).2.1 (F (U.toNat j)).2.2.1 (F (U.toNat j)).2.2.2.1 (G (U.toNat j)).fst.1 (G (U.toNat j)).fst.2 (G (U.toNat j)).2.1 (G (U.toNat
      j)).2.2.1 (G (U.toNat j)).2.2.2.1)) (.ret (Ex.ret, [.row [.sl [.int .i64, .int .i64, .int .i64], .int .i64, .int .i64, .int .i64] n G, SV.fn (Fn.func (nat_lit 60)) [] [], .row [.sl
      [.int .i64, .int .i64, .int .i64], .int .i64, .int .i64, .int .i64] n F, .lit (.int .i64 (Int.ofNat n)), .lit (.int .i64 j)], [(nat_lit 1, some (Blk.cells [.row [.int .i64, .int
      .i64, .int .i64] (F (U.toNat j)).fst.1 (F (U.toNat j)).fst.2, .lit (.int .i64 (F (U.toNat j)).2.1), .lit (.int .i64 (F (U.toNat j)).2.2.1), .lit (.int .i64 (F (U.toNat j)).2.2.2.1)]
      (nat_lit 49))), (nat_lit 1, some (Blk.cells [.row [.int .i64, .int .i64, .int .i64] (G (U.toNat j)).fst.1 (G (U.toNat j)).fst.2, .lit (.int .i64 (G (U.toNat j)).2.1), .lit (.int
      .i64 (G (U.toNat j)).2.2.1), .lit (.int .i64 (G (U.toNat j)).2.2.2.1)] (nat_lit 49)))])) (.ret (Ex.normal, [.row [.sl [.int .i64, .int .i64, .int .i64], .int .i64, .int .i64, .int
      .i64] n G, SV.fn (Fn.func (nat_lit 60)) [] [], .row [.sl [.int .i64, .int .i64, .int .i64], .int .i64, .int .i64, .int .i64] n F, .lit (.int .i64 (Int.ofNat n)), .lit (.int .i64
      (U.add .i64 j (1 : Int)))], [(nat_lit 1, some (Blk.cells [.row [.int .i64, .int .i64, .int .i64] (F (U.toNat j)).fst.1 (F (U.toNat j)).fst.2, .lit (.int .i64 (F (U.toNat j)).2.1),
      .lit (.int .i64 (F (U.toNat j)).2.2.1), .lit (.int .i64 (F (U.toNat j)).2.2.2.1)] (nat_lit 49))), (nat_lit 1, some (Blk.cells [.row [.int .i64, .int .i64, .int .i64] (G (U.toNat
      j)).fst.1 (G (U.toNat j)).fst.2, .lit (.int .i64 (G (U.toNat j)).2.1), .lit (.int .i64 (G (U.toNat j)).2.2.1), .lit (.int .i64 (G (U.toNat j)).2.2.2.1)] (nat_lit 49)))])))))) (.ret
      (Ex.exit (nat_lit 0), [.row [.sl [.int .i64, .int .i64, .int .i64], .int .i64, .int .i64, .int .i64] n G, SV.fn (Fn.func (nat_lit 60)) [] [], .row [.sl [.int .i64, .int .i64, .int
      .i64], .int .i64, .int .i64, .int .i64] n F, .lit (.int .i64 (Int.ofNat n)), .lit (.int .i64 j)], [])) := by kernel_rfl
set_option maxRecDepth 100000 in
theorem t_EqF (n : Nat) (F : Nat → DE) (m : Nat) (G : Nat → DE) : conB Go.Proofs.Try.prog (conOf d11) (loopsOf lF) 10 59 [.row ssD n F, .row ssD m G, .fn (.func 60) [] []] =
    T.br (U.ne (Int.ofNat n) (Int.ofNat m)) (.ret (.lit (.bool false))) (.ask (nat_lit 0 = (0 : Nat) ∧ n = m ∧ ↑n = Int.ofNat n ∧ SameD n F G) (.ret (.lit (.bool true)))) := by kernel_rfl
theorem roundFx (n0 : Nat) (q : XFx) (hq : PhiFx n0 q) : ((sx Ef [] n0 (loopOf P 59 4) (mkS 32 [1,2,15,16,17] (VFx q).1, (VFx q).2)).bind (proj 32 [1,2,15,16,17])).All fun r => match r.1 with
      | .normal => ∃ q', PhiFx n0 q' ∧ q'.n - q'.j < q.n - q.j ∧ Wk 32 [1,2,15,16,17] n0 r.2 (VFx q') ∧ ∀ o, o = OFx q' → o = OFx q
      | e => ∃ s, (e, s) = OFx q ∧ Wk 32 [1,2,15,16,17] n0 r.2 s := by
  obtain ⟨n, F, G, j⟩ := q
  obtain ⟨h0, ⟨hn, hF⟩, hj⟩ := hq
  simp only [] at h0 hn hF hj
  subst h0
  show ((sx Ef [] 0 (loopOf P 59 4) (mkS 32 [1,2,15,16,17] (slF n F G (j : Int)), [])).bind (proj 32 [1,2,15,16,17])).All _
  rw [t_EF]
  have e2 : U.add .i64 (j : Int) 1 = ((j + 1 : Nat) : Int) := by rw [U.add64 (by unfold I64; omega)]; omega
  simp only [tnj, e2]
  by_cases hlt : j < n
  · obtain ⟨e1, e2⟩ := hF j hlt
    have eq1 : eqD (F j).1.1 (F j).1.2 (F j).2.1 (F j).2.2.1 (F j).2.2.2.1 (G j).1.1 (G j).1.2 (G j).2.1 (G j).2.2.1 (G j).2.2.2.1 = true := by rw [← e1]; exact eqD_self _ _ _ _ _
    refine ⟨fun _ => ⟨⟨by omega, by omega⟩, ⟨by omega, by omega⟩, Nat.le_trans e2 (by omega), fun hh => ?_, fun _ => ?_⟩, fun h => absurd (U.lt_f.mp h) (by simp only [Int.ofNat_eq_natCast]; omega)⟩
    · rw [lk_eq] at hh
      have h1 := U.not_t.mp hh
      exact absurd (h1.symm.trans eq1) (by decide)
    · refine ⟨⟨n, F, G, j + 1⟩, ⟨rfl, ⟨hn, hF⟩, by simp only []; omega⟩, by simp only []; omega, ?_, fun o ho => ho⟩
      exact wk_of [] rfl (Nat.zero_le _) (fun b hb => by omega) ⟨⟨rfl, rowL fun i hi => rfl⟩, ⟨rfl, trivial, trivial⟩, ⟨rfl, rowL fun i hi => rfl⟩, rfl, rfl, trivial⟩ trivial
  · obtain rfl : j = n := by omega
    refine ⟨fun h => absurd (U.lt_t.mp h) (by simp only [Int.ofNat_eq_natCast]; omega), fun _ => ⟨_, rfl, ?_⟩⟩
    exact wk_of [] rfl (Nat.zero_le _) (fun b hb => by omega) ⟨trivial, trivial, trivial, trivial, trivial, trivial⟩ trivial
theorem loopFx : LoopOK P (loopOf P 59 4) (few 32 [1,2,15,16,17] gFx) :=
  loop_few (E := Ef) mixed Ef_ok loopsOK_none 32 [1,2,15,16,17] (X := XFx) gFx (fun _ x => VFx x) PhiFx (fun q => q.n - q.j) (fun _ x o => o = OFx x)
    (fun n0 st r h => by
      unfold gFx at h
      split at h
      · rename_i n0 ss m G ss' n F l
        by_cases e : eqShs ss ssD = true ∧ eqShs ss' ssD = true
        rotate_left
        · rw [dif_neg e] at h; exact h.elim
        rw [dif_pos e] at h
        obtain ⟨ea, eb⟩ := e
        have es := eqShs_eq _ _ ea
        subst es
        have es := eqShs_eq _ _ eb
        subst es
        obtain ⟨h0, hn, hl, hs⟩ := (T.is_ask h).1
        obtain rfl := T.is_ret (T.is_ask h).2
        subst h0; subst hn; subst hl
        refine ⟨⟨n, F, G, 0⟩, ⟨rfl, hs, Nat.zero_le _⟩, ?_, fun o ho => ho⟩
        exact wk_of [] rfl (Nat.zero_le _) (fun b hb => by omega) ⟨⟨rfl, rowL fun i hi => rfl⟩, ⟨rfl, trivial, trivial⟩, ⟨rfl, rowL fun i hi => rfl⟩, rfl, rfl, trivial⟩ trivial
      · exact h.elim)
    roundFx
theorem lF_ok : ∀ p ∈ lF, LoopsOK P p.2 (bodyOf P p.1) := by
  intro p hp
  simp only [lF, List.mem_singleton] at hp
  subst hp
  refine loopsOK_of (by kernel_rfl) fun k g hk => ?_
  simp only [List.mem_singleton, Prod.mk.injEq, LoopC.sum.injEq] at hk
  obtain ⟨rfl, rfl⟩ := hk
  exact loopFx
theorem EqF_ok : ConOK P 59 c_EqF := con_of (allOKL mixed d11_ok lF_ok) 10 59 fun args r h => by
  unfold c_EqF at h
  split at h
  · rename_i ss n F ss' m G
    by_cases e : eqShs ss ssD = true ∧ eqShs ss' ssD = true
    rotate_left
    · rw [dif_neg e] at h; exact h.elim
    rw [dif_pos e] at h
    obtain ⟨ea, eb⟩ := e
    have es := eqShs_eq _ _ ea
    subst es
    have es := eqShs_eq _ _ eb
    subst es
    obtain ⟨hn, hs⟩ := (T.is_ask h).1
    obtain rfl := T.is_ret (T.is_ask h).2
    subst hn
    rw [t_EqF]
    exact ⟨fun h => absurd rfl (U.ne_t.mp h), fun _ => ⟨⟨rfl, rfl, rfl, hs⟩, rfl⟩⟩
  · exact h.elim
end Go.RX.Span

/- Domain maps: the reference's Counts; the law of parts: what it calls. -/
set_option linter.unusedVariables false
set_option linter.unusedSimpArgs false
set_option maxRecDepth 100000
namespace Go.RX.Span
open Go Go.RX
attribute [local irreducible] sx conB

structure XQc where
  (n : Nat) (f : Nat → R3) (k s h L : Int) (j : Nat)
noncomputable abbrev VQc (q : XQc) : Few := (slQc q.L q.j (q.j : Int), memQa q.n q.f q.k q.s q.h q.j (ctF q.n q.f q.k q.s q.h q.L))
noncomputable def OQc (q : XQc) : Ex × Few := (.exit 0, (slQc q.L (lenOf q.L) q.L, memQa q.n q.f q.k q.s q.h (lenOf q.L) (ctF q.n q.f q.k q.s q.h q.L)))
def PhiQc (n0 : Nat) (q : XQc) : Prop := PreQc n0 q.n q.f q.k q.s q.h q.L ∧ (q.j : Int) ≤ q.L
theorem slQc_rl {ρ : Ren} {b b' : Nat} {L : Int} {N N' : Nat} {i i' : Int} (h0 : ρ.of 0 = some 0) (hb : ρ.of b' = some b) (hN : N = N') (hi : i = i') :
    RlL ρ [.lit (.int .i64 L), .ptr 0 0, .own false b N, .lit (.int .i64 i)] [.lit (.int .i64 L), .ptr 0 0, .own false b' N', .lit (.int .i64 i')] := by
  subst hN hi
  exact ⟨rfl, ⟨h0, rfl⟩, ⟨rfl, rfl, hb⟩, rfl, trivial⟩
theorem roundQc (n0 : Nat) (q : XQc) (hq : PhiQc n0 q) : ((sx EQ4 [] n0 (loopOf P 56 6) (mkS 30 [1,2,7,8] (VQc q).1, (VQc q).2)).bind (proj 30 [1,2,7,8])).All fun r => match r.1 with
      | .normal => ∃ q', PhiQc n0 q' ∧ q'.L.toNat - q'.j < q.L.toNat - q.j ∧ Wk 30 [1,2,7,8] n0 r.2 (VQc q') ∧ ∀ o, o = OQc q' → o = OQc q
      | e => ∃ s, (e, s) = OQc q ∧ Wk 30 [1,2,7,8] n0 r.2 s := by
  obtain ⟨n, f, k, s, h, L, j⟩ := q
  obtain ⟨⟨h0, hd, h5⟩, hj⟩ := hq
  have hj : (j : Int) ≤ L := hj
  have h0 : n0 = 0 := h0
  simp only [] at hd h5
  subst h0
  have d := dr_64 (chD_zero.1 (dmE_zero.1 hd).2.2.1).1
  have l8 := (dmE_zero.1 hd).2.1
  refine T.all_of_eq (t_Qc n f k s h L j (ctF n f k s h L) (j : Int)) ?_
  have e2 := add1p (j := j) (by omega)
  by_cases hlt : (j : Int) < L
  · simp only [e2, lk_eq]
    refine ⟨fun _ => ⟨⟨d, hd, h5⟩, ?_, ⟨n, f, k, s, h, L, j + 1⟩, ⟨⟨rfl, hd, h5⟩, (show ((j + 1 : Nat) : Int) ≤ L by omega)⟩, (show L.toNat - (j + 1) < L.toNat - j by omega), ?_, fun o ho => ho⟩, fun g => absurd (U.lt_f.mp g) (by omega)⟩
    · show (j + 1) * 8 ≤ 140737488351232
      omega
    · refine wk_of [some 0, some 3] rfl (Nat.zero_le _) (ren1z _) (slQc_rl rfl rfl rfl rfl) ⟨⟨rfl, ⟨rfl, sameR fun _ _ => rfl⟩, rfl, rfl, rfl, trivial⟩, ⟨rfl, rfl, rfl, row1H fun t ht => ?_⟩, trivial⟩
      have ht : t < j + 1 := ht
      refine (U.cat_eq _ _ _ _).trans ?_
      by_cases h' : t < j
      · exact if_pos h'
      · obtain rfl : t = j := by omega
        exact if_neg h'
  · have ej : (j : Int) = L := by omega
    have en : j = lenOf L := by unfold lenOf; rw [← ej, tnH]
    refine ⟨fun g => absurd (U.lt_t.mp g) (by omega), fun _ => ⟨_, rfl, ?_⟩⟩
    exact wk_of [some 0, some 1] rfl (Nat.zero_le _) (ren1z _) (slQc_rl rfl rfl en ej) ⟨⟨rfl, ⟨rfl, sameR fun _ _ => rfl⟩, rfl, rfl, rfl, trivial⟩, ⟨rfl, rfl, en, row1H fun t ht => rfl⟩, trivial⟩
theorem loopQc : LoopOK P (loopOf P 56 6) (few 30 [1,2,7,8] gQc) :=
  loop_few (E := EQ4) mixed EQ4_ok loopsOK_none 30 [1,2,7,8] (X := XQc) gQc (fun _ x => VQc x) PhiQc (fun q => q.L.toNat - q.j) (fun _ x o => o = OQc x)
    (fun n0 st r hh => by
      unfold gQc at hh
      split at hh
      · rename_i n0 L z b g0 n f k s h t0 g1 z' G t1
        obtain ⟨hp, rfl, rfl, rfl, rfl, rfl⟩ := (T.is_ask hh).1
        obtain rfl := T.is_ret (T.is_ask hh).2
        rw [lk_eq] at hp
        have h0 := hp.1
        subst h0
        have l0 := (dmE_zero.1 hp.2.1).1
        refine ⟨⟨n, f, k, s, h, L, 0⟩, ⟨hp, (show ((0 : Nat) : Int) ≤ L by omega)⟩, wk_of [some 0, some 1] rfl (Nat.zero_le _) (ren1z _) (slQc_rl rfl rfl rfl rfl) ⟨⟨rfl, ⟨rfl, sameR fun _ _ => rfl⟩, rfl, rfl, rfl, trivial⟩, ⟨rfl, rfl, rfl, row1H fun t ht => absurd ht (Nat.not_lt_zero _)⟩, trivial⟩, fun o ho => ?_⟩
        rw [ho]
        simp only [lk_eq]; rfl
      · exact hh.elim)
    roundQc
theorem lQc_ok : ∀ p ∈ lQc, LoopsOK P p.2 (bodyOf P p.1) := by
  intro p hp
  simp only [lQc, List.mem_singleton] at hp
  subst hp
  refine loopsOK_of (by kernel_rfl) fun k g hk => ?_
  simp only [List.mem_singleton, Prod.mk.injEq, LoopC.sum.injEq] at hk
  obtain ⟨rfl, rfl⟩ := hk
  exact loopQc
theorem qCounts_ok : ConOK P 56 c_Counts := con_cl (allOKL mixed kQ4_ok lQc_ok) 10 56 fun args r hh => by
  unfold c_Counts at hh
  split at hh
  · rename_i n f k s h L
    have d := (T.is_ask hh).1
    obtain rfl := T.is_ret (T.is_ask hh).2
    refine T.all_of_eq (t_qCounts n f k s h L) ?_
    simp only [lk_eq, lc0]
    refine ⟨d, fun g => ?_, fun g => ?_⟩
    · have g := U.ne_t.mp g
      have e : ctN n f k s h L = 0 := by unfold ctN; rw [if_pos g]
      rw [e]
      exact ⟨cl_nil, .inl rfl, rfl⟩
    · have g := U.ne_f.mp g
      have e : ctN n f k s h L = U.toNat L := by unfold ctN; rw [if_neg (by simp [g])]
      obtain ⟨hd, h5⟩ := pa_ask g
      rw [e]
      exact ⟨⟨⟨rfl, hd, h5⟩, trivial, trivial, trivial, trivial, trivial⟩, ⟨rfl, row1H fun i hi => rfl⟩, .inl (congrArg (fun v => SV.lit (.int .i64 v)) g), rfl⟩
  · exact hh.elim
noncomputable abbrev kLr : List (Nat × Con) := [(39, c_Few), (42, c_true), (47, c_Part), (55, c_Part), (30, c_Equal), (43, c_Counts), (56, c_Counts), (57, c_Blocks), (58, c_Blocks), (59, c_EqF)] --%K
theorem kLr_ok : ∀ p ∈ kLr, ConOK P p.1 p.2 := by
  intro p hp
  simp only [kLr, List.mem_cons, List.not_mem_nil, or_false] at hp
  rcases hp with rfl | rfl | rfl | rfl | rfl | rfl | rfl | rfl | rfl | rfl
  · exact Few_ok
  · exact awake5_ok
  · exact Part_ok
  · exact qPart_ok
  · exact Equal_ok
  · exact Counts_ok
  · exact qCounts_ok
  · exact Blocks_ok
  · exact qBlocks_ok
  · exact EqF_ok
end Go.RX.Span

/- Domain maps: the law of parts returns true. -/
set_option linter.unusedVariables false
set_option linter.unusedSimpArgs false
set_option maxRecDepth 100000
namespace Go.RX.Span
open Go Go.RX
attribute [local irreducible] sx conB

theorem bkG_len {n : Nat} {f : Nat → R3} {k s h : Int} {F : Nat → R3} : ∀ {m : Nat} {j : Nat}, j < bkN n f k s h F m → (bkG n f k s h F m j).1.1 = 1 + (n - 1)
  | 0, j, hj => absurd hj (Nat.not_lt_zero _)
  | m + 1, j, hj => by
    by_cases g : 0 < szE (bkD n f k s h (F m))
    · obtain ⟨y1, y2⟩ := bkL_yes g
      rw [y1] at hj
      have e : bkG n f k s h F (m + 1) j = if j < bkN n f k s h F m then bkG n f k s h F m j else bkD n f k s h (F m) := (congrFun y2 j).trans (U.cat_eq _ _ _ _)
      rw [e]
      by_cases h' : j < bkN n f k s h F m
      · rw [if_pos h']; exact bkG_len h'
      · rw [if_neg h']; rfl
    · obtain ⟨y1, y2⟩ := bkL_no g
      rw [y1] at hj
      rw [y2]; exact bkG_len hj
theorem same_d {n : Nat} {f : Nat → R3} {k s h L l : Int} (h1 : fewB n f k s h 300 = true) : SameD (blN n f k s h L l) (blG n f k s h L l) (blG n f k s h L l) := by
  have hf : n ≤ 10 ∧ (szD n f k s h ≤ 300 ∨ 5000 < szD n f k s h) := of_decide_eq_true h1
  by_cases hE : blE n f k s h L l = 0
  rotate_left
  · have e : blN n f k s h L l = 0 := by unfold blN; rw [if_pos hE]
    rw [e]; exact ⟨by omega, fun i hi => absurd hi (Nat.not_lt_zero _)⟩
  have e2 : blN n f k s h L l = bkN n f k s h (rwF n f k s h L l) (rwN n f k s h L l) := by unfold blN; rw [if_neg (by simp [hE])]
  have hl : lcE n f k s h L l = 0 := by
    by_cases w : lcE n f k s h L l = 0
    · exact w
    · unfold blE at hE; rw [if_pos w] at hE; exact absurd hE w
  have hk : k ≠ 4 := fun w => by
    unfold blE at hE; rw [if_neg (by simp [hl]), if_pos w] at hE; omega
  obtain ⟨g1, g2, g3⟩ := lcE_zero.1 hl
  obtain ⟨hd, h5⟩ := lsE_zero.1 g1
  have ra : RwAsk n f k s h L l := ⟨hd, hk, g2, g3⟩
  obtain ⟨L1, L8, hc, _⟩ := dmE_zero.1 hd
  obtain ⟨d1, fit⟩ := chD_zero.1 hc
  have hn := d1.1
  have r0 : RR (f 0) := d1.2 0 (by omega)
  obtain ⟨_, x0, x1⟩ := rr_size r0
  have hlen : ∀ i, i < blN n f k s h L l → blG n f k s h L l i = blG n f k s h L l i ∧ (blG n f k s h L l i).1.1 ≤ 100000 := fun i hi => by
    rw [e2] at hi
    have := bkG_len hi
    refine ⟨rfl, ?_⟩
    show (bkG n f k s h (rwF n f k s h L l) (rwN n f k s h L l) i).1.1 ≤ 100000
    omega
  refine ⟨?_, hlen⟩
  by_cases hz : szD n f k s h = 0
  · have e3 : blN n f k s h L l = 0 := by
      rw [e2]
      refine bkL_none fun j hj => ?_
      obtain ⟨a, b, c, er, q0, q1, q2⟩ := rw_rg ra j
      rw [er]; exact bk_none hc hz q0 q1 q2
    omega
  · have cp := (dr_col d1).1
    have cn : colD n f ≠ 0 := fun w => hz (by rw [szD_right hc, w, Int.mul_zero])
    have hx : szR (f 0) ≤ 300 := by
      have e := szD_right hc
      have := Int.mul_le_mul_of_nonneg_left (show 1 ≤ colD n f by omega) x0
      omega
    have hb := bkN_le n f k s h (rwF n f k s h L l) (rwN n f k s h L l)
    have hr : rwN n f k s h L l ≤ 1000 := by
      unfold rwN
      split
      · split <;> omega
      · split
        · omega
        · rcases fit_k fit with hk | hk | hk | ⟨hk, s1, s2⟩ | hk
          · omega
          · omega
          · omega
          · have b1 : 0 ≤ l * s := Int.mul_nonneg g2 (by omega)
            unfold bcN
            by_cases h' : szR (f 0) ≤ l * s
            · rw [if_pos h']; omega
            · rw [if_neg h']
              have := Int.ediv_le_self (L * s) (show 0 ≤ szR (f 0) - 1 - l * s by omega)
              omega
          · omega
    omega
section
variable (n : Nat) (f : Nat → R3) (k s h L l : Int)
noncomputable def wLr (b : List Bool) : T SV := (conB P (conOf kLr) noLoops 10 8 [.agg [.row [.int .i64, .int .i64, .int .i64] n f, .lit (.int .i64 k), .lit (.int .i64 s), .lit (.int .i64 h)], .lit (.int .i64 L), .lit (.int .i64 l)]).force b
theorem t_Lr1 : wLr n f k s h L l [true] = .ask (Row64 n f) (.ask (U.not (lk fewB n f k s h 300) = true) (.ret (.lit (.bool true)))) := by kernel_rfl
theorem t_Lr2 : wLr n f k s h L l [false, false, false, true, true, true, true] = .ask (Row64 n f) (.ask (U.not (lk fewB n f k s h 300) = false) (.ask (Row64 n f) (.ask (Row64 n f) (.ask (lk ptN n f k s h L l ≤ 9223372036854775807)
    (.ask (U.not (lk eqR (lk ptN n f k s h L l) (lk ptF n f k s h L l) (lk ptN n f k s h L l) (lk ptF n f k s h L l)) = false) (.ask (U.ne (lk ptE n f k s h L l) (lk ptE n f k s h L l) = false)
    (.ask (Row64 n f) (.ask (Row64 n f) (.ask (Row64 n f) (.ask (Row64 n f) (.ask (lk ctN n f k s h L ≤ 9223372036854775807)
    (.ask (lk eqR (lk ctN n f k s h L) (lk ctF n f k s h L) (lk ctN n f k s h L) (lk ctF n f k s h L) = true) (.ask (U.eq (lk lsE n f k s h L) (lk lsE n f k s h L) = true)
    (.ask (lk blN n f k s h L l = lk blN n f k s h L l ∧ SameD (lk blN n f k s h L l) (lk blG n f k s h L l) (lk blG n f k s h L l)) (.ask (true = true) (.ask (U.eq (lk blE n f k s h L l) (lk blE n f k s h L l) = true) (.ret (.lit (.bool true))))))))))))))))))) := by kernel_rfl
end
noncomputable def c_DmapParts : Con := fun args => match args with
  | [.agg [.row [.int .i64, .int .i64, .int .i64] n f, .lit (.int .i64 k), .lit (.int .i64 s), .lit (.int .i64 h)], .lit (.int .i64 L), .lit (.int .i64 l)] => .ask (Row64 n f) (.ret (.lit (.bool true)))
  | _ => .stuck 1
theorem DmapParts_ok : ConOK P 8 c_DmapParts := con_force (allOK mixed kLr_ok) 10 8 fun args r hh => by
  unfold c_DmapParts at hh
  split at hh
  · rename_i n f k s h L l
    have d := (T.is_ask hh).1
    obtain rfl := T.is_ret (T.is_ask hh).2
    show ∃ b, (wLr n f k s h L l b).All fun v => Cl v (.lit (.bool true))
    by_cases h1 : fewB n f k s h 300 = true
    rotate_left
    · exact ⟨_, by rw [t_Lr1]; simp only [lk_eq]; exact ⟨d, U.not_t.mpr (by simpa using h1), .inl rfl⟩⟩
    have p1 : ptN n f k s h L l ≤ 9223372036854775807 := by
      unfold ptN
      split
      · omega
      · rename_i w
        have w : lcE n f k s h L l = 0 := by simpa using w
        have pa := (pa_ask (lcE_zero.1 w).1).2
        exact Nat.le_trans (partL_len _) (by omega)
    have p2 : ctN n f k s h L ≤ 9223372036854775807 := by
      unfold ctN
      split
      · omega
      · rename_i w
        have w : lsE n f k s h L = 0 := by simpa using w
        have := (dmE_zero.1 (lsE_zero.1 w).1).2.1
        rw [U.toNat_eq]; omega
    exact ⟨_, by
      rw [t_Lr2]; simp only [lk_eq]
      exact ⟨d, U.not_f.mpr h1, d, d, p1, U.not_f.mpr (eqR_self _ _), U.ne_f.mpr rfl, d, d, d, d, p2, eqR_self _ _, U.eq_t.mpr rfl, ⟨trivial, same_d h1⟩, trivial, U.eq_t.mpr rfl, .inl rfl⟩⟩
  · exact hh.elim
end Go.RX.Span

