/- The law of moves: the walk. -/
import Derived.Test.YtoncmmlgpecklaaPHg
import Derived.Test.YtoncmmlgpecklaaPHe
import Derived.Test.YtoncmmlgpecklaaPHb
set_option linter.unusedVariables false
set_option linter.unusedSimpArgs false
set_option maxRecDepth 100000
namespace Go.RX.Span
open Go Go.RX
attribute [local irreducible] sx conB

noncomputable abbrev kM : List (Nat × Con) := (35, c_sorted) :: (32, c_EqM) :: (30, c_Equal) :: (22, c_Intersect) :: (24, c_Within) :: (38, c_Hull) :: (26, c_numbers) :: (20, c_small) :: k9 --%K
--%R ↑\(lk\s+szN\s+a\s+b\s+c\) => ((lk szN a b c : Nat) : Int)
set_option maxRecDepth 100000 in
theorem t_SMa (a b c n : Int) : (conB Go.Proofs.Try.prog (conOf kM) noLoops 10 4 [.agg [.lit (.int .i64 a), .lit (.int .i64 b), .lit (.int .i64 c)], .lit (.int .i64 n)]).force [true] =
    T.ask (I64 a ∧ I64 b ∧ I64 c) (.ask (U.not (lk smallB a b c) = true) (.ret (.lit (.bool true)))) := by kernel_rfl
set_option maxRecDepth 100000 in
theorem t_SMb (a b c n : Int) : (conB Go.Proofs.Try.prog (conOf kM) noLoops 10 4 [.agg [.lit (.int .i64 a), .lit (.int .i64 b), .lit (.int .i64 c)], .lit (.int .i64 n)]).force [false, true] =
    T.ask (I64 a ∧ I64 b ∧ I64 c) (.ask (U.not (lk smallB a b c) = false) (.ask (U.lt n (0 : Int) = true) (.ret (.lit (.bool true))))) := by kernel_rfl
set_option maxRecDepth 100000 in
theorem t_SMc (a b c n : Int) : (conB Go.Proofs.Try.prog (conOf kM) noLoops 10 4 [.agg [.lit (.int .i64 a), .lit (.int .i64 b), .lit (.int .i64 c)], .lit (.int .i64 n)]).force [false, false, true] =
    T.ask (I64 a ∧ I64 b ∧ I64 c) (.ask (U.not (lk smallB a b c) = false) (.ask (U.lt n (0 : Int) = false) (.ask (U.gt n (400 : Int) = true) (.ret (.lit (.bool true)))))) := by kernel_rfl
set_option maxRecDepth 100000 in
theorem t_SMd (a b c n : Int) : (conB Go.Proofs.Try.prog (conOf kM) noLoops 10 4 [.agg [.lit (.int .i64 a), .lit (.int .i64 b), .lit (.int .i64 c)], .lit (.int .i64 n)]).force [false, false, false, true] =
    T.ask (I64 a ∧ I64 b ∧ I64 c) (.ask (U.not (lk smallB a b c) = false) (.ask (U.lt n (0 : Int) = false) (.ask (U.gt n (400 : Int) = false) (.ask (I64 a ∧ I64 b ∧ I64 c) (.ask (U.eq
      (lk size a b c) (0 : Int) = true) (.ret (.lit (.bool true)))))))) := by kernel_rfl
set_option maxRecDepth 100000 in
theorem t_SM0000 (a b c n : Int) : (conB Go.Proofs.Try.prog (conOf kM) noLoops 10 4 [.agg [.lit (.int .i64 a), .lit (.int .i64 b), .lit (.int .i64 c)], .lit (.int .i64 n)]).force [false, false, false, false, false, false, false, false, false, false] =
    T.ask (I64 a ∧ I64 b ∧ I64 c) (.ask (U.not (lk smallB a b c) = false) (.ask (U.lt n (0 : Int) = false) (.ask (U.gt n (400 : Int) = false) (.ask (I64 a ∧ I64 b ∧ I64 c) (.ask (U.eq
      (lk size a b c) (0 : Int) = false) (.ask (I64 a ∧ I64 b ∧ I64 c ∧ (0 : Int) ≤ (401 : Int) ∧ (401 : Int) ≤ (1000000 : Int)) (.ask (I64 a ∧ I64 b ∧ I64 c ∧ I64 n) (.ask (U.eq (lk trE
      a b c n) (0 : Int) = false) (.ask (I64 a ∧ I64 b ∧ I64 c ∧ I64 n) (.ask (U.eq (lk exE a b c n) (0 : Int) = false) (.ask (I64 a ∧ I64 b ∧ I64 c ∧ I64 n) (.ask (U.eq (lk inE a b c n)
      (0 : Int) = false) (.ask (U.ne (lk inE a b c n) (5 : Int) = false) (.ask (U.le n (Int.ofNat (lk numsN a b c (401 : Int))) = false) (.ask (I64 a ∧ I64 b ∧ I64 c ∧ I64 n) (.ask (U.eq
      (lk xtE a b c n) (0 : Int) = false) (.ret (.lit (.bool true))))))))))))))))))) := by kernel_rfl
set_option maxRecDepth 100000 in
theorem t_SM0001 (a b c n : Int) : (conB Go.Proofs.Try.prog (conOf kM) noLoops 10 4 [.agg [.lit (.int .i64 a), .lit (.int .i64 b), .lit (.int .i64 c)], .lit (.int .i64 n)]).force [false, false, false, false, false, false, false, false, false, true, false, false, false, false, false] =
    T.ask (I64 a ∧ I64 b ∧ I64 c) (.ask (U.not (lk smallB a b c) = false) (.ask (U.lt n (0 : Int) = false) (.ask (U.gt n (400 : Int) = false) (.ask (I64 a ∧ I64 b ∧ I64 c) (.ask (U.eq
      (lk size a b c) (0 : Int) = false) (.ask (I64 a ∧ I64 b ∧ I64 c ∧ (0 : Int) ≤ (401 : Int) ∧ (401 : Int) ≤ (1000000 : Int)) (.ask (I64 a ∧ I64 b ∧ I64 c ∧ I64 n) (.ask (U.eq (lk trE
      a b c n) (0 : Int) = false) (.ask (I64 a ∧ I64 b ∧ I64 c ∧ I64 n) (.ask (U.eq (lk exE a b c n) (0 : Int) = false) (.ask (I64 a ∧ I64 b ∧ I64 c ∧ I64 n) (.ask (U.eq (lk inE a b c n)
      (0 : Int) = false) (.ask (U.ne (lk inE a b c n) (5 : Int) = false) (.ask (U.le n (Int.ofNat (lk numsN a b c (401 : Int))) = false) (.ask (I64 a ∧ I64 b ∧ I64 c ∧ I64 n) (.ask (U.eq
      (lk xtE a b c n) (0 : Int) = true) (.ask (I64 (lk xtLow a b c n) ∧ I64 (lk xtHigh a b c n) ∧ I64 (lk xtStr a b c n) ∧ I64 a ∧ I64 b ∧ I64 c) (.ask (I64 (lk xtLow a b c n) ∧ I64 (lk
      xtHigh a b c n) ∧ I64 (lk xtStr a b c n) ∧ I64 a ∧ I64 b ∧ I64 c) (.ask (U.ne (lk isEr (lk xtLow a b c n) (lk xtHigh a b c n) (lk xtStr a b c n) a b c) (0 : Int) = false) (.ask
      (U.ne (lk hlE (lk xtLow a b c n) (lk xtHigh a b c n) (lk xtStr a b c n) a b c) (0 : Int) = false) (.ask (I64 (lk isL (lk xtLow a b c n) (lk xtHigh a b c n) (lk xtStr a b c n) a b c)
      ∧ I64 (lk isH (lk xtLow a b c n) (lk xtHigh a b c n) (lk xtStr a b c n) a b c) ∧ I64 (lk isS (lk xtLow a b c n) (lk xtHigh a b c n) (lk xtStr a b c n) a b c)) (.ask (U.ne (lk size
      (lk isL (lk xtLow a b c n) (lk xtHigh a b c n) (lk xtStr a b c n) a b c) (lk isH (lk xtLow a b c n) (lk xtHigh a b c n) (lk xtStr a b c n) a b c) (lk isS (lk xtLow a b c n) (lk
      xtHigh a b c n) (lk xtStr a b c n) a b c)) (0 : Int) = false) (.ask (I64 (lk xtLow a b c n) ∧ I64 (lk xtHigh a b c n) ∧ I64 (lk xtStr a b c n)) (.ask (U.ne (lk size (lk xtLow a b c
      n) (lk xtHigh a b c n) (lk xtStr a b c n)) n = false) (.ask (I64 (lk hlL (lk xtLow a b c n) (lk xtHigh a b c n) (lk xtStr a b c n) a b c) ∧ I64 (lk hlH (lk xtLow a b c n) (lk xtHigh
      a b c n) (lk xtStr a b c n) a b c) ∧ I64 (lk hlS (lk xtLow a b c n) (lk xtHigh a b c n) (lk xtStr a b c n) a b c)) (.ask (U.ne (lk size (lk hlL (lk xtLow a b c n) (lk xtHigh a b c
      n) (lk xtStr a b c n) a b c) (lk hlH (lk xtLow a b c n) (lk xtHigh a b c n) (lk xtStr a b c n) a b c) (lk hlS (lk xtLow a b c n) (lk xtHigh a b c n) (lk xtStr a b c n) a b c))
      (U.add .i64 n (Int.ofNat (lk numsN a b c (401 : Int)))) = false) (.ret (.lit (.bool true))))))))))))))))))))))))))))) := by kernel_rfl
set_option maxRecDepth 100000 in
theorem t_SM0010 (a b c n : Int) : (conB Go.Proofs.Try.prog (conOf kM) noLoops 10 4 [.agg [.lit (.int .i64 a), .lit (.int .i64 b), .lit (.int .i64 c)], .lit (.int .i64 n)]).force [false, false, false, false, false, false, true, false, false, false] =
    T.ask (I64 a ∧ I64 b ∧ I64 c) (.ask (U.not (lk smallB a b c) = false) (.ask (U.lt n (0 : Int) = false) (.ask (U.gt n (400 : Int) = false) (.ask (I64 a ∧ I64 b ∧ I64 c) (.ask (U.eq
      (lk size a b c) (0 : Int) = false) (.ask (I64 a ∧ I64 b ∧ I64 c ∧ (0 : Int) ≤ (401 : Int) ∧ (401 : Int) ≤ (1000000 : Int)) (.ask (I64 a ∧ I64 b ∧ I64 c ∧ I64 n) (.ask (U.eq (lk trE
      a b c n) (0 : Int) = false) (.ask (I64 a ∧ I64 b ∧ I64 c ∧ I64 n) (.ask (U.eq (lk exE a b c n) (0 : Int) = false) (.ask (I64 a ∧ I64 b ∧ I64 c ∧ I64 n) (.ask (U.eq (lk inE a b c n)
      (0 : Int) = true) (.ask (I64 a ∧ I64 b ∧ I64 c ∧ lk szN a b c ≤ (401 : Nat)) (.ask (U.gt n (Int.ofNat (lk szN a b c)) = false) (.ask (I64 (lk inLow a b c n) ∧ I64 (lk inHigh a b c
      n) ∧ I64 (lk inStr a b c n) ∧ lk szN (lk inLow a b c n) (lk inHigh a b c n) (lk inStr a b c n) ≤ (401 : Nat)) (.ask ((0 : Int) ≤ U.sub .i64 (Int.ofNat (lk szN a b c)) n ∧ U.sub .i64
      (Int.ofNat (lk szN a b c)) n ≤ ((lk szN a b c : Nat) : Int) ∧ ((lk szN a b c : Nat) : Int) ≤ ((lk szN a b c : Nat) : Int)) (.ask (lk szN (lk inLow a b c n) (lk inHigh a b c n) (lk
      inStr a b c n) ≤ nat_lit 9223372036854775807) (.ask (U.not (lk eqR (lk szN (lk inLow a b c n) (lk inHigh a b c n) (lk inStr a b c n)) (lk srtN (lk inLow a b c n) (lk inHigh a b c n)
      (lk inStr a b c n)) (U.nsub (lk szN a b c) (U.toNat (U.sub .i64 (Int.ofNat (lk szN a b c)) n))) fun i => lk srtN a b c (i + U.toNat (U.sub .i64 (Int.ofNat (lk szN a b c)) n))) =
      false) (.ask (I64 a ∧ I64 b ∧ I64 c ∧ I64 n) (.ask (U.eq (lk xtE a b c n) (0 : Int) = false) (.ret (.lit (.bool true))))))))))))))))))))))) := by kernel_rfl
set_option maxRecDepth 100000 in
theorem t_SM0011 (a b c n : Int) : (conB Go.Proofs.Try.prog (conOf kM) noLoops 10 4 [.agg [.lit (.int .i64 a), .lit (.int .i64 b), .lit (.int .i64 c)], .lit (.int .i64 n)]).force [false, false, false, false, false, false, true, false, false, true, false, false, false, false, false] =
    T.ask (I64 a ∧ I64 b ∧ I64 c) (.ask (U.not (lk smallB a b c) = false) (.ask (U.lt n (0 : Int) = false) (.ask (U.gt n (400 : Int) = false) (.ask (I64 a ∧ I64 b ∧ I64 c) (.ask (U.eq
      (lk size a b c) (0 : Int) = false) (.ask (I64 a ∧ I64 b ∧ I64 c ∧ (0 : Int) ≤ (401 : Int) ∧ (401 : Int) ≤ (1000000 : Int)) (.ask (I64 a ∧ I64 b ∧ I64 c ∧ I64 n) (.ask (U.eq (lk trE
      a b c n) (0 : Int) = false) (.ask (I64 a ∧ I64 b ∧ I64 c ∧ I64 n) (.ask (U.eq (lk exE a b c n) (0 : Int) = false) (.ask (I64 a ∧ I64 b ∧ I64 c ∧ I64 n) (.ask (U.eq (lk inE a b c n)
      (0 : Int) = true) (.ask (I64 a ∧ I64 b ∧ I64 c ∧ lk szN a b c ≤ (401 : Nat)) (.ask (U.gt n (Int.ofNat (lk szN a b c)) = false) (.ask (I64 (lk inLow a b c n) ∧ I64 (lk inHigh a b c
      n) ∧ I64 (lk inStr a b c n) ∧ lk szN (lk inLow a b c n) (lk inHigh a b c n) (lk inStr a b c n) ≤ (401 : Nat)) (.ask ((0 : Int) ≤ U.sub .i64 (Int.ofNat (lk szN a b c)) n ∧ U.sub .i64
      (Int.ofNat (lk szN a b c)) n ≤ ((lk szN a b c : Nat) : Int) ∧ ((lk szN a b c : Nat) : Int) ≤ ((lk szN a b c : Nat) : Int)) (.ask (lk szN (lk inLow a b c n) (lk inHigh a b c n) (lk
      inStr a b c n) ≤ nat_lit 9223372036854775807) (.ask (U.not (lk eqR (lk szN (lk inLow a b c n) (lk inHigh a b c n) (lk inStr a b c n)) (lk srtN (lk inLow a b c n) (lk inHigh a b c n)
      (lk inStr a b c n)) (U.nsub (lk szN a b c) (U.toNat (U.sub .i64 (Int.ofNat (lk szN a b c)) n))) fun i => lk srtN a b c (i + U.toNat (U.sub .i64 (Int.ofNat (lk szN a b c)) n))) =
      false) (.ask (I64 a ∧ I64 b ∧ I64 c ∧ I64 n) (.ask (U.eq (lk xtE a b c n) (0 : Int) = true) (.ask (I64 (lk xtLow a b c n) ∧ I64 (lk xtHigh a b c n) ∧ I64 (lk xtStr a b c n) ∧ I64 a
      ∧ I64 b ∧ I64 c) (.ask (I64 (lk xtLow a b c n) ∧ I64 (lk xtHigh a b c n) ∧ I64 (lk xtStr a b c n) ∧ I64 a ∧ I64 b ∧ I64 c) (.ask (U.ne (lk isEr (lk xtLow a b c n) (lk xtHigh a b c
      n) (lk xtStr a b c n) a b c) (0 : Int) = false) (.ask (U.ne (lk hlE (lk xtLow a b c n) (lk xtHigh a b c n) (lk xtStr a b c n) a b c) (0 : Int) = false) (.ask (I64 (lk isL (lk xtLow
      a b c n) (lk xtHigh a b c n) (lk xtStr a b c n) a b c) ∧ I64 (lk isH (lk xtLow a b c n) (lk xtHigh a b c n) (lk xtStr a b c n) a b c) ∧ I64 (lk isS (lk xtLow a b c n) (lk xtHigh a b
      c n) (lk xtStr a b c n) a b c)) (.ask (U.ne (lk size (lk isL (lk xtLow a b c n) (lk xtHigh a b c n) (lk xtStr a b c n) a b c) (lk isH (lk xtLow a b c n) (lk xtHigh a b c n) (lk
      xtStr a b c n) a b c) (lk isS (lk xtLow a b c n) (lk xtHigh a b c n) (lk xtStr a b c n) a b c)) (0 : Int) = false) (.ask (I64 (lk xtLow a b c n) ∧ I64 (lk xtHigh a b c n) ∧ I64 (lk
      xtStr a b c n)) (.ask (U.ne (lk size (lk xtLow a b c n) (lk xtHigh a b c n) (lk xtStr a b c n)) n = false) (.ask (I64 (lk hlL (lk xtLow a b c n) (lk xtHigh a b c n) (lk xtStr a b c
      n) a b c) ∧ I64 (lk hlH (lk xtLow a b c n) (lk xtHigh a b c n) (lk xtStr a b c n) a b c) ∧ I64 (lk hlS (lk xtLow a b c n) (lk xtHigh a b c n) (lk xtStr a b c n) a b c)) (.ask (U.ne
      (lk size (lk hlL (lk xtLow a b c n) (lk xtHigh a b c n) (lk xtStr a b c n) a b c) (lk hlH (lk xtLow a b c n) (lk xtHigh a b c n) (lk xtStr a b c n) a b c) (lk hlS (lk xtLow a b c n)
      (lk xtHigh a b c n) (lk xtStr a b c n) a b c)) (U.add .i64 n (Int.ofNat (lk numsN a b c (401 : Int)))) = false) (.ret (.lit (.bool true))))))))))))))))))))))))))))))))) := by kernel_rfl
set_option maxRecDepth 100000 in
theorem t_SM0100 (a b c n : Int) : (conB Go.Proofs.Try.prog (conOf kM) noLoops 10 4 [.agg [.lit (.int .i64 a), .lit (.int .i64 b), .lit (.int .i64 c)], .lit (.int .i64 n)]).force [false, false, false, false, false, true, false, false, false, false, false, false, false, false, false] =
    T.ask (I64 a ∧ I64 b ∧ I64 c) (.ask (U.not (lk smallB a b c) = false) (.ask (U.lt n (0 : Int) = false) (.ask (U.gt n (400 : Int) = false) (.ask (I64 a ∧ I64 b ∧ I64 c) (.ask (U.eq
      (lk size a b c) (0 : Int) = false) (.ask (I64 a ∧ I64 b ∧ I64 c ∧ (0 : Int) ≤ (401 : Int) ∧ (401 : Int) ≤ (1000000 : Int)) (.ask (I64 a ∧ I64 b ∧ I64 c ∧ I64 n) (.ask (U.eq (lk trE
      a b c n) (0 : Int) = false) (.ask (I64 a ∧ I64 b ∧ I64 c ∧ I64 n) (.ask (U.eq (lk exE a b c n) (0 : Int) = true) (.ask (I64 (lk exLow a b c n) ∧ I64 (lk exHigh a b c n) ∧ I64 (lk
      exStr a b c n) ∧ I64 (U.sub .i64 0 n)) (.ask (U.ne (lk exE (lk exLow a b c n) (lk exHigh a b c n) (lk exStr a b c n) (U.sub .i64 0 n)) (0 : Int) = false) (.ask (I64 (lk exLow (lk
      exLow a b c n) (lk exHigh a b c n) (lk exStr a b c n) (U.sub .i64 0 n)) ∧ I64 (lk exHigh (lk exLow a b c n) (lk exHigh a b c n) (lk exStr a b c n) (U.sub .i64 0 n)) ∧ I64 (lk exStr
      (lk exLow a b c n) (lk exHigh a b c n) (lk exStr a b c n) (U.sub .i64 0 n)) ∧ lk szN (lk exLow (lk exLow a b c n) (lk exHigh a b c n) (lk exStr a b c n) (U.sub .i64 0 n)) (lk exHigh
      (lk exLow a b c n) (lk exHigh a b c n) (lk exStr a b c n) (U.sub .i64 0 n)) (lk exStr (lk exLow a b c n) (lk exHigh a b c n) (lk exStr a b c n) (U.sub .i64 0 n)) ≤ (401 : Nat))
      (.ask (I64 a ∧ I64 b ∧ I64 c ∧ lk szN a b c ≤ (401 : Nat)) (.ask (lk szN (lk exLow (lk exLow a b c n) (lk exHigh a b c n) (lk exStr a b c n) (U.sub .i64 0 n)) (lk exHigh (lk exLow a
      b c n) (lk exHigh a b c n) (lk exStr a b c n) (U.sub .i64 0 n)) (lk exStr (lk exLow a b c n) (lk exHigh a b c n) (lk exStr a b c n) (U.sub .i64 0 n)) ≤ nat_lit 9223372036854775807)
      (.ask (U.not (lk eqR (lk szN (lk exLow (lk exLow a b c n) (lk exHigh a b c n) (lk exStr a b c n) (U.sub .i64 0 n)) (lk exHigh (lk exLow a b c n) (lk exHigh a b c n) (lk exStr a b c
      n) (U.sub .i64 0 n)) (lk exStr (lk exLow a b c n) (lk exHigh a b c n) (lk exStr a b c n) (U.sub .i64 0 n))) (lk srtN (lk exLow (lk exLow a b c n) (lk exHigh a b c n) (lk exStr a b c
      n) (U.sub .i64 0 n)) (lk exHigh (lk exLow a b c n) (lk exHigh a b c n) (lk exStr a b c n) (U.sub .i64 0 n)) (lk exStr (lk exLow a b c n) (lk exHigh a b c n) (lk exStr a b c n)
      (U.sub .i64 0 n))) (lk szN a b c) (lk srtN a b c)) = false) (.ask (I64 (lk exLow a b c n) ∧ I64 (lk exHigh a b c n) ∧ I64 (lk exStr a b c n)) (.ask (U.ne (lk size (lk exLow a b c n)
      (lk exHigh a b c n) (lk exStr a b c n)) (U.add .i64 (Int.ofNat (lk numsN a b c (401 : Int))) (U.mul .i64 2 n)) = false) (.ask (I64 a ∧ I64 b ∧ I64 c ∧ I64 (lk exLow a b c n) ∧ I64
      (lk exHigh a b c n) ∧ I64 (lk exStr a b c n)) (.ask (U.ne (lk ckd a b c (lk exLow a b c n) (lk exHigh a b c n) (lk exStr a b c n)) (0 : Int) = false) (.ask (U.not (lk wiB a b c (lk
      exLow a b c n) (lk exHigh a b c n) (lk exStr a b c n)) = false) (.ask (I64 a ∧ I64 b ∧ I64 c ∧ I64 n) (.ask (U.eq (lk inE a b c n) (0 : Int) = false) (.ask (U.ne (lk inE a b c n) (5
      : Int) = false) (.ask (U.le n (Int.ofNat (lk numsN a b c (401 : Int))) = false) (.ask (I64 a ∧ I64 b ∧ I64 c ∧ I64 n) (.ask (U.eq (lk xtE a b c n) (0 : Int) = false) (.ret (.lit
      (.bool true)))))))))))))))))))))))))))))) := by kernel_rfl
set_option maxRecDepth 100000 in
theorem t_SM0101 (a b c n : Int) : (conB Go.Proofs.Try.prog (conOf kM) noLoops 10 4 [.agg [.lit (.int .i64 a), .lit (.int .i64 b), .lit (.int .i64 c)], .lit (.int .i64 n)]).force [false, false, false, false, false, true, false, false, false, false, false, false, false, false, true, false, false, false, false, false] =
    T.ask (I64 a ∧ I64 b ∧ I64 c) (.ask (U.not (lk smallB a b c) = false) (.ask (U.lt n (0 : Int) = false) (.ask (U.gt n (400 : Int) = false) (.ask (I64 a ∧ I64 b ∧ I64 c) (.ask (U.eq
      (lk size a b c) (0 : Int) = false) (.ask (I64 a ∧ I64 b ∧ I64 c ∧ (0 : Int) ≤ (401 : Int) ∧ (401 : Int) ≤ (1000000 : Int)) (.ask (I64 a ∧ I64 b ∧ I64 c ∧ I64 n) (.ask (U.eq (lk trE
      a b c n) (0 : Int) = false) (.ask (I64 a ∧ I64 b ∧ I64 c ∧ I64 n) (.ask (U.eq (lk exE a b c n) (0 : Int) = true) (.ask (I64 (lk exLow a b c n) ∧ I64 (lk exHigh a b c n) ∧ I64 (lk
      exStr a b c n) ∧ I64 (U.sub .i64 0 n)) (.ask (U.ne (lk exE (lk exLow a b c n) (lk exHigh a b c n) (lk exStr a b c n) (U.sub .i64 0 n)) (0 : Int) = false) (.ask (I64 (lk exLow (lk
      exLow a b c n) (lk exHigh a b c n) (lk exStr a b c n) (U.sub .i64 0 n)) ∧ I64 (lk exHigh (lk exLow a b c n) (lk exHigh a b c n) (lk exStr a b c n) (U.sub .i64 0 n)) ∧ I64 (lk exStr
      (lk exLow a b c n) (lk exHigh a b c n) (lk exStr a b c n) (U.sub .i64 0 n)) ∧ lk szN (lk exLow (lk exLow a b c n) (lk exHigh a b c n) (lk exStr a b c n) (U.sub .i64 0 n)) (lk exHigh
      (lk exLow a b c n) (lk exHigh a b c n) (lk exStr a b c n) (U.sub .i64 0 n)) (lk exStr (lk exLow a b c n) (lk exHigh a b c n) (lk exStr a b c n) (U.sub .i64 0 n)) ≤ (401 : Nat))
      (.ask (I64 a ∧ I64 b ∧ I64 c ∧ lk szN a b c ≤ (401 : Nat)) (.ask (lk szN (lk exLow (lk exLow a b c n) (lk exHigh a b c n) (lk exStr a b c n) (U.sub .i64 0 n)) (lk exHigh (lk exLow a
      b c n) (lk exHigh a b c n) (lk exStr a b c n) (U.sub .i64 0 n)) (lk exStr (lk exLow a b c n) (lk exHigh a b c n) (lk exStr a b c n) (U.sub .i64 0 n)) ≤ nat_lit 9223372036854775807)
      (.ask (U.not (lk eqR (lk szN (lk exLow (lk exLow a b c n) (lk exHigh a b c n) (lk exStr a b c n) (U.sub .i64 0 n)) (lk exHigh (lk exLow a b c n) (lk exHigh a b c n) (lk exStr a b c
      n) (U.sub .i64 0 n)) (lk exStr (lk exLow a b c n) (lk exHigh a b c n) (lk exStr a b c n) (U.sub .i64 0 n))) (lk srtN (lk exLow (lk exLow a b c n) (lk exHigh a b c n) (lk exStr a b c
      n) (U.sub .i64 0 n)) (lk exHigh (lk exLow a b c n) (lk exHigh a b c n) (lk exStr a b c n) (U.sub .i64 0 n)) (lk exStr (lk exLow a b c n) (lk exHigh a b c n) (lk exStr a b c n)
      (U.sub .i64 0 n))) (lk szN a b c) (lk srtN a b c)) = false) (.ask (I64 (lk exLow a b c n) ∧ I64 (lk exHigh a b c n) ∧ I64 (lk exStr a b c n)) (.ask (U.ne (lk size (lk exLow a b c n)
      (lk exHigh a b c n) (lk exStr a b c n)) (U.add .i64 (Int.ofNat (lk numsN a b c (401 : Int))) (U.mul .i64 2 n)) = false) (.ask (I64 a ∧ I64 b ∧ I64 c ∧ I64 (lk exLow a b c n) ∧ I64
      (lk exHigh a b c n) ∧ I64 (lk exStr a b c n)) (.ask (U.ne (lk ckd a b c (lk exLow a b c n) (lk exHigh a b c n) (lk exStr a b c n)) (0 : Int) = false) (.ask (U.not (lk wiB a b c (lk
      exLow a b c n) (lk exHigh a b c n) (lk exStr a b c n)) = false) (.ask (I64 a ∧ I64 b ∧ I64 c ∧ I64 n) (.ask (U.eq (lk inE a b c n) (0 : Int) = false) (.ask (U.ne (lk inE a b c n) (5
      : Int) = false) (.ask (U.le n (Int.ofNat (lk numsN a b c (401 : Int))) = false) (.ask (I64 a ∧ I64 b ∧ I64 c ∧ I64 n) (.ask (U.eq (lk xtE a b c n) (0 : Int) = true) (.ask (I64 (lk
      xtLow a b c n) ∧ I64 (lk xtHigh a b c n) ∧ I64 (lk xtStr a b c n) ∧ I64 a ∧ I64 b ∧ I64 c) (.ask (I64 (lk xtLow a b c n) ∧ I64 (lk xtHigh a b c n) ∧ I64 (lk xtStr a b c n) ∧ I64 a ∧
      I64 b ∧ I64 c) (.ask (U.ne (lk isEr (lk xtLow a b c n) (lk xtHigh a b c n) (lk xtStr a b c n) a b c) (0 : Int) = false) (.ask (U.ne (lk hlE (lk xtLow a b c n) (lk xtHigh a b c n)
      (lk xtStr a b c n) a b c) (0 : Int) = false) (.ask (I64 (lk isL (lk xtLow a b c n) (lk xtHigh a b c n) (lk xtStr a b c n) a b c) ∧ I64 (lk isH (lk xtLow a b c n) (lk xtHigh a b c n)
      (lk xtStr a b c n) a b c) ∧ I64 (lk isS (lk xtLow a b c n) (lk xtHigh a b c n) (lk xtStr a b c n) a b c)) (.ask (U.ne (lk size (lk isL (lk xtLow a b c n) (lk xtHigh a b c n) (lk
      xtStr a b c n) a b c) (lk isH (lk xtLow a b c n) (lk xtHigh a b c n) (lk xtStr a b c n) a b c) (lk isS (lk xtLow a b c n) (lk xtHigh a b c n) (lk xtStr a b c n) a b c)) (0 : Int) =
      false) (.ask (I64 (lk xtLow a b c n) ∧ I64 (lk xtHigh a b c n) ∧ I64 (lk xtStr a b c n)) (.ask (U.ne (lk size (lk xtLow a b c n) (lk xtHigh a b c n) (lk xtStr a b c n)) n = false)
      (.ask (I64 (lk hlL (lk xtLow a b c n) (lk xtHigh a b c n) (lk xtStr a b c n) a b c) ∧ I64 (lk hlH (lk xtLow a b c n) (lk xtHigh a b c n) (lk xtStr a b c n) a b c) ∧ I64 (lk hlS (lk
      xtLow a b c n) (lk xtHigh a b c n) (lk xtStr a b c n) a b c)) (.ask (U.ne (lk size (lk hlL (lk xtLow a b c n) (lk xtHigh a b c n) (lk xtStr a b c n) a b c) (lk hlH (lk xtLow a b c
      n) (lk xtHigh a b c n) (lk xtStr a b c n) a b c) (lk hlS (lk xtLow a b c n) (lk xtHigh a b c n) (lk xtStr a b c n) a b c)) (U.add .i64 n (Int.ofNat (lk numsN a b c (401 : Int)))) =
      false) (.ret (.lit (.bool true)))))))))))))))))))))))))))))))))))))))) := by kernel_rfl
set_option maxRecDepth 100000 in
theorem t_SM0110 (a b c n : Int) : (conB Go.Proofs.Try.prog (conOf kM) noLoops 10 4 [.agg [.lit (.int .i64 a), .lit (.int .i64 b), .lit (.int .i64 c)], .lit (.int .i64 n)]).force [false, false, false, false, false, true, false, false, false, false, false, true, false, false, false] =
    T.ask (I64 a ∧ I64 b ∧ I64 c) (.ask (U.not (lk smallB a b c) = false) (.ask (U.lt n (0 : Int) = false) (.ask (U.gt n (400 : Int) = false) (.ask (I64 a ∧ I64 b ∧ I64 c) (.ask (U.eq
      (lk size a b c) (0 : Int) = false) (.ask (I64 a ∧ I64 b ∧ I64 c ∧ (0 : Int) ≤ (401 : Int) ∧ (401 : Int) ≤ (1000000 : Int)) (.ask (I64 a ∧ I64 b ∧ I64 c ∧ I64 n) (.ask (U.eq (lk trE
      a b c n) (0 : Int) = false) (.ask (I64 a ∧ I64 b ∧ I64 c ∧ I64 n) (.ask (U.eq (lk exE a b c n) (0 : Int) = true) (.ask (I64 (lk exLow a b c n) ∧ I64 (lk exHigh a b c n) ∧ I64 (lk
      exStr a b c n) ∧ I64 (U.sub .i64 0 n)) (.ask (U.ne (lk exE (lk exLow a b c n) (lk exHigh a b c n) (lk exStr a b c n) (U.sub .i64 0 n)) (0 : Int) = false) (.ask (I64 (lk exLow (lk
      exLow a b c n) (lk exHigh a b c n) (lk exStr a b c n) (U.sub .i64 0 n)) ∧ I64 (lk exHigh (lk exLow a b c n) (lk exHigh a b c n) (lk exStr a b c n) (U.sub .i64 0 n)) ∧ I64 (lk exStr
      (lk exLow a b c n) (lk exHigh a b c n) (lk exStr a b c n) (U.sub .i64 0 n)) ∧ lk szN (lk exLow (lk exLow a b c n) (lk exHigh a b c n) (lk exStr a b c n) (U.sub .i64 0 n)) (lk exHigh
      (lk exLow a b c n) (lk exHigh a b c n) (lk exStr a b c n) (U.sub .i64 0 n)) (lk exStr (lk exLow a b c n) (lk exHigh a b c n) (lk exStr a b c n) (U.sub .i64 0 n)) ≤ (401 : Nat))
      (.ask (I64 a ∧ I64 b ∧ I64 c ∧ lk szN a b c ≤ (401 : Nat)) (.ask (lk szN (lk exLow (lk exLow a b c n) (lk exHigh a b c n) (lk exStr a b c n) (U.sub .i64 0 n)) (lk exHigh (lk exLow a
      b c n) (lk exHigh a b c n) (lk exStr a b c n) (U.sub .i64 0 n)) (lk exStr (lk exLow a b c n) (lk exHigh a b c n) (lk exStr a b c n) (U.sub .i64 0 n)) ≤ nat_lit 9223372036854775807)
      (.ask (U.not (lk eqR (lk szN (lk exLow (lk exLow a b c n) (lk exHigh a b c n) (lk exStr a b c n) (U.sub .i64 0 n)) (lk exHigh (lk exLow a b c n) (lk exHigh a b c n) (lk exStr a b c
      n) (U.sub .i64 0 n)) (lk exStr (lk exLow a b c n) (lk exHigh a b c n) (lk exStr a b c n) (U.sub .i64 0 n))) (lk srtN (lk exLow (lk exLow a b c n) (lk exHigh a b c n) (lk exStr a b c
      n) (U.sub .i64 0 n)) (lk exHigh (lk exLow a b c n) (lk exHigh a b c n) (lk exStr a b c n) (U.sub .i64 0 n)) (lk exStr (lk exLow a b c n) (lk exHigh a b c n) (lk exStr a b c n)
      (U.sub .i64 0 n))) (lk szN a b c) (lk srtN a b c)) = false) (.ask (I64 (lk exLow a b c n) ∧ I64 (lk exHigh a b c n) ∧ I64 (lk exStr a b c n)) (.ask (U.ne (lk size (lk exLow a b c n)
      (lk exHigh a b c n) (lk exStr a b c n)) (U.add .i64 (Int.ofNat (lk numsN a b c (401 : Int))) (U.mul .i64 2 n)) = false) (.ask (I64 a ∧ I64 b ∧ I64 c ∧ I64 (lk exLow a b c n) ∧ I64
      (lk exHigh a b c n) ∧ I64 (lk exStr a b c n)) (.ask (U.ne (lk ckd a b c (lk exLow a b c n) (lk exHigh a b c n) (lk exStr a b c n)) (0 : Int) = false) (.ask (U.not (lk wiB a b c (lk
      exLow a b c n) (lk exHigh a b c n) (lk exStr a b c n)) = false) (.ask (I64 a ∧ I64 b ∧ I64 c ∧ I64 n) (.ask (U.eq (lk inE a b c n) (0 : Int) = true) (.ask (I64 a ∧ I64 b ∧ I64 c ∧
      lk szN a b c ≤ (401 : Nat)) (.ask (U.gt n (Int.ofNat (lk szN a b c)) = false) (.ask (I64 (lk inLow a b c n) ∧ I64 (lk inHigh a b c n) ∧ I64 (lk inStr a b c n) ∧ lk szN (lk inLow a b
      c n) (lk inHigh a b c n) (lk inStr a b c n) ≤ (401 : Nat)) (.ask ((0 : Int) ≤ U.sub .i64 (Int.ofNat (lk szN a b c)) n ∧ U.sub .i64 (Int.ofNat (lk szN a b c)) n ≤ ((lk szN a b c :
      Nat) : Int) ∧ ((lk szN a b c : Nat) : Int) ≤ ((lk szN a b c : Nat) : Int)) (.ask (lk szN (lk inLow a b c n) (lk inHigh a b c n) (lk inStr a b c n) ≤ nat_lit 9223372036854775807)
      (.ask (U.not (lk eqR (lk szN (lk inLow a b c n) (lk inHigh a b c n) (lk inStr a b c n)) (lk srtN (lk inLow a b c n) (lk inHigh a b c n) (lk inStr a b c n)) (U.nsub (lk szN a b c)
      (U.toNat (U.sub .i64 (Int.ofNat (lk szN a b c)) n))) fun i => lk srtN a b c (i + U.toNat (U.sub .i64 (Int.ofNat (lk szN a b c)) n))) = false) (.ask (I64 a ∧ I64 b ∧ I64 c ∧ I64 n)
      (.ask (U.eq (lk xtE a b c n) (0 : Int) = false) (.ret (.lit (.bool true)))))))))))))))))))))))))))))))))) := by kernel_rfl
set_option maxRecDepth 100000 in
theorem t_SM0111 (a b c n : Int) : (conB Go.Proofs.Try.prog (conOf kM) noLoops 10 4 [.agg [.lit (.int .i64 a), .lit (.int .i64 b), .lit (.int .i64 c)], .lit (.int .i64 n)]).force [false, false, false, false, false, true, false, false, false, false, false, true, false, false, true, false, false, false, false, false] =
    T.ask (I64 a ∧ I64 b ∧ I64 c) (.ask (U.not (lk smallB a b c) = false) (.ask (U.lt n (0 : Int) = false) (.ask (U.gt n (400 : Int) = false) (.ask (I64 a ∧ I64 b ∧ I64 c) (.ask (U.eq
      (lk size a b c) (0 : Int) = false) (.ask (I64 a ∧ I64 b ∧ I64 c ∧ (0 : Int) ≤ (401 : Int) ∧ (401 : Int) ≤ (1000000 : Int)) (.ask (I64 a ∧ I64 b ∧ I64 c ∧ I64 n) (.ask (U.eq (lk trE
      a b c n) (0 : Int) = false) (.ask (I64 a ∧ I64 b ∧ I64 c ∧ I64 n) (.ask (U.eq (lk exE a b c n) (0 : Int) = true) (.ask (I64 (lk exLow a b c n) ∧ I64 (lk exHigh a b c n) ∧ I64 (lk
      exStr a b c n) ∧ I64 (U.sub .i64 0 n)) (.ask (U.ne (lk exE (lk exLow a b c n) (lk exHigh a b c n) (lk exStr a b c n) (U.sub .i64 0 n)) (0 : Int) = false) (.ask (I64 (lk exLow (lk
      exLow a b c n) (lk exHigh a b c n) (lk exStr a b c n) (U.sub .i64 0 n)) ∧ I64 (lk exHigh (lk exLow a b c n) (lk exHigh a b c n) (lk exStr a b c n) (U.sub .i64 0 n)) ∧ I64 (lk exStr
      (lk exLow a b c n) (lk exHigh a b c n) (lk exStr a b c n) (U.sub .i64 0 n)) ∧ lk szN (lk exLow (lk exLow a b c n) (lk exHigh a b c n) (lk exStr a b c n) (U.sub .i64 0 n)) (lk exHigh
      (lk exLow a b c n) (lk exHigh a b c n) (lk exStr a b c n) (U.sub .i64 0 n)) (lk exStr (lk exLow a b c n) (lk exHigh a b c n) (lk exStr a b c n) (U.sub .i64 0 n)) ≤ (401 : Nat))
      (.ask (I64 a ∧ I64 b ∧ I64 c ∧ lk szN a b c ≤ (401 : Nat)) (.ask (lk szN (lk exLow (lk exLow a b c n) (lk exHigh a b c n) (lk exStr a b c n) (U.sub .i64 0 n)) (lk exHigh (lk exLow a
      b c n) (lk exHigh a b c n) (lk exStr a b c n) (U.sub .i64 0 n)) (lk exStr (lk exLow a b c n) (lk exHigh a b c n) (lk exStr a b c n) (U.sub .i64 0 n)) ≤ nat_lit 9223372036854775807)
      (.ask (U.not (lk eqR (lk szN (lk exLow (lk exLow a b c n) (lk exHigh a b c n) (lk exStr a b c n) (U.sub .i64 0 n)) (lk exHigh (lk exLow a b c n) (lk exHigh a b c n) (lk exStr a b c
      n) (U.sub .i64 0 n)) (lk exStr (lk exLow a b c n) (lk exHigh a b c n) (lk exStr a b c n) (U.sub .i64 0 n))) (lk srtN (lk exLow (lk exLow a b c n) (lk exHigh a b c n) (lk exStr a b c
      n) (U.sub .i64 0 n)) (lk exHigh (lk exLow a b c n) (lk exHigh a b c n) (lk exStr a b c n) (U.sub .i64 0 n)) (lk exStr (lk exLow a b c n) (lk exHigh a b c n) (lk exStr a b c n)
      (U.sub .i64 0 n))) (lk szN a b c) (lk srtN a b c)) = false) (.ask (I64 (lk exLow a b c n) ∧ I64 (lk exHigh a b c n) ∧ I64 (lk exStr a b c n)) (.ask (U.ne (lk size (lk exLow a b c n)
      (lk exHigh a b c n) (lk exStr a b c n)) (U.add .i64 (Int.ofNat (lk numsN a b c (401 : Int))) (U.mul .i64 2 n)) = false) (.ask (I64 a ∧ I64 b ∧ I64 c ∧ I64 (lk exLow a b c n) ∧ I64
      (lk exHigh a b c n) ∧ I64 (lk exStr a b c n)) (.ask (U.ne (lk ckd a b c (lk exLow a b c n) (lk exHigh a b c n) (lk exStr a b c n)) (0 : Int) = false) (.ask (U.not (lk wiB a b c (lk
      exLow a b c n) (lk exHigh a b c n) (lk exStr a b c n)) = false) (.ask (I64 a ∧ I64 b ∧ I64 c ∧ I64 n) (.ask (U.eq (lk inE a b c n) (0 : Int) = true) (.ask (I64 a ∧ I64 b ∧ I64 c ∧
      lk szN a b c ≤ (401 : Nat)) (.ask (U.gt n (Int.ofNat (lk szN a b c)) = false) (.ask (I64 (lk inLow a b c n) ∧ I64 (lk inHigh a b c n) ∧ I64 (lk inStr a b c n) ∧ lk szN (lk inLow a b
      c n) (lk inHigh a b c n) (lk inStr a b c n) ≤ (401 : Nat)) (.ask ((0 : Int) ≤ U.sub .i64 (Int.ofNat (lk szN a b c)) n ∧ U.sub .i64 (Int.ofNat (lk szN a b c)) n ≤ ((lk szN a b c :
      Nat) : Int) ∧ ((lk szN a b c : Nat) : Int) ≤ ((lk szN a b c : Nat) : Int)) (.ask (lk szN (lk inLow a b c n) (lk inHigh a b c n) (lk inStr a b c n) ≤ nat_lit 9223372036854775807)
      (.ask (U.not (lk eqR (lk szN (lk inLow a b c n) (lk inHigh a b c n) (lk inStr a b c n)) (lk srtN (lk inLow a b c n) (lk inHigh a b c n) (lk inStr a b c n)) (U.nsub (lk szN a b c)
      (U.toNat (U.sub .i64 (Int.ofNat (lk szN a b c)) n))) fun i => lk srtN a b c (i + U.toNat (U.sub .i64 (Int.ofNat (lk szN a b c)) n))) = false) (.ask (I64 a ∧ I64 b ∧ I64 c ∧ I64 n)
      (.ask (U.eq (lk xtE a b c n) (0 : Int) = true) (.ask (I64 (lk xtLow a b c n) ∧ I64 (lk xtHigh a b c n) ∧ I64 (lk xtStr a b c n) ∧ I64 a ∧ I64 b ∧ I64 c) (.ask (I64 (lk xtLow a b c
      n) ∧ I64 (lk xtHigh a b c n) ∧ I64 (lk xtStr a b c n) ∧ I64 a ∧ I64 b ∧ I64 c) (.ask (U.ne (lk isEr (lk xtLow a b c n) (lk xtHigh a b c n) (lk xtStr a b c n) a b c) (0 : Int) =
      false) (.ask (U.ne (lk hlE (lk xtLow a b c n) (lk xtHigh a b c n) (lk xtStr a b c n) a b c) (0 : Int) = false) (.ask (I64 (lk isL (lk xtLow a b c n) (lk xtHigh a b c n) (lk xtStr a
      b c n) a b c) ∧ I64 (lk isH (lk xtLow a b c n) (lk xtHigh a b c n) (lk xtStr a b c n) a b c) ∧ I64 (lk isS (lk xtLow a b c n) (lk xtHigh a b c n) (lk xtStr a b c n) a b c)) (.ask
      (U.ne (lk size (lk isL (lk xtLow a b c n) (lk xtHigh a b c n) (lk xtStr a b c n) a b c) (lk isH (lk xtLow a b c n) (lk xtHigh a b c n) (lk xtStr a b c n) a b c) (lk isS (lk xtLow a
      b c n) (lk xtHigh a b c n) (lk xtStr a b c n) a b c)) (0 : Int) = false) (.ask (I64 (lk xtLow a b c n) ∧ I64 (lk xtHigh a b c n) ∧ I64 (lk xtStr a b c n)) (.ask (U.ne (lk size (lk
      xtLow a b c n) (lk xtHigh a b c n) (lk xtStr a b c n)) n = false) (.ask (I64 (lk hlL (lk xtLow a b c n) (lk xtHigh a b c n) (lk xtStr a b c n) a b c) ∧ I64 (lk hlH (lk xtLow a b c
      n) (lk xtHigh a b c n) (lk xtStr a b c n) a b c) ∧ I64 (lk hlS (lk xtLow a b c n) (lk xtHigh a b c n) (lk xtStr a b c n) a b c)) (.ask (U.ne (lk size (lk hlL (lk xtLow a b c n) (lk
      xtHigh a b c n) (lk xtStr a b c n) a b c) (lk hlH (lk xtLow a b c n) (lk xtHigh a b c n) (lk xtStr a b c n) a b c) (lk hlS (lk xtLow a b c n) (lk xtHigh a b c n) (lk xtStr a b c n)
      a b c)) (U.add .i64 n (Int.ofNat (lk numsN a b c (401 : Int)))) = false) (.ret (.lit (.bool true)))))))))))))))))))))))))))))))))))))))))))) := by kernel_rfl
set_option maxRecDepth 100000 in
theorem t_SM1000 (a b c n : Int) : (conB Go.Proofs.Try.prog (conOf kM) noLoops 10 4 [.agg [.lit (.int .i64 a), .lit (.int .i64 b), .lit (.int .i64 c)], .lit (.int .i64 n)]).force [false, false, false, false, true, false, false, false, false, false, false, false, false] =
    T.ask (I64 a ∧ I64 b ∧ I64 c) (.ask (U.not (lk smallB a b c) = false) (.ask (U.lt n (0 : Int) = false) (.ask (U.gt n (400 : Int) = false) (.ask (I64 a ∧ I64 b ∧ I64 c) (.ask (U.eq
      (lk size a b c) (0 : Int) = false) (.ask (I64 a ∧ I64 b ∧ I64 c ∧ (0 : Int) ≤ (401 : Int) ∧ (401 : Int) ≤ (1000000 : Int)) (.ask (I64 a ∧ I64 b ∧ I64 c ∧ I64 n) (.ask (U.eq (lk trE
      a b c n) (0 : Int) = true) (.ask (I64 (lk trLow a b c n) ∧ I64 (lk trHigh a b c n) ∧ I64 (lk trStr a b c n) ∧ I64 (U.sub .i64 0 n)) (.ask (U.ne (lk trE (lk trLow a b c n) (lk trHigh
      a b c n) (lk trStr a b c n) (U.sub .i64 0 n)) (0 : Int) = false) (.ask (U.not (U.andb (U.eq (lk trLow (lk trLow a b c n) (lk trHigh a b c n) (lk trStr a b c n) (U.sub .i64 0 n)) a)
      (U.andb (U.eq (lk trHigh (lk trLow a b c n) (lk trHigh a b c n) (lk trStr a b c n) (U.sub .i64 0 n)) b) (U.eq (lk trStr (lk trLow a b c n) (lk trHigh a b c n) (lk trStr a b c n)
      (U.sub .i64 0 n)) c))) = false) (.ask (I64 (lk trLow a b c n) ∧ I64 (lk trHigh a b c n) ∧ I64 (lk trStr a b c n) ∧ (0 : Int) ≤ (401 : Int) ∧ (401 : Int) ≤ (1000000 : Int)) (.ask (lk
      numsN (lk trLow a b c n) (lk trHigh a b c n) (lk trStr a b c n) (401 : Int) = lk numsN a b c (401 : Int) ∧ AddN (lk numsN (lk trLow a b c n) (lk trHigh a b c n) (lk trStr a b c n)
      (401 : Int)) (fun k => (lk num (lk trLow a b c n) (lk trHigh a b c n) (lk trStr a b c n) k, ())) (fun k => (lk num a b c k, ())) n) (.ask (U.not true = false) (.ask (I64 a ∧ I64 b ∧
      I64 c ∧ I64 n) (.ask (U.eq (lk exE a b c n) (0 : Int) = false) (.ask (I64 a ∧ I64 b ∧ I64 c ∧ I64 n) (.ask (U.eq (lk inE a b c n) (0 : Int) = false) (.ask (U.ne (lk inE a b c n) (5
      : Int) = false) (.ask (U.le n (Int.ofNat (lk numsN a b c (401 : Int))) = false) (.ask (I64 a ∧ I64 b ∧ I64 c ∧ I64 n) (.ask (U.eq (lk xtE a b c n) (0 : Int) = false) (.ret (.lit
      (.bool true))))))))))))))))))))))))) := by kernel_rfl
set_option maxRecDepth 100000 in
theorem t_SM1001 (a b c n : Int) : (conB Go.Proofs.Try.prog (conOf kM) noLoops 10 4 [.agg [.lit (.int .i64 a), .lit (.int .i64 b), .lit (.int .i64 c)], .lit (.int .i64 n)]).force [false, false, false, false, true, false, false, false, false, false, false, false, true, false, false, false, false, false] =
    T.ask (I64 a ∧ I64 b ∧ I64 c) (.ask (U.not (lk smallB a b c) = false) (.ask (U.lt n (0 : Int) = false) (.ask (U.gt n (400 : Int) = false) (.ask (I64 a ∧ I64 b ∧ I64 c) (.ask (U.eq
      (lk size a b c) (0 : Int) = false) (.ask (I64 a ∧ I64 b ∧ I64 c ∧ (0 : Int) ≤ (401 : Int) ∧ (401 : Int) ≤ (1000000 : Int)) (.ask (I64 a ∧ I64 b ∧ I64 c ∧ I64 n) (.ask (U.eq (lk trE
      a b c n) (0 : Int) = true) (.ask (I64 (lk trLow a b c n) ∧ I64 (lk trHigh a b c n) ∧ I64 (lk trStr a b c n) ∧ I64 (U.sub .i64 0 n)) (.ask (U.ne (lk trE (lk trLow a b c n) (lk trHigh
      a b c n) (lk trStr a b c n) (U.sub .i64 0 n)) (0 : Int) = false) (.ask (U.not (U.andb (U.eq (lk trLow (lk trLow a b c n) (lk trHigh a b c n) (lk trStr a b c n) (U.sub .i64 0 n)) a)
      (U.andb (U.eq (lk trHigh (lk trLow a b c n) (lk trHigh a b c n) (lk trStr a b c n) (U.sub .i64 0 n)) b) (U.eq (lk trStr (lk trLow a b c n) (lk trHigh a b c n) (lk trStr a b c n)
      (U.sub .i64 0 n)) c))) = false) (.ask (I64 (lk trLow a b c n) ∧ I64 (lk trHigh a b c n) ∧ I64 (lk trStr a b c n) ∧ (0 : Int) ≤ (401 : Int) ∧ (401 : Int) ≤ (1000000 : Int)) (.ask (lk
      numsN (lk trLow a b c n) (lk trHigh a b c n) (lk trStr a b c n) (401 : Int) = lk numsN a b c (401 : Int) ∧ AddN (lk numsN (lk trLow a b c n) (lk trHigh a b c n) (lk trStr a b c n)
      (401 : Int)) (fun k => (lk num (lk trLow a b c n) (lk trHigh a b c n) (lk trStr a b c n) k, ())) (fun k => (lk num a b c k, ())) n) (.ask (U.not true = false) (.ask (I64 a ∧ I64 b ∧
      I64 c ∧ I64 n) (.ask (U.eq (lk exE a b c n) (0 : Int) = false) (.ask (I64 a ∧ I64 b ∧ I64 c ∧ I64 n) (.ask (U.eq (lk inE a b c n) (0 : Int) = false) (.ask (U.ne (lk inE a b c n) (5
      : Int) = false) (.ask (U.le n (Int.ofNat (lk numsN a b c (401 : Int))) = false) (.ask (I64 a ∧ I64 b ∧ I64 c ∧ I64 n) (.ask (U.eq (lk xtE a b c n) (0 : Int) = true) (.ask (I64 (lk
      xtLow a b c n) ∧ I64 (lk xtHigh a b c n) ∧ I64 (lk xtStr a b c n) ∧ I64 a ∧ I64 b ∧ I64 c) (.ask (I64 (lk xtLow a b c n) ∧ I64 (lk xtHigh a b c n) ∧ I64 (lk xtStr a b c n) ∧ I64 a ∧
      I64 b ∧ I64 c) (.ask (U.ne (lk isEr (lk xtLow a b c n) (lk xtHigh a b c n) (lk xtStr a b c n) a b c) (0 : Int) = false) (.ask (U.ne (lk hlE (lk xtLow a b c n) (lk xtHigh a b c n)
      (lk xtStr a b c n) a b c) (0 : Int) = false) (.ask (I64 (lk isL (lk xtLow a b c n) (lk xtHigh a b c n) (lk xtStr a b c n) a b c) ∧ I64 (lk isH (lk xtLow a b c n) (lk xtHigh a b c n)
      (lk xtStr a b c n) a b c) ∧ I64 (lk isS (lk xtLow a b c n) (lk xtHigh a b c n) (lk xtStr a b c n) a b c)) (.ask (U.ne (lk size (lk isL (lk xtLow a b c n) (lk xtHigh a b c n) (lk
      xtStr a b c n) a b c) (lk isH (lk xtLow a b c n) (lk xtHigh a b c n) (lk xtStr a b c n) a b c) (lk isS (lk xtLow a b c n) (lk xtHigh a b c n) (lk xtStr a b c n) a b c)) (0 : Int) =
      false) (.ask (I64 (lk xtLow a b c n) ∧ I64 (lk xtHigh a b c n) ∧ I64 (lk xtStr a b c n)) (.ask (U.ne (lk size (lk xtLow a b c n) (lk xtHigh a b c n) (lk xtStr a b c n)) n = false)
      (.ask (I64 (lk hlL (lk xtLow a b c n) (lk xtHigh a b c n) (lk xtStr a b c n) a b c) ∧ I64 (lk hlH (lk xtLow a b c n) (lk xtHigh a b c n) (lk xtStr a b c n) a b c) ∧ I64 (lk hlS (lk
      xtLow a b c n) (lk xtHigh a b c n) (lk xtStr a b c n) a b c)) (.ask (U.ne (lk size (lk hlL (lk xtLow a b c n) (lk xtHigh a b c n) (lk xtStr a b c n) a b c) (lk hlH (lk xtLow a b c
      n) (lk xtHigh a b c n) (lk xtStr a b c n) a b c) (lk hlS (lk xtLow a b c n) (lk xtHigh a b c n) (lk xtStr a b c n) a b c)) (U.add .i64 n (Int.ofNat (lk numsN a b c (401 : Int)))) =
      false) (.ret (.lit (.bool true))))))))))))))))))))))))))))))))))) := by kernel_rfl
set_option maxRecDepth 100000 in
theorem t_SM1010 (a b c n : Int) : (conB Go.Proofs.Try.prog (conOf kM) noLoops 10 4 [.agg [.lit (.int .i64 a), .lit (.int .i64 b), .lit (.int .i64 c)], .lit (.int .i64 n)]).force [false, false, false, false, true, false, false, false, false, true, false, false, false] =
    T.ask (I64 a ∧ I64 b ∧ I64 c) (.ask (U.not (lk smallB a b c) = false) (.ask (U.lt n (0 : Int) = false) (.ask (U.gt n (400 : Int) = false) (.ask (I64 a ∧ I64 b ∧ I64 c) (.ask (U.eq
      (lk size a b c) (0 : Int) = false) (.ask (I64 a ∧ I64 b ∧ I64 c ∧ (0 : Int) ≤ (401 : Int) ∧ (401 : Int) ≤ (1000000 : Int)) (.ask (I64 a ∧ I64 b ∧ I64 c ∧ I64 n) (.ask (U.eq (lk trE
      a b c n) (0 : Int) = true) (.ask (I64 (lk trLow a b c n) ∧ I64 (lk trHigh a b c n) ∧ I64 (lk trStr a b c n) ∧ I64 (U.sub .i64 0 n)) (.ask (U.ne (lk trE (lk trLow a b c n) (lk trHigh
      a b c n) (lk trStr a b c n) (U.sub .i64 0 n)) (0 : Int) = false) (.ask (U.not (U.andb (U.eq (lk trLow (lk trLow a b c n) (lk trHigh a b c n) (lk trStr a b c n) (U.sub .i64 0 n)) a)
      (U.andb (U.eq (lk trHigh (lk trLow a b c n) (lk trHigh a b c n) (lk trStr a b c n) (U.sub .i64 0 n)) b) (U.eq (lk trStr (lk trLow a b c n) (lk trHigh a b c n) (lk trStr a b c n)
      (U.sub .i64 0 n)) c))) = false) (.ask (I64 (lk trLow a b c n) ∧ I64 (lk trHigh a b c n) ∧ I64 (lk trStr a b c n) ∧ (0 : Int) ≤ (401 : Int) ∧ (401 : Int) ≤ (1000000 : Int)) (.ask (lk
      numsN (lk trLow a b c n) (lk trHigh a b c n) (lk trStr a b c n) (401 : Int) = lk numsN a b c (401 : Int) ∧ AddN (lk numsN (lk trLow a b c n) (lk trHigh a b c n) (lk trStr a b c n)
      (401 : Int)) (fun k => (lk num (lk trLow a b c n) (lk trHigh a b c n) (lk trStr a b c n) k, ())) (fun k => (lk num a b c k, ())) n) (.ask (U.not true = false) (.ask (I64 a ∧ I64 b ∧
      I64 c ∧ I64 n) (.ask (U.eq (lk exE a b c n) (0 : Int) = false) (.ask (I64 a ∧ I64 b ∧ I64 c ∧ I64 n) (.ask (U.eq (lk inE a b c n) (0 : Int) = true) (.ask (I64 a ∧ I64 b ∧ I64 c ∧ lk
      szN a b c ≤ (401 : Nat)) (.ask (U.gt n (Int.ofNat (lk szN a b c)) = false) (.ask (I64 (lk inLow a b c n) ∧ I64 (lk inHigh a b c n) ∧ I64 (lk inStr a b c n) ∧ lk szN (lk inLow a b c
      n) (lk inHigh a b c n) (lk inStr a b c n) ≤ (401 : Nat)) (.ask ((0 : Int) ≤ U.sub .i64 (Int.ofNat (lk szN a b c)) n ∧ U.sub .i64 (Int.ofNat (lk szN a b c)) n ≤ ((lk szN a b c : Nat)
      : Int) ∧ ((lk szN a b c : Nat) : Int) ≤ ((lk szN a b c : Nat) : Int)) (.ask (lk szN (lk inLow a b c n) (lk inHigh a b c n) (lk inStr a b c n) ≤ nat_lit 9223372036854775807) (.ask
      (U.not (lk eqR (lk szN (lk inLow a b c n) (lk inHigh a b c n) (lk inStr a b c n)) (lk srtN (lk inLow a b c n) (lk inHigh a b c n) (lk inStr a b c n)) (U.nsub (lk szN a b c) (U.toNat
      (U.sub .i64 (Int.ofNat (lk szN a b c)) n))) fun i => lk srtN a b c (i + U.toNat (U.sub .i64 (Int.ofNat (lk szN a b c)) n))) = false) (.ask (I64 a ∧ I64 b ∧ I64 c ∧ I64 n) (.ask
      (U.eq (lk xtE a b c n) (0 : Int) = false) (.ret (.lit (.bool true))))))))))))))))))))))))))))) := by kernel_rfl
set_option maxRecDepth 100000 in
theorem t_SM1011 (a b c n : Int) : (conB Go.Proofs.Try.prog (conOf kM) noLoops 10 4 [.agg [.lit (.int .i64 a), .lit (.int .i64 b), .lit (.int .i64 c)], .lit (.int .i64 n)]).force [false, false, false, false, true, false, false, false, false, true, false, false, true, false, false, false, false, false] =
    T.ask (I64 a ∧ I64 b ∧ I64 c) (.ask (U.not (lk smallB a b c) = false) (.ask (U.lt n (0 : Int) = false) (.ask (U.gt n (400 : Int) = false) (.ask (I64 a ∧ I64 b ∧ I64 c) (.ask (U.eq
      (lk size a b c) (0 : Int) = false) (.ask (I64 a ∧ I64 b ∧ I64 c ∧ (0 : Int) ≤ (401 : Int) ∧ (401 : Int) ≤ (1000000 : Int)) (.ask (I64 a ∧ I64 b ∧ I64 c ∧ I64 n) (.ask (U.eq (lk trE
      a b c n) (0 : Int) = true) (.ask (I64 (lk trLow a b c n) ∧ I64 (lk trHigh a b c n) ∧ I64 (lk trStr a b c n) ∧ I64 (U.sub .i64 0 n)) (.ask (U.ne (lk trE (lk trLow a b c n) (lk trHigh
      a b c n) (lk trStr a b c n) (U.sub .i64 0 n)) (0 : Int) = false) (.ask (U.not (U.andb (U.eq (lk trLow (lk trLow a b c n) (lk trHigh a b c n) (lk trStr a b c n) (U.sub .i64 0 n)) a)
      (U.andb (U.eq (lk trHigh (lk trLow a b c n) (lk trHigh a b c n) (lk trStr a b c n) (U.sub .i64 0 n)) b) (U.eq (lk trStr (lk trLow a b c n) (lk trHigh a b c n) (lk trStr a b c n)
      (U.sub .i64 0 n)) c))) = false) (.ask (I64 (lk trLow a b c n) ∧ I64 (lk trHigh a b c n) ∧ I64 (lk trStr a b c n) ∧ (0 : Int) ≤ (401 : Int) ∧ (401 : Int) ≤ (1000000 : Int)) (.ask (lk
      numsN (lk trLow a b c n) (lk trHigh a b c n) (lk trStr a b c n) (401 : Int) = lk numsN a b c (401 : Int) ∧ AddN (lk numsN (lk trLow a b c n) (lk trHigh a b c n) (lk trStr a b c n)
      (401 : Int)) (fun k => (lk num (lk trLow a b c n) (lk trHigh a b c n) (lk trStr a b c n) k, ())) (fun k => (lk num a b c k, ())) n) (.ask (U.not true = false) (.ask (I64 a ∧ I64 b ∧
      I64 c ∧ I64 n) (.ask (U.eq (lk exE a b c n) (0 : Int) = false) (.ask (I64 a ∧ I64 b ∧ I64 c ∧ I64 n) (.ask (U.eq (lk inE a b c n) (0 : Int) = true) (.ask (I64 a ∧ I64 b ∧ I64 c ∧ lk
      szN a b c ≤ (401 : Nat)) (.ask (U.gt n (Int.ofNat (lk szN a b c)) = false) (.ask (I64 (lk inLow a b c n) ∧ I64 (lk inHigh a b c n) ∧ I64 (lk inStr a b c n) ∧ lk szN (lk inLow a b c
      n) (lk inHigh a b c n) (lk inStr a b c n) ≤ (401 : Nat)) (.ask ((0 : Int) ≤ U.sub .i64 (Int.ofNat (lk szN a b c)) n ∧ U.sub .i64 (Int.ofNat (lk szN a b c)) n ≤ ((lk szN a b c : Nat)
      : Int) ∧ ((lk szN a b c : Nat) : Int) ≤ ((lk szN a b c : Nat) : Int)) (.ask (lk szN (lk inLow a b c n) (lk inHigh a b c n) (lk inStr a b c n) ≤ nat_lit 9223372036854775807) (.ask
      (U.not (lk eqR (lk szN (lk inLow a b c n) (lk inHigh a b c n) (lk inStr a b c n)) (lk srtN (lk inLow a b c n) (lk inHigh a b c n) (lk inStr a b c n)) (U.nsub (lk szN a b c) (U.toNat
      (U.sub .i64 (Int.ofNat (lk szN a b c)) n))) fun i => lk srtN a b c (i + U.toNat (U.sub .i64 (Int.ofNat (lk szN a b c)) n))) = false) (.ask (I64 a ∧ I64 b ∧ I64 c ∧ I64 n) (.ask
      (U.eq (lk xtE a b c n) (0 : Int) = true) (.ask (I64 (lk xtLow a b c n) ∧ I64 (lk xtHigh a b c n) ∧ I64 (lk xtStr a b c n) ∧ I64 a ∧ I64 b ∧ I64 c) (.ask (I64 (lk xtLow a b c n) ∧
      I64 (lk xtHigh a b c n) ∧ I64 (lk xtStr a b c n) ∧ I64 a ∧ I64 b ∧ I64 c) (.ask (U.ne (lk isEr (lk xtLow a b c n) (lk xtHigh a b c n) (lk xtStr a b c n) a b c) (0 : Int) = false)
      (.ask (U.ne (lk hlE (lk xtLow a b c n) (lk xtHigh a b c n) (lk xtStr a b c n) a b c) (0 : Int) = false) (.ask (I64 (lk isL (lk xtLow a b c n) (lk xtHigh a b c n) (lk xtStr a b c n)
      a b c) ∧ I64 (lk isH (lk xtLow a b c n) (lk xtHigh a b c n) (lk xtStr a b c n) a b c) ∧ I64 (lk isS (lk xtLow a b c n) (lk xtHigh a b c n) (lk xtStr a b c n) a b c)) (.ask (U.ne (lk
      size (lk isL (lk xtLow a b c n) (lk xtHigh a b c n) (lk xtStr a b c n) a b c) (lk isH (lk xtLow a b c n) (lk xtHigh a b c n) (lk xtStr a b c n) a b c) (lk isS (lk xtLow a b c n) (lk
      xtHigh a b c n) (lk xtStr a b c n) a b c)) (0 : Int) = false) (.ask (I64 (lk xtLow a b c n) ∧ I64 (lk xtHigh a b c n) ∧ I64 (lk xtStr a b c n)) (.ask (U.ne (lk size (lk xtLow a b c
      n) (lk xtHigh a b c n) (lk xtStr a b c n)) n = false) (.ask (I64 (lk hlL (lk xtLow a b c n) (lk xtHigh a b c n) (lk xtStr a b c n) a b c) ∧ I64 (lk hlH (lk xtLow a b c n) (lk xtHigh
      a b c n) (lk xtStr a b c n) a b c) ∧ I64 (lk hlS (lk xtLow a b c n) (lk xtHigh a b c n) (lk xtStr a b c n) a b c)) (.ask (U.ne (lk size (lk hlL (lk xtLow a b c n) (lk xtHigh a b c
      n) (lk xtStr a b c n) a b c) (lk hlH (lk xtLow a b c n) (lk xtHigh a b c n) (lk xtStr a b c n) a b c) (lk hlS (lk xtLow a b c n) (lk xtHigh a b c n) (lk xtStr a b c n) a b c))
      (U.add .i64 n (Int.ofNat (lk numsN a b c (401 : Int)))) = false) (.ret (.lit (.bool true))))))))))))))))))))))))))))))))))))))) := by kernel_rfl
set_option maxRecDepth 100000 in
theorem t_SM1100 (a b c n : Int) : (conB Go.Proofs.Try.prog (conOf kM) noLoops 10 4 [.agg [.lit (.int .i64 a), .lit (.int .i64 b), .lit (.int .i64 c)], .lit (.int .i64 n)]).force [false, false, false, false, true, false, false, false, true, false, false, false, false, false, false, false, false, false] =
    T.ask (I64 a ∧ I64 b ∧ I64 c) (.ask (U.not (lk smallB a b c) = false) (.ask (U.lt n (0 : Int) = false) (.ask (U.gt n (400 : Int) = false) (.ask (I64 a ∧ I64 b ∧ I64 c) (.ask (U.eq
      (lk size a b c) (0 : Int) = false) (.ask (I64 a ∧ I64 b ∧ I64 c ∧ (0 : Int) ≤ (401 : Int) ∧ (401 : Int) ≤ (1000000 : Int)) (.ask (I64 a ∧ I64 b ∧ I64 c ∧ I64 n) (.ask (U.eq (lk trE
      a b c n) (0 : Int) = true) (.ask (I64 (lk trLow a b c n) ∧ I64 (lk trHigh a b c n) ∧ I64 (lk trStr a b c n) ∧ I64 (U.sub .i64 0 n)) (.ask (U.ne (lk trE (lk trLow a b c n) (lk trHigh
      a b c n) (lk trStr a b c n) (U.sub .i64 0 n)) (0 : Int) = false) (.ask (U.not (U.andb (U.eq (lk trLow (lk trLow a b c n) (lk trHigh a b c n) (lk trStr a b c n) (U.sub .i64 0 n)) a)
      (U.andb (U.eq (lk trHigh (lk trLow a b c n) (lk trHigh a b c n) (lk trStr a b c n) (U.sub .i64 0 n)) b) (U.eq (lk trStr (lk trLow a b c n) (lk trHigh a b c n) (lk trStr a b c n)
      (U.sub .i64 0 n)) c))) = false) (.ask (I64 (lk trLow a b c n) ∧ I64 (lk trHigh a b c n) ∧ I64 (lk trStr a b c n) ∧ (0 : Int) ≤ (401 : Int) ∧ (401 : Int) ≤ (1000000 : Int)) (.ask (lk
      numsN (lk trLow a b c n) (lk trHigh a b c n) (lk trStr a b c n) (401 : Int) = lk numsN a b c (401 : Int) ∧ AddN (lk numsN (lk trLow a b c n) (lk trHigh a b c n) (lk trStr a b c n)
      (401 : Int)) (fun k => (lk num (lk trLow a b c n) (lk trHigh a b c n) (lk trStr a b c n) k, ())) (fun k => (lk num a b c k, ())) n) (.ask (U.not true = false) (.ask (I64 a ∧ I64 b ∧
      I64 c ∧ I64 n) (.ask (U.eq (lk exE a b c n) (0 : Int) = true) (.ask (I64 (lk exLow a b c n) ∧ I64 (lk exHigh a b c n) ∧ I64 (lk exStr a b c n) ∧ I64 (U.sub .i64 0 n)) (.ask (U.ne
      (lk exE (lk exLow a b c n) (lk exHigh a b c n) (lk exStr a b c n) (U.sub .i64 0 n)) (0 : Int) = false) (.ask (I64 (lk exLow (lk exLow a b c n) (lk exHigh a b c n) (lk exStr a b c n)
      (U.sub .i64 0 n)) ∧ I64 (lk exHigh (lk exLow a b c n) (lk exHigh a b c n) (lk exStr a b c n) (U.sub .i64 0 n)) ∧ I64 (lk exStr (lk exLow a b c n) (lk exHigh a b c n) (lk exStr a b c
      n) (U.sub .i64 0 n)) ∧ lk szN (lk exLow (lk exLow a b c n) (lk exHigh a b c n) (lk exStr a b c n) (U.sub .i64 0 n)) (lk exHigh (lk exLow a b c n) (lk exHigh a b c n) (lk exStr a b c
      n) (U.sub .i64 0 n)) (lk exStr (lk exLow a b c n) (lk exHigh a b c n) (lk exStr a b c n) (U.sub .i64 0 n)) ≤ (401 : Nat)) (.ask (I64 a ∧ I64 b ∧ I64 c ∧ lk szN a b c ≤ (401 : Nat))
      (.ask (lk szN (lk exLow (lk exLow a b c n) (lk exHigh a b c n) (lk exStr a b c n) (U.sub .i64 0 n)) (lk exHigh (lk exLow a b c n) (lk exHigh a b c n) (lk exStr a b c n) (U.sub .i64
      0 n)) (lk exStr (lk exLow a b c n) (lk exHigh a b c n) (lk exStr a b c n) (U.sub .i64 0 n)) ≤ nat_lit 9223372036854775807) (.ask (U.not (lk eqR (lk szN (lk exLow (lk exLow a b c n)
      (lk exHigh a b c n) (lk exStr a b c n) (U.sub .i64 0 n)) (lk exHigh (lk exLow a b c n) (lk exHigh a b c n) (lk exStr a b c n) (U.sub .i64 0 n)) (lk exStr (lk exLow a b c n) (lk
      exHigh a b c n) (lk exStr a b c n) (U.sub .i64 0 n))) (lk srtN (lk exLow (lk exLow a b c n) (lk exHigh a b c n) (lk exStr a b c n) (U.sub .i64 0 n)) (lk exHigh (lk exLow a b c n)
      (lk exHigh a b c n) (lk exStr a b c n) (U.sub .i64 0 n)) (lk exStr (lk exLow a b c n) (lk exHigh a b c n) (lk exStr a b c n) (U.sub .i64 0 n))) (lk szN a b c) (lk srtN a b c)) =
      false) (.ask (I64 (lk exLow a b c n) ∧ I64 (lk exHigh a b c n) ∧ I64 (lk exStr a b c n)) (.ask (U.ne (lk size (lk exLow a b c n) (lk exHigh a b c n) (lk exStr a b c n)) (U.add .i64
      (Int.ofNat (lk numsN a b c (401 : Int))) (U.mul .i64 2 n)) = false) (.ask (I64 a ∧ I64 b ∧ I64 c ∧ I64 (lk exLow a b c n) ∧ I64 (lk exHigh a b c n) ∧ I64 (lk exStr a b c n)) (.ask
      (U.ne (lk ckd a b c (lk exLow a b c n) (lk exHigh a b c n) (lk exStr a b c n)) (0 : Int) = false) (.ask (U.not (lk wiB a b c (lk exLow a b c n) (lk exHigh a b c n) (lk exStr a b c
      n)) = false) (.ask (I64 a ∧ I64 b ∧ I64 c ∧ I64 n) (.ask (U.eq (lk inE a b c n) (0 : Int) = false) (.ask (U.ne (lk inE a b c n) (5 : Int) = false) (.ask (U.le n (Int.ofNat (lk numsN
      a b c (401 : Int))) = false) (.ask (I64 a ∧ I64 b ∧ I64 c ∧ I64 n) (.ask (U.eq (lk xtE a b c n) (0 : Int) = false) (.ret (.lit (.bool true)))))))))))))))))))))))))))))))))))) := by kernel_rfl
set_option maxRecDepth 100000 in
theorem t_SM1101 (a b c n : Int) : (conB Go.Proofs.Try.prog (conOf kM) noLoops 10 4 [.agg [.lit (.int .i64 a), .lit (.int .i64 b), .lit (.int .i64 c)], .lit (.int .i64 n)]).force [false, false, false, false, true, false, false, false, true, false, false, false, false, false, false, false, false, true, false, false, false, false, false] =
    T.ask (I64 a ∧ I64 b ∧ I64 c) (.ask (U.not (lk smallB a b c) = false) (.ask (U.lt n (0 : Int) = false) (.ask (U.gt n (400 : Int) = false) (.ask (I64 a ∧ I64 b ∧ I64 c) (.ask (U.eq
      (lk size a b c) (0 : Int) = false) (.ask (I64 a ∧ I64 b ∧ I64 c ∧ (0 : Int) ≤ (401 : Int) ∧ (401 : Int) ≤ (1000000 : Int)) (.ask (I64 a ∧ I64 b ∧ I64 c ∧ I64 n) (.ask (U.eq (lk trE
      a b c n) (0 : Int) = true) (.ask (I64 (lk trLow a b c n) ∧ I64 (lk trHigh a b c n) ∧ I64 (lk trStr a b c n) ∧ I64 (U.sub .i64 0 n)) (.ask (U.ne (lk trE (lk trLow a b c n) (lk trHigh
      a b c n) (lk trStr a b c n) (U.sub .i64 0 n)) (0 : Int) = false) (.ask (U.not (U.andb (U.eq (lk trLow (lk trLow a b c n) (lk trHigh a b c n) (lk trStr a b c n) (U.sub .i64 0 n)) a)
      (U.andb (U.eq (lk trHigh (lk trLow a b c n) (lk trHigh a b c n) (lk trStr a b c n) (U.sub .i64 0 n)) b) (U.eq (lk trStr (lk trLow a b c n) (lk trHigh a b c n) (lk trStr a b c n)
      (U.sub .i64 0 n)) c))) = false) (.ask (I64 (lk trLow a b c n) ∧ I64 (lk trHigh a b c n) ∧ I64 (lk trStr a b c n) ∧ (0 : Int) ≤ (401 : Int) ∧ (401 : Int) ≤ (1000000 : Int)) (.ask (lk
      numsN (lk trLow a b c n) (lk trHigh a b c n) (lk trStr a b c n) (401 : Int) = lk numsN a b c (401 : Int) ∧ AddN (lk numsN (lk trLow a b c n) (lk trHigh a b c n) (lk trStr a b c n)
      (401 : Int)) (fun k => (lk num (lk trLow a b c n) (lk trHigh a b c n) (lk trStr a b c n) k, ())) (fun k => (lk num a b c k, ())) n) (.ask (U.not true = false) (.ask (I64 a ∧ I64 b ∧
      I64 c ∧ I64 n) (.ask (U.eq (lk exE a b c n) (0 : Int) = true) (.ask (I64 (lk exLow a b c n) ∧ I64 (lk exHigh a b c n) ∧ I64 (lk exStr a b c n) ∧ I64 (U.sub .i64 0 n)) (.ask (U.ne
      (lk exE (lk exLow a b c n) (lk exHigh a b c n) (lk exStr a b c n) (U.sub .i64 0 n)) (0 : Int) = false) (.ask (I64 (lk exLow (lk exLow a b c n) (lk exHigh a b c n) (lk exStr a b c n)
      (U.sub .i64 0 n)) ∧ I64 (lk exHigh (lk exLow a b c n) (lk exHigh a b c n) (lk exStr a b c n) (U.sub .i64 0 n)) ∧ I64 (lk exStr (lk exLow a b c n) (lk exHigh a b c n) (lk exStr a b c
      n) (U.sub .i64 0 n)) ∧ lk szN (lk exLow (lk exLow a b c n) (lk exHigh a b c n) (lk exStr a b c n) (U.sub .i64 0 n)) (lk exHigh (lk exLow a b c n) (lk exHigh a b c n) (lk exStr a b c
      n) (U.sub .i64 0 n)) (lk exStr (lk exLow a b c n) (lk exHigh a b c n) (lk exStr a b c n) (U.sub .i64 0 n)) ≤ (401 : Nat)) (.ask (I64 a ∧ I64 b ∧ I64 c ∧ lk szN a b c ≤ (401 : Nat))
      (.ask (lk szN (lk exLow (lk exLow a b c n) (lk exHigh a b c n) (lk exStr a b c n) (U.sub .i64 0 n)) (lk exHigh (lk exLow a b c n) (lk exHigh a b c n) (lk exStr a b c n) (U.sub .i64
      0 n)) (lk exStr (lk exLow a b c n) (lk exHigh a b c n) (lk exStr a b c n) (U.sub .i64 0 n)) ≤ nat_lit 9223372036854775807) (.ask (U.not (lk eqR (lk szN (lk exLow (lk exLow a b c n)
      (lk exHigh a b c n) (lk exStr a b c n) (U.sub .i64 0 n)) (lk exHigh (lk exLow a b c n) (lk exHigh a b c n) (lk exStr a b c n) (U.sub .i64 0 n)) (lk exStr (lk exLow a b c n) (lk
      exHigh a b c n) (lk exStr a b c n) (U.sub .i64 0 n))) (lk srtN (lk exLow (lk exLow a b c n) (lk exHigh a b c n) (lk exStr a b c n) (U.sub .i64 0 n)) (lk exHigh (lk exLow a b c n)
      (lk exHigh a b c n) (lk exStr a b c n) (U.sub .i64 0 n)) (lk exStr (lk exLow a b c n) (lk exHigh a b c n) (lk exStr a b c n) (U.sub .i64 0 n))) (lk szN a b c) (lk srtN a b c)) =
      false) (.ask (I64 (lk exLow a b c n) ∧ I64 (lk exHigh a b c n) ∧ I64 (lk exStr a b c n)) (.ask (U.ne (lk size (lk exLow a b c n) (lk exHigh a b c n) (lk exStr a b c n)) (U.add .i64
      (Int.ofNat (lk numsN a b c (401 : Int))) (U.mul .i64 2 n)) = false) (.ask (I64 a ∧ I64 b ∧ I64 c ∧ I64 (lk exLow a b c n) ∧ I64 (lk exHigh a b c n) ∧ I64 (lk exStr a b c n)) (.ask
      (U.ne (lk ckd a b c (lk exLow a b c n) (lk exHigh a b c n) (lk exStr a b c n)) (0 : Int) = false) (.ask (U.not (lk wiB a b c (lk exLow a b c n) (lk exHigh a b c n) (lk exStr a b c
      n)) = false) (.ask (I64 a ∧ I64 b ∧ I64 c ∧ I64 n) (.ask (U.eq (lk inE a b c n) (0 : Int) = false) (.ask (U.ne (lk inE a b c n) (5 : Int) = false) (.ask (U.le n (Int.ofNat (lk numsN
      a b c (401 : Int))) = false) (.ask (I64 a ∧ I64 b ∧ I64 c ∧ I64 n) (.ask (U.eq (lk xtE a b c n) (0 : Int) = true) (.ask (I64 (lk xtLow a b c n) ∧ I64 (lk xtHigh a b c n) ∧ I64 (lk
      xtStr a b c n) ∧ I64 a ∧ I64 b ∧ I64 c) (.ask (I64 (lk xtLow a b c n) ∧ I64 (lk xtHigh a b c n) ∧ I64 (lk xtStr a b c n) ∧ I64 a ∧ I64 b ∧ I64 c) (.ask (U.ne (lk isEr (lk xtLow a b
      c n) (lk xtHigh a b c n) (lk xtStr a b c n) a b c) (0 : Int) = false) (.ask (U.ne (lk hlE (lk xtLow a b c n) (lk xtHigh a b c n) (lk xtStr a b c n) a b c) (0 : Int) = false) (.ask
      (I64 (lk isL (lk xtLow a b c n) (lk xtHigh a b c n) (lk xtStr a b c n) a b c) ∧ I64 (lk isH (lk xtLow a b c n) (lk xtHigh a b c n) (lk xtStr a b c n) a b c) ∧ I64 (lk isS (lk xtLow
      a b c n) (lk xtHigh a b c n) (lk xtStr a b c n) a b c)) (.ask (U.ne (lk size (lk isL (lk xtLow a b c n) (lk xtHigh a b c n) (lk xtStr a b c n) a b c) (lk isH (lk xtLow a b c n) (lk
      xtHigh a b c n) (lk xtStr a b c n) a b c) (lk isS (lk xtLow a b c n) (lk xtHigh a b c n) (lk xtStr a b c n) a b c)) (0 : Int) = false) (.ask (I64 (lk xtLow a b c n) ∧ I64 (lk xtHigh
      a b c n) ∧ I64 (lk xtStr a b c n)) (.ask (U.ne (lk size (lk xtLow a b c n) (lk xtHigh a b c n) (lk xtStr a b c n)) n = false) (.ask (I64 (lk hlL (lk xtLow a b c n) (lk xtHigh a b c
      n) (lk xtStr a b c n) a b c) ∧ I64 (lk hlH (lk xtLow a b c n) (lk xtHigh a b c n) (lk xtStr a b c n) a b c) ∧ I64 (lk hlS (lk xtLow a b c n) (lk xtHigh a b c n) (lk xtStr a b c n) a
      b c)) (.ask (U.ne (lk size (lk hlL (lk xtLow a b c n) (lk xtHigh a b c n) (lk xtStr a b c n) a b c) (lk hlH (lk xtLow a b c n) (lk xtHigh a b c n) (lk xtStr a b c n) a b c) (lk hlS
      (lk xtLow a b c n) (lk xtHigh a b c n) (lk xtStr a b c n) a b c)) (U.add .i64 n (Int.ofNat (lk numsN a b c (401 : Int)))) = false) (.ret (.lit (.bool
      true)))))))))))))))))))))))))))))))))))))))))))))) := by kernel_rfl
set_option maxRecDepth 100000 in
theorem t_SM1110 (a b c n : Int) : (conB Go.Proofs.Try.prog (conOf kM) noLoops 10 4 [.agg [.lit (.int .i64 a), .lit (.int .i64 b), .lit (.int .i64 c)], .lit (.int .i64 n)]).force [false, false, false, false, true, false, false, false, true, false, false, false, false, false, true, false, false, false] =
    T.ask (I64 a ∧ I64 b ∧ I64 c) (.ask (U.not (lk smallB a b c) = false) (.ask (U.lt n (0 : Int) = false) (.ask (U.gt n (400 : Int) = false) (.ask (I64 a ∧ I64 b ∧ I64 c) (.ask (U.eq
      (lk size a b c) (0 : Int) = false) (.ask (I64 a ∧ I64 b ∧ I64 c ∧ (0 : Int) ≤ (401 : Int) ∧ (401 : Int) ≤ (1000000 : Int)) (.ask (I64 a ∧ I64 b ∧ I64 c ∧ I64 n) (.ask (U.eq (lk trE
      a b c n) (0 : Int) = true) (.ask (I64 (lk trLow a b c n) ∧ I64 (lk trHigh a b c n) ∧ I64 (lk trStr a b c n) ∧ I64 (U.sub .i64 0 n)) (.ask (U.ne (lk trE (lk trLow a b c n) (lk trHigh
      a b c n) (lk trStr a b c n) (U.sub .i64 0 n)) (0 : Int) = false) (.ask (U.not (U.andb (U.eq (lk trLow (lk trLow a b c n) (lk trHigh a b c n) (lk trStr a b c n) (U.sub .i64 0 n)) a)
      (U.andb (U.eq (lk trHigh (lk trLow a b c n) (lk trHigh a b c n) (lk trStr a b c n) (U.sub .i64 0 n)) b) (U.eq (lk trStr (lk trLow a b c n) (lk trHigh a b c n) (lk trStr a b c n)
      (U.sub .i64 0 n)) c))) = false) (.ask (I64 (lk trLow a b c n) ∧ I64 (lk trHigh a b c n) ∧ I64 (lk trStr a b c n) ∧ (0 : Int) ≤ (401 : Int) ∧ (401 : Int) ≤ (1000000 : Int)) (.ask (lk
      numsN (lk trLow a b c n) (lk trHigh a b c n) (lk trStr a b c n) (401 : Int) = lk numsN a b c (401 : Int) ∧ AddN (lk numsN (lk trLow a b c n) (lk trHigh a b c n) (lk trStr a b c n)
      (401 : Int)) (fun k => (lk num (lk trLow a b c n) (lk trHigh a b c n) (lk trStr a b c n) k, ())) (fun k => (lk num a b c k, ())) n) (.ask (U.not true = false) (.ask (I64 a ∧ I64 b ∧
      I64 c ∧ I64 n) (.ask (U.eq (lk exE a b c n) (0 : Int) = true) (.ask (I64 (lk exLow a b c n) ∧ I64 (lk exHigh a b c n) ∧ I64 (lk exStr a b c n) ∧ I64 (U.sub .i64 0 n)) (.ask (U.ne
      (lk exE (lk exLow a b c n) (lk exHigh a b c n) (lk exStr a b c n) (U.sub .i64 0 n)) (0 : Int) = false) (.ask (I64 (lk exLow (lk exLow a b c n) (lk exHigh a b c n) (lk exStr a b c n)
      (U.sub .i64 0 n)) ∧ I64 (lk exHigh (lk exLow a b c n) (lk exHigh a b c n) (lk exStr a b c n) (U.sub .i64 0 n)) ∧ I64 (lk exStr (lk exLow a b c n) (lk exHigh a b c n) (lk exStr a b c
      n) (U.sub .i64 0 n)) ∧ lk szN (lk exLow (lk exLow a b c n) (lk exHigh a b c n) (lk exStr a b c n) (U.sub .i64 0 n)) (lk exHigh (lk exLow a b c n) (lk exHigh a b c n) (lk exStr a b c
      n) (U.sub .i64 0 n)) (lk exStr (lk exLow a b c n) (lk exHigh a b c n) (lk exStr a b c n) (U.sub .i64 0 n)) ≤ (401 : Nat)) (.ask (I64 a ∧ I64 b ∧ I64 c ∧ lk szN a b c ≤ (401 : Nat))
      (.ask (lk szN (lk exLow (lk exLow a b c n) (lk exHigh a b c n) (lk exStr a b c n) (U.sub .i64 0 n)) (lk exHigh (lk exLow a b c n) (lk exHigh a b c n) (lk exStr a b c n) (U.sub .i64
      0 n)) (lk exStr (lk exLow a b c n) (lk exHigh a b c n) (lk exStr a b c n) (U.sub .i64 0 n)) ≤ nat_lit 9223372036854775807) (.ask (U.not (lk eqR (lk szN (lk exLow (lk exLow a b c n)
      (lk exHigh a b c n) (lk exStr a b c n) (U.sub .i64 0 n)) (lk exHigh (lk exLow a b c n) (lk exHigh a b c n) (lk exStr a b c n) (U.sub .i64 0 n)) (lk exStr (lk exLow a b c n) (lk
      exHigh a b c n) (lk exStr a b c n) (U.sub .i64 0 n))) (lk srtN (lk exLow (lk exLow a b c n) (lk exHigh a b c n) (lk exStr a b c n) (U.sub .i64 0 n)) (lk exHigh (lk exLow a b c n)
      (lk exHigh a b c n) (lk exStr a b c n) (U.sub .i64 0 n)) (lk exStr (lk exLow a b c n) (lk exHigh a b c n) (lk exStr a b c n) (U.sub .i64 0 n))) (lk szN a b c) (lk srtN a b c)) =
      false) (.ask (I64 (lk exLow a b c n) ∧ I64 (lk exHigh a b c n) ∧ I64 (lk exStr a b c n)) (.ask (U.ne (lk size (lk exLow a b c n) (lk exHigh a b c n) (lk exStr a b c n)) (U.add .i64
      (Int.ofNat (lk numsN a b c (401 : Int))) (U.mul .i64 2 n)) = false) (.ask (I64 a ∧ I64 b ∧ I64 c ∧ I64 (lk exLow a b c n) ∧ I64 (lk exHigh a b c n) ∧ I64 (lk exStr a b c n)) (.ask
      (U.ne (lk ckd a b c (lk exLow a b c n) (lk exHigh a b c n) (lk exStr a b c n)) (0 : Int) = false) (.ask (U.not (lk wiB a b c (lk exLow a b c n) (lk exHigh a b c n) (lk exStr a b c
      n)) = false) (.ask (I64 a ∧ I64 b ∧ I64 c ∧ I64 n) (.ask (U.eq (lk inE a b c n) (0 : Int) = true) (.ask (I64 a ∧ I64 b ∧ I64 c ∧ lk szN a b c ≤ (401 : Nat)) (.ask (U.gt n (Int.ofNat
      (lk szN a b c)) = false) (.ask (I64 (lk inLow a b c n) ∧ I64 (lk inHigh a b c n) ∧ I64 (lk inStr a b c n) ∧ lk szN (lk inLow a b c n) (lk inHigh a b c n) (lk inStr a b c n) ≤ (401 :
      Nat)) (.ask ((0 : Int) ≤ U.sub .i64 (Int.ofNat (lk szN a b c)) n ∧ U.sub .i64 (Int.ofNat (lk szN a b c)) n ≤ ((lk szN a b c : Nat) : Int) ∧ ((lk szN a b c : Nat) : Int) ≤ ((lk szN a
      b c : Nat) : Int)) (.ask (lk szN (lk inLow a b c n) (lk inHigh a b c n) (lk inStr a b c n) ≤ nat_lit 9223372036854775807) (.ask (U.not (lk eqR (lk szN (lk inLow a b c n) (lk inHigh
      a b c n) (lk inStr a b c n)) (lk srtN (lk inLow a b c n) (lk inHigh a b c n) (lk inStr a b c n)) (U.nsub (lk szN a b c) (U.toNat (U.sub .i64 (Int.ofNat (lk szN a b c)) n))) fun i =>
      lk srtN a b c (i + U.toNat (U.sub .i64 (Int.ofNat (lk szN a b c)) n))) = false) (.ask (I64 a ∧ I64 b ∧ I64 c ∧ I64 n) (.ask (U.eq (lk xtE a b c n) (0 : Int) = false) (.ret (.lit
      (.bool true)))))))))))))))))))))))))))))))))))))))) := by kernel_rfl
set_option maxRecDepth 100000 in
theorem t_SM1111 (a b c n : Int) : (conB Go.Proofs.Try.prog (conOf kM) noLoops 10 4 [.agg [.lit (.int .i64 a), .lit (.int .i64 b), .lit (.int .i64 c)], .lit (.int .i64 n)]).force [false, false, false, false, true, false, false, false, true, false, false, false, false, false, true, false, false, true, false, false, false, false, false] =
    T.ask (I64 a ∧ I64 b ∧ I64 c) (.ask (U.not (lk smallB a b c) = false) (.ask (U.lt n (0 : Int) = false) (.ask (U.gt n (400 : Int) = false) (.ask (I64 a ∧ I64 b ∧ I64 c) (.ask (U.eq
      (lk size a b c) (0 : Int) = false) (.ask (I64 a ∧ I64 b ∧ I64 c ∧ (0 : Int) ≤ (401 : Int) ∧ (401 : Int) ≤ (1000000 : Int)) (.ask (I64 a ∧ I64 b ∧ I64 c ∧ I64 n) (.ask (U.eq (lk trE
      a b c n) (0 : Int) = true) (.ask (I64 (lk trLow a b c n) ∧ I64 (lk trHigh a b c n) ∧ I64 (lk trStr a b c n) ∧ I64 (U.sub .i64 0 n)) (.ask (U.ne (lk trE (lk trLow a b c n) (lk trHigh
      a b c n) (lk trStr a b c n) (U.sub .i64 0 n)) (0 : Int) = false) (.ask (U.not (U.andb (U.eq (lk trLow (lk trLow a b c n) (lk trHigh a b c n) (lk trStr a b c n) (U.sub .i64 0 n)) a)
      (U.andb (U.eq (lk trHigh (lk trLow a b c n) (lk trHigh a b c n) (lk trStr a b c n) (U.sub .i64 0 n)) b) (U.eq (lk trStr (lk trLow a b c n) (lk trHigh a b c n) (lk trStr a b c n)
      (U.sub .i64 0 n)) c))) = false) (.ask (I64 (lk trLow a b c n) ∧ I64 (lk trHigh a b c n) ∧ I64 (lk trStr a b c n) ∧ (0 : Int) ≤ (401 : Int) ∧ (401 : Int) ≤ (1000000 : Int)) (.ask (lk
      numsN (lk trLow a b c n) (lk trHigh a b c n) (lk trStr a b c n) (401 : Int) = lk numsN a b c (401 : Int) ∧ AddN (lk numsN (lk trLow a b c n) (lk trHigh a b c n) (lk trStr a b c n)
      (401 : Int)) (fun k => (lk num (lk trLow a b c n) (lk trHigh a b c n) (lk trStr a b c n) k, ())) (fun k => (lk num a b c k, ())) n) (.ask (U.not true = false) (.ask (I64 a ∧ I64 b ∧
      I64 c ∧ I64 n) (.ask (U.eq (lk exE a b c n) (0 : Int) = true) (.ask (I64 (lk exLow a b c n) ∧ I64 (lk exHigh a b c n) ∧ I64 (lk exStr a b c n) ∧ I64 (U.sub .i64 0 n)) (.ask (U.ne
      (lk exE (lk exLow a b c n) (lk exHigh a b c n) (lk exStr a b c n) (U.sub .i64 0 n)) (0 : Int) = false) (.ask (I64 (lk exLow (lk exLow a b c n) (lk exHigh a b c n) (lk exStr a b c n)
      (U.sub .i64 0 n)) ∧ I64 (lk exHigh (lk exLow a b c n) (lk exHigh a b c n) (lk exStr a b c n) (U.sub .i64 0 n)) ∧ I64 (lk exStr (lk exLow a b c n) (lk exHigh a b c n) (lk exStr a b c
      n) (U.sub .i64 0 n)) ∧ lk szN (lk exLow (lk exLow a b c n) (lk exHigh a b c n) (lk exStr a b c n) (U.sub .i64 0 n)) (lk exHigh (lk exLow a b c n) (lk exHigh a b c n) (lk exStr a b c
      n) (U.sub .i64 0 n)) (lk exStr (lk exLow a b c n) (lk exHigh a b c n) (lk exStr a b c n) (U.sub .i64 0 n)) ≤ (401 : Nat)) (.ask (I64 a ∧ I64 b ∧ I64 c ∧ lk szN a b c ≤ (401 : Nat))
      (.ask (lk szN (lk exLow (lk exLow a b c n) (lk exHigh a b c n) (lk exStr a b c n) (U.sub .i64 0 n)) (lk exHigh (lk exLow a b c n) (lk exHigh a b c n) (lk exStr a b c n) (U.sub .i64
      0 n)) (lk exStr (lk exLow a b c n) (lk exHigh a b c n) (lk exStr a b c n) (U.sub .i64 0 n)) ≤ nat_lit 9223372036854775807) (.ask (U.not (lk eqR (lk szN (lk exLow (lk exLow a b c n)
      (lk exHigh a b c n) (lk exStr a b c n) (U.sub .i64 0 n)) (lk exHigh (lk exLow a b c n) (lk exHigh a b c n) (lk exStr a b c n) (U.sub .i64 0 n)) (lk exStr (lk exLow a b c n) (lk
      exHigh a b c n) (lk exStr a b c n) (U.sub .i64 0 n))) (lk srtN (lk exLow (lk exLow a b c n) (lk exHigh a b c n) (lk exStr a b c n) (U.sub .i64 0 n)) (lk exHigh (lk exLow a b c n)
      (lk exHigh a b c n) (lk exStr a b c n) (U.sub .i64 0 n)) (lk exStr (lk exLow a b c n) (lk exHigh a b c n) (lk exStr a b c n) (U.sub .i64 0 n))) (lk szN a b c) (lk srtN a b c)) =
      false) (.ask (I64 (lk exLow a b c n) ∧ I64 (lk exHigh a b c n) ∧ I64 (lk exStr a b c n)) (.ask (U.ne (lk size (lk exLow a b c n) (lk exHigh a b c n) (lk exStr a b c n)) (U.add .i64
      (Int.ofNat (lk numsN a b c (401 : Int))) (U.mul .i64 2 n)) = false) (.ask (I64 a ∧ I64 b ∧ I64 c ∧ I64 (lk exLow a b c n) ∧ I64 (lk exHigh a b c n) ∧ I64 (lk exStr a b c n)) (.ask
      (U.ne (lk ckd a b c (lk exLow a b c n) (lk exHigh a b c n) (lk exStr a b c n)) (0 : Int) = false) (.ask (U.not (lk wiB a b c (lk exLow a b c n) (lk exHigh a b c n) (lk exStr a b c
      n)) = false) (.ask (I64 a ∧ I64 b ∧ I64 c ∧ I64 n) (.ask (U.eq (lk inE a b c n) (0 : Int) = true) (.ask (I64 a ∧ I64 b ∧ I64 c ∧ lk szN a b c ≤ (401 : Nat)) (.ask (U.gt n (Int.ofNat
      (lk szN a b c)) = false) (.ask (I64 (lk inLow a b c n) ∧ I64 (lk inHigh a b c n) ∧ I64 (lk inStr a b c n) ∧ lk szN (lk inLow a b c n) (lk inHigh a b c n) (lk inStr a b c n) ≤ (401 :
      Nat)) (.ask ((0 : Int) ≤ U.sub .i64 (Int.ofNat (lk szN a b c)) n ∧ U.sub .i64 (Int.ofNat (lk szN a b c)) n ≤ ((lk szN a b c : Nat) : Int) ∧ ((lk szN a b c : Nat) : Int) ≤ ((lk szN a
      b c : Nat) : Int)) (.ask (lk szN (lk inLow a b c n) (lk inHigh a b c n) (lk inStr a b c n) ≤ nat_lit 9223372036854775807) (.ask (U.not (lk eqR (lk szN (lk inLow a b c n) (lk inHigh
      a b c n) (lk inStr a b c n)) (lk srtN (lk inLow a b c n) (lk inHigh a b c n) (lk inStr a b c n)) (U.nsub (lk szN a b c) (U.toNat (U.sub .i64 (Int.ofNat (lk szN a b c)) n))) fun i =>
      lk srtN a b c (i + U.toNat (U.sub .i64 (Int.ofNat (lk szN a b c)) n))) = false) (.ask (I64 a ∧ I64 b ∧ I64 c ∧ I64 n) (.ask (U.eq (lk xtE a b c n) (0 : Int) = true) (.ask (I64 (lk
      xtLow a b c n) ∧ I64 (lk xtHigh a b c n) ∧ I64 (lk xtStr a b c n) ∧ I64 a ∧ I64 b ∧ I64 c) (.ask (I64 (lk xtLow a b c n) ∧ I64 (lk xtHigh a b c n) ∧ I64 (lk xtStr a b c n) ∧ I64 a ∧
      I64 b ∧ I64 c) (.ask (U.ne (lk isEr (lk xtLow a b c n) (lk xtHigh a b c n) (lk xtStr a b c n) a b c) (0 : Int) = false) (.ask (U.ne (lk hlE (lk xtLow a b c n) (lk xtHigh a b c n)
      (lk xtStr a b c n) a b c) (0 : Int) = false) (.ask (I64 (lk isL (lk xtLow a b c n) (lk xtHigh a b c n) (lk xtStr a b c n) a b c) ∧ I64 (lk isH (lk xtLow a b c n) (lk xtHigh a b c n)
      (lk xtStr a b c n) a b c) ∧ I64 (lk isS (lk xtLow a b c n) (lk xtHigh a b c n) (lk xtStr a b c n) a b c)) (.ask (U.ne (lk size (lk isL (lk xtLow a b c n) (lk xtHigh a b c n) (lk
      xtStr a b c n) a b c) (lk isH (lk xtLow a b c n) (lk xtHigh a b c n) (lk xtStr a b c n) a b c) (lk isS (lk xtLow a b c n) (lk xtHigh a b c n) (lk xtStr a b c n) a b c)) (0 : Int) =
      false) (.ask (I64 (lk xtLow a b c n) ∧ I64 (lk xtHigh a b c n) ∧ I64 (lk xtStr a b c n)) (.ask (U.ne (lk size (lk xtLow a b c n) (lk xtHigh a b c n) (lk xtStr a b c n)) n = false)
      (.ask (I64 (lk hlL (lk xtLow a b c n) (lk xtHigh a b c n) (lk xtStr a b c n) a b c) ∧ I64 (lk hlH (lk xtLow a b c n) (lk xtHigh a b c n) (lk xtStr a b c n) a b c) ∧ I64 (lk hlS (lk
      xtLow a b c n) (lk xtHigh a b c n) (lk xtStr a b c n) a b c)) (.ask (U.ne (lk size (lk hlL (lk xtLow a b c n) (lk xtHigh a b c n) (lk xtStr a b c n) a b c) (lk hlH (lk xtLow a b c
      n) (lk xtHigh a b c n) (lk xtStr a b c n) a b c) (lk hlS (lk xtLow a b c n) (lk xtHigh a b c n) (lk xtStr a b c n) a b c)) (U.add .i64 n (Int.ofNat (lk numsN a b c (401 : Int)))) =
      false) (.ret (.lit (.bool true)))))))))))))))))))))))))))))))))))))))))))))))))) := by kernel_rfl
end Go.RX.Span

/- Ranges moved, in plain Lean. -/
set_option linter.unusedVariables false
set_option linter.unusedSimpArgs false
namespace Go.RX.Span
open Go Go.RX

/-- A right range out of a series upwards. -/
theorem right_mk {f s C c : Int} (hs : 1 ≤ s) (hC : 1 ≤ C) (hl : -1000000 ≤ f) (hh : f + s * (C - 1) ≤ 1000000) (hc : c = s ∨ c = -s) (h1 : C = 1 → c = 1) :
    Right f (f + s * (C - 1)) c ∧ ofC f (f + s * (C - 1)) c = C ∧ f ≤ f + s * (C - 1) := by
  by_cases hC1 : C = 1
  · subst hC1
    rw [show s * (1 - 1) = 0 by simp] at hh ⊢
    rw [h1 rfl]
    refine ⟨⟨by omega, .inr (.inl ⟨by omega, rfl⟩)⟩, ?_, by omega⟩
    unfold ofC
    rw [if_neg (by omega), if_neg (by omega), show f + 0 - f = 0 by omega]; rfl
  · have hm := mulle (s := s) (x := 1) (y := C - 1) hs (by omega)
    rw [Int.mul_one] at hm
    have e : f + s * (C - 1) - f = s * (C - 1) := by omega
    have hd : c ∣ s * (C - 1) := by
      rcases hc with rfl | rfl
      · exact Int.dvd_mul_right _ _
      · exact Int.neg_dvd.2 (Int.dvd_mul_right _ _)
    refine ⟨⟨by omega, .inr (.inr ⟨by omega, by omega, by rw [e]; exact Int.emod_eq_zero_of_dvd hd⟩)⟩, ?_, by omega⟩
    unfold ofC
    rw [if_neg (by omega), e]
    rcases hc with rfl | rfl
    · rw [if_neg (by omega), Int.mul_ediv_cancel_left _ (by omega)]; omega
    · rw [if_pos (by omega), Int.neg_neg, Int.mul_ediv_cancel_left _ (by omega)]; omega

section
variable {a b c n : Int}
theorem right_one (hr : Right a b c) (hab : a ≤ b) : ofC a b c = 1 → c = 1 := fun h => by
  obtain ⟨p1, p2, p3, p4, p5, p6, p7, p8, p9, p10⟩ := parts hr hab
  rw [h, Int.sub_self, Int.mul_zero] at p5
  exact p10 (by omega)
/-- A moved series that is right. -/
theorem mv_val {f s C c : Int} (hs : 1 ≤ s) (hC : 1 ≤ C) (hc : c = s ∨ c = -s) (h1 : C = 1 → c = 1) (hE : mvE f s C = 0) :
    mvLow f s C = f ∧ mvHigh f s C = f + s * (C - 1) ∧ mvStr f s C c = c ∧ Right f (f + s * (C - 1)) c ∧ ofC f (f + s * (C - 1)) c = C ∧ f ≤ f + s * (C - 1) := by
  have hl : (-1000000 ≤ f ∧ f ≤ 1000000) ∧ (-1000000 ≤ f + s * (C - 1) ∧ f + s * (C - 1) ≤ 1000000) := by
    unfold mvE at hE
    rw [if_neg (by omega)] at hE
    refine Classical.byContradiction fun h => ?_
    rw [if_neg h] at hE; omega
  have hn : ¬ C ≤ 0 := by omega
  refine ⟨by unfold mvLow; rw [if_neg hn, if_pos hE], by unfold mvHigh; rw [if_neg hn, if_pos hE], ?_, right_mk hs hC hl.1.1 hl.2.2 hc h1⟩
  unfold mvStr
  rw [if_neg hn, if_pos hE]
  split
  · rename_i h; exact (h1 h).symm
  · rcases hc with rfl | rfl
    · rw [if_neg (by omega)]
    · rw [if_pos (by omega)]
theorem mvE_zero {f s C : Int} (hl : -1000000 ≤ f ∧ f ≤ 1000000) (hh : -1000000 ≤ f + s * (C - 1) ∧ f + s * (C - 1) ≤ 1000000) : mvE f s C = 0 := by
  unfold mvE; split
  · rfl
  · rw [if_pos ⟨hl, hh⟩]

theorem tr_val (hr : Right a b c) (hab : a ≤ b) (h0 : -2000000 ≤ n) (h1 : n ≤ 2000000) : trE a b c n = mvE (a + n) (absI c) (ofC a b c) ∧ (trE a b c n = 0 → trLow a b c n = a + n ∧ trHigh a b c n = b + n ∧ trStr a b c n = c ∧ Right (a + n) (b + n) c) := by
  obtain ⟨p1, p2, p3, p4, p5, p6, p7, p8, p9, p10⟩ := parts hr hab
  have hk : ¬ chk a b c ≠ 0 := by simp [chk_zero.2 hr]
  have hm : max n (-3000000) = n := by omega
  have hE : trE a b c n = mvE (a + n) (absI c) (ofC a b c) := by
    unfold trE; rw [if_neg hk, if_neg (by omega), if_neg (by omega), hm]
  refine ⟨hE, fun h => ?_⟩
  rw [hE] at h
  obtain ⟨m1, m2, m3, m4, m5, m6⟩ := mv_val (c := c) p1 (by omega) p8 (right_one hr hab) h
  have eb : a + n + absI c * (ofC a b c - 1) = b + n := by omega
  rw [eb] at m2 m4
  unfold trLow trHigh trStr
  rw [if_neg hk, if_neg hk, if_neg hk, if_neg (show ¬ a > b by omega), if_neg (show ¬ a > b by omega), if_neg (show ¬ a > b by omega), if_neg (show ¬ n > 2000000 by omega), if_neg (show ¬ n > 2000000 by omega), if_neg (show ¬ n > 2000000 by omega), hm]
  exact ⟨m1, m2, m3, m4⟩
theorem tr_back (hr : Right a b c) (hab : a ≤ b) (h0 : 0 ≤ n) (h1 : n ≤ 400) (hE : trE a b c n = 0) : trE (a + n) (b + n) c (-n) = 0 ∧ trLow (a + n) (b + n) c (-n) = a ∧ trHigh (a + n) (b + n) c (-n) = b ∧ trStr (a + n) (b + n) c (-n) = c := by
  obtain ⟨_, _, _, _, r⟩ := tr_val hr hab (by omega) (by omega) |>.2 hE |> fun h => (⟨trivial, h.1, h.2.1, h.2.2.1, h.2.2.2⟩ : True ∧ _ ∧ _ ∧ _ ∧ _)
  obtain ⟨t1, t2⟩ := tr_val r (by omega) (n := -n) (by omega) (by omega)
  obtain ⟨p1, p2, p3, p4, p5, p6, p7, p8, p9, p10⟩ := parts r (by omega)
  have hl := hr.1
  have e : trE (a + n) (b + n) c (-n) = 0 := by
    rw [t1]; exact mvE_zero (by omega) (by omega)
  obtain ⟨g1, g2, g3, _⟩ := t2 e
  exact ⟨e, by omega, by omega, g3⟩
theorem ofC_add (hr : Right a b c) (hab : a ≤ b) (r : Right (a + n) (b + n) c) : ofC (a + n) (b + n) c = ofC a b c ∧ ∀ k, num (a + n) (b + n) c k = num a b c k + n := by
  obtain ⟨p1, p2, p3, p4, p5, p6, p7, p8, p9, p10⟩ := parts hr hab
  obtain ⟨q1, q2, q3, q4, q5, q6, q7, q8, q9, q10⟩ := parts r (by omega)
  refine ⟨?_, fun k => ?_⟩
  · have e : absI c * (ofC (a + n) (b + n) c - 1) = absI c * (ofC a b c - 1) := by omega
    have := Int.eq_of_mul_eq_mul_left (by omega) e
    omega
  · rw [num_eq r (by omega), num_eq hr hab]
    split <;> omega
theorem ex_val (hr : Right a b c) (hab : a ≤ b) (h1 : n ≤ 2000000) (h2 : 1 ≤ ofC a b c + 2 * n) (hn : c = 1 ∨ 2 ≤ ofC a b c + 2 * n) : exE a b c n = mvE (a - n * absI c) (absI c) (ofC a b c + 2 * n) ∧
    (exE a b c n = 0 → exLow a b c n = a - n * absI c ∧ exHigh a b c n = b + n * absI c ∧ exStr a b c n = c ∧ Right (a - n * absI c) (b + n * absI c) c ∧ ofC (a - n * absI c) (b + n * absI c) c = ofC a b c + 2 * n ∧ a - n * absI c ≤ b + n * absI c) := by
  obtain ⟨p1, p2, p3, p4, p5, p6, p7, p8, p9, p10⟩ := parts hr hab
  have hk : ¬ chk a b c ≠ 0 := by simp [chk_zero.2 hr]
  have hC : exC a b c n = ofC a b c + 2 * n := by unfold exC; rw [if_neg (by omega)]; omega
  have hE : exE a b c n = mvE (a - n * absI c) (absI c) (ofC a b c + 2 * n) := by
    unfold exE; rw [if_neg hk, if_neg (by omega), if_neg (by omega), hC]
  refine ⟨hE, fun h => ?_⟩
  rw [hE] at h
  obtain ⟨m1, m2, m3, m4, m5, m6⟩ := mv_val (c := c) p1 (by omega) p8 (fun e => by omega) h
  have eb : a - n * absI c + absI c * (ofC a b c + 2 * n - 1) = b + n * absI c := by
    have : absI c * (ofC a b c + 2 * n - 1) = absI c * (ofC a b c - 1) + 2 * (n * absI c) := by grind
    omega
  rw [eb] at m2 m4 m5 m6
  unfold exLow exHigh exStr
  rw [if_neg hk, if_neg hk, if_neg hk, if_neg (show ¬ a > b by omega), if_neg (show ¬ a > b by omega), if_neg (show ¬ a > b by omega), if_neg (show ¬ n > 2000000 by omega), if_neg (show ¬ n > 2000000 by omega), if_neg (show ¬ n > 2000000 by omega), hC]
  exact ⟨m1, m2, m3, m4, m5, m6⟩
theorem ex_back (hr : Right a b c) (hab : a ≤ b) (h0 : 0 ≤ n) (h1 : n ≤ 400) (r : Right (a - n * absI c) (b + n * absI c) c) (rC : ofC (a - n * absI c) (b + n * absI c) c = ofC a b c + 2 * n) (rl : a - n * absI c ≤ b + n * absI c) :
    exE (a - n * absI c) (b + n * absI c) c (-n) = 0 ∧ exLow (a - n * absI c) (b + n * absI c) c (-n) = a ∧ exHigh (a - n * absI c) (b + n * absI c) c (-n) = b ∧ exStr (a - n * absI c) (b + n * absI c) c (-n) = c := by
  obtain ⟨p1, p2, p3, p4, p5, p6, p7, p8, p9, p10⟩ := parts hr hab
  have hl := hr.1
  obtain ⟨t1, t2⟩ := ex_val r rl (n := -n) (by omega) (by omega) (by
    by_cases h : ofC a b c = 1
    · exact .inl (right_one hr hab h)
    · exact .inr (by omega))
  have en : -n * absI c = -(n * absI c) := Int.neg_mul _ _
  have e : exE (a - n * absI c) (b + n * absI c) c (-n) = 0 := by
    rw [t1, rC, en, show a - n * absI c - -(n * absI c) = a by omega, show ofC a b c + 2 * n + 2 * -n = ofC a b c by omega]
    exact mvE_zero (by omega) (by omega)
  obtain ⟨g1, g2, g3, _⟩ := t2 e
  rw [en] at g1 g2
  exact ⟨e, by omega, by omega, g3⟩
end
end Go.RX.Span

/- Ranges' parts, and their numbers in order, in plain Lean. -/
set_option linter.unusedVariables false
set_option linter.unusedSimpArgs false
namespace Go.RX.Span
open Go Go.RX

/-- The stride of so many numbers. -/
def strOf (C c : Int) : Int := if C = 1 then 1 else c
theorem right_mk' {f s C c : Int} (hs : 1 ≤ s) (hC : 1 ≤ C) (hl : -1000000 ≤ f) (hh : f + s * (C - 1) ≤ 1000000) (hc : c = s ∨ c = -s) :
    Right f (f + s * (C - 1)) (strOf C c) ∧ ofC f (f + s * (C - 1)) (strOf C c) = C ∧ f ≤ f + s * (C - 1) ∧ ∀ m, RIn f (f + s * (C - 1)) (strOf C c) m ↔ SIn f s C m := by
  have key : Right f (f + s * (C - 1)) (strOf C c) ∧ ofC f (f + s * (C - 1)) (strOf C c) = C ∧ f ≤ f + s * (C - 1) := by
    by_cases h : C = 1
    · subst h
      rw [show strOf 1 c = 1 from if_pos rfl]
      have := right_mk (f := f) (s := 1) (C := 1) (c := 1) (by omega) (by omega) hl (by simp at hh ⊢; omega) (.inl rfl) (fun _ => rfl)
      simpa using this
    · rw [show strOf C c = c from if_neg h]
      exact right_mk hs hC hl hh hc (fun e => absurd e h)
  refine ⟨key.1, key.2.1, key.2.2, rin_of hC key.1 key.2.2 rfl key.2.1 fun h => ?_⟩
  rw [show strOf C c = c from if_neg h]
  rcases hc with rfl | rfl
  · exact absI_pos (by omega)
  · rw [absI_neg (by omega)]; omega
theorem mv_str {f s C c : Int} (hC : 1 ≤ C) (hc : c = s ∨ c = -s) (hs : 1 ≤ s) (hE : mvE f s C = 0) : mvLow f s C = f ∧ mvHigh f s C = f + s * (C - 1) ∧ mvStr f s C c = strOf C c ∧ -1000000 ≤ f ∧ f + s * (C - 1) ≤ 1000000 := by
  have hl : (-1000000 ≤ f ∧ f ≤ 1000000) ∧ (-1000000 ≤ f + s * (C - 1) ∧ f + s * (C - 1) ≤ 1000000) := by
    unfold mvE at hE
    rw [if_neg (by omega)] at hE
    refine Classical.byContradiction fun h => ?_
    rw [if_neg h] at hE; omega
  have hn : ¬ C ≤ 0 := by omega
  refine ⟨by unfold mvLow; rw [if_neg hn, if_pos hE], by unfold mvHigh; rw [if_neg hn, if_pos hE], ?_, hl.1.1, hl.2.2⟩
  unfold mvStr strOf
  rw [if_neg hn, if_pos hE]
  rcases hc with rfl | rfl
  · rw [if_neg (show ¬ c < 0 by omega)]
  · rw [if_pos (show -s < 0 by omega)]

section
variable {a b c n : Int}
theorem rin_sin (hr : Right a b c) (hab : a ≤ b) (m : Int) : RIn a b c m ↔ SIn a (absI c) (ofC a b c) m := by
  obtain ⟨p1, p2, p3, p4, p5, p6, p7, p8, p9, p10⟩ := parts hr hab
  exact rin_of (by omega) hr hab rfl rfl (fun _ => rfl) m
/-- A wider range has the numbers. -/
theorem ex_within (hr : Right a b c) (hab : a ≤ b) (h0 : 0 ≤ n) (r : Right (a - n * absI c) (b + n * absI c) c) (rC : ofC (a - n * absI c) (b + n * absI c) c = ofC a b c + 2 * n) (rl : a - n * absI c ≤ b + n * absI c) :
    wiB a b c (a - n * absI c) (b + n * absI c) c = true := by
  obtain ⟨p1, p2, p3, p4, p5, p6, p7, p8, p9, p10⟩ := parts hr hab
  refine (wi_set hr r).2 fun m hm => ?_
  rw [rin_sin hr hab] at hm
  rw [rin_sin r rl, rC]
  obtain ⟨h1, h2, h3, p, rfl⟩ := hm
  have hns : 0 ≤ n * absI c := Int.mul_nonneg h0 (by omega)
  refine ⟨by omega, ?_, by omega, p + n, by grind⟩
  have e : a - n * absI c + absI c * (ofC a b c + 2 * n - 1) = a + absI c * (ofC a b c - 1) + n * absI c := by grind
  omega
theorem in_val (hr : Right a b c) (hab : a ≤ b) (h0 : 0 ≤ n) : (n > ofC a b c → inE a b c n = 5) ∧ (n = 0 → inE a b c n = 0 ∧ inLow a b c n = 1 ∧ inHigh a b c n = 0 ∧ inStr a b c n = 1) ∧
    (1 ≤ n → n ≤ ofC a b c → inE a b c n = 0 ∧ inLow a b c n = a + absI c * (ofC a b c - n) ∧ inHigh a b c n = a + absI c * (ofC a b c - n) + absI c * (n - 1) ∧ inStr a b c n = strOf n c ∧ -1000000 ≤ a + absI c * (ofC a b c - n) ∧ a + absI c * (ofC a b c - n) + absI c * (n - 1) ≤ 1000000) := by
  obtain ⟨p1, p2, p3, p4, p5, p6, p7, p8, p9, p10⟩ := parts hr hab
  have hk : ¬ chk a b c ≠ 0 := by simp [chk_zero.2 hr]
  have hl := hr.1
  refine ⟨fun h => ?_, fun h => ?_, fun h h' => ?_⟩
  · unfold inE; rw [if_neg hk, if_pos (.inl h)]
  · subst h
    unfold inE inLow inHigh inStr
    have hn : ¬ ((0 : Int) > ofC a b c ∨ (0 : Int) < -ofC a b c) := by omega
    simp only [if_neg hk, if_neg hn, if_true, and_self]
  · have hn : ¬ (n > ofC a b c ∨ n < -ofC a b c) := by omega
    have hF : inF a b c n = a + absI c * (ofC a b c - n) := by unfold inF; rw [if_pos (by omega)]
    have hA : absI n = n := absI_pos (by omega)
    have hm := mulle (s := absI c) (x := 0) (y := ofC a b c - n) p1 (by omega)
    have hm2 := mulle (s := absI c) (x := ofC a b c - n) (y := ofC a b c - 1) p1 (by omega)
    have eb : a + absI c * (ofC a b c - n) + absI c * (n - 1) = b := by
      have : absI c * (ofC a b c - n) + absI c * (n - 1) = absI c * (ofC a b c - 1) := by grind
      omega
    have hE : mvE (a + absI c * (ofC a b c - n)) (absI c) n = 0 := mvE_zero (by omega) (by omega)
    obtain ⟨m1, m2, m3, m4, m5⟩ := mv_str (c := c) h p8 p1 hE
    unfold inE inLow inHigh inStr
    simp only [if_neg hk, if_neg hn, if_neg (show ¬ n = 0 by omega), hF, hA]
    exact ⟨hE, m1, m2, m3, m4, m5⟩
theorem xt_val (hr : Right a b c) (hab : a ≤ b) (h0 : 0 ≤ n) (h1 : n ≤ 400) : (n = 0 → xtE a b c n = 0 ∧ xtLow a b c n = 1 ∧ xtHigh a b c n = 0 ∧ xtStr a b c n = 1) ∧
    (1 ≤ n → xtE a b c n = 0 → xtLow a b c n = b + absI c ∧ xtHigh a b c n = b + absI c + absI c * (n - 1) ∧ xtStr a b c n = strOf n c ∧ b + absI c + absI c * (n - 1) ≤ 1000000) := by
  obtain ⟨p1, p2, p3, p4, p5, p6, p7, p8, p9, p10⟩ := parts hr hab
  have hk : ¬ chk a b c ≠ 0 := by simp [chk_zero.2 hr]
  have hC : xtC n = n := by unfold xtC; rw [if_pos (by omega)]
  have hF : xtF a b c n = b + absI c := by unfold xtF; rw [if_pos (by omega)]
  have hab' : ¬ a > b := by omega
  have hn2 : ¬ n > 2000000 := by omega
  refine ⟨fun h => ?_, fun h hE => ?_⟩
  · subst h
    unfold xtE xtLow xtHigh xtStr
    simp only [if_neg hk, if_neg hab', if_neg hn2, hC]
    exact ⟨rfl, rfl, rfl, rfl⟩
  · unfold xtE at hE
    unfold xtLow xtHigh xtStr
    simp only [if_neg hk, if_neg hab', if_neg hn2, hC, hF] at hE ⊢
    obtain ⟨m1, m2, m3, m4, m5⟩ := mv_str (c := c) h p8 p1 hE
    exact ⟨m1, m2, m3, m5⟩
/-- The part outside: nothing in common, and a hull of all. -/
theorem xt_sets {x y z : Int} (hr : Right a b c) (hab : a ≤ b) (h0 : 0 ≤ n) (h : (n = 0 ∧ x = 1 ∧ y = 0 ∧ z = 1) ∨ (1 ≤ n ∧ x = b + absI c ∧ y = b + absI c + absI c * (n - 1) ∧ z = strOf n c ∧ b + absI c + absI c * (n - 1) ≤ 1000000)) :
    Right x y z ∧ isEr x y z a b c = 0 ∧ hlE x y z a b c = 0 ∧ size (isL x y z a b c) (isH x y z a b c) (isS x y z a b c) = 0 ∧ size x y z = n ∧ size (hlL x y z a b c) (hlH x y z a b c) (hlS x y z a b c) = n + ofC a b c := by
  obtain ⟨p1, p2, p3, p4, p5, p6, p7, p8, p9, p10⟩ := parts hr hab
  have hl := hr.1
  have e0 : ofC 1 0 1 = 0 := by unfold ofC; rw [if_pos (by omega)]
  have noR : ∀ {p q r : Int}, Right p q r → (∀ m, ¬ RIn p q r m) → size p q r = 0 := fun hR hn => by
    rw [size_eq' hR, (rin_ext hR right_empty fun m => ⟨fun h => absurd h (hn m), fun h => absurd h (rin_empty m)⟩).2.2, e0]
  rcases h with ⟨rfl, rfl, rfl, rfl⟩ | ⟨h1, rfl, rfl, rfl, hlim⟩
  · obtain ⟨i1, i2, i3⟩ := is_set right_empty hr
    obtain ⟨g1, g2, g3, g4, g5⟩ := hl_set right_empty hr
    refine ⟨right_empty, i1, g1, noR i2 fun m hm => rin_empty m ((i3 m).1 hm).1, by rw [size_eq' right_empty, e0], ?_⟩
    rw [size_eq' g2, (rin_ext g2 hr fun m => ⟨g5 a b c (fun m hm => absurd hm (rin_empty m)) (fun _ h => h) m, g4 m⟩).2.2]; omega
  · obtain ⟨r1, r2, r3, r4⟩ := right_mk' (f := b + absI c) (s := absI c) (C := n) (c := c) p1 h1 (by omega) hlim p8
    obtain ⟨i1, i2, i3⟩ := is_set r1 hr
    obtain ⟨g1, g2, g3, g4, g5⟩ := hl_set r1 hr
    have eb : a + absI c * (ofC a b c + n - 1) = b + absI c + absI c * (n - 1) := by
      have : absI c * (ofC a b c + n - 1) = absI c * (ofC a b c - 1) + absI c + absI c * (n - 1) := by grind
      omega
    obtain ⟨w1, w2, w3, w4⟩ := right_mk' (f := a) (s := absI c) (C := ofC a b c + n) (c := c) p1 (by omega) (by omega) (by omega) p8
    refine ⟨r1, i1, g1, noR i2 fun m hm => ?_, by rw [size_eq' r1, r2], ?_⟩
    · obtain ⟨h1, h2⟩ := (i3 m).1 hm
      rw [r4] at h1
      rw [rin_sin hr hab] at h2
      obtain ⟨q1, _⟩ := h1
      obtain ⟨_, q2, _⟩ := h2
      omega
    · rw [size_eq' g2, (rin_ext g2 w1 fun m => ⟨g5 _ _ _ (fun m hm => ?_) (fun m hm => ?_) m, fun hm => ?_⟩).2.2, w2]
      · omega
      · rw [r4] at hm; rw [w4]
        obtain ⟨q1, q2, q3, p, rfl⟩ := hm
        refine ⟨by omega, by omega, by omega, p + ofC a b c, ?_⟩
        have : absI c * (p + ofC a b c) = absI c * p + absI c * (ofC a b c - 1) + absI c := by grind
        omega
      · rw [rin_sin hr hab] at hm; rw [w4]
        obtain ⟨q1, q2, q3, p, rfl⟩ := hm
        have := mulle (s := absI c) (x := 0) (y := n - 1) p1 (by omega)
        exact ⟨q1, by omega, by omega, p, rfl⟩
      · rw [w4] at hm
        obtain ⟨q1, q2, q3, p, rfl⟩ := hm
        by_cases hp : p < ofC a b c
        · refine g4 _ ((rin_sin hr hab _).2 ⟨q1, ?_, by omega, p, rfl⟩)
          have := mulle (s := absI c) (x := p) (y := ofC a b c - 1) p1 (by omega)
          omega
        · refine g3 _ ((r4 _).2 ⟨?_, by omega, by omega, p - ofC a b c, ?_⟩)
          · have := mulle (s := absI c) (x := ofC a b c) (y := p) p1 (by omega)
            have e : absI c * ofC a b c = absI c * (ofC a b c - 1) + absI c := by grind
            omega
          · have e : absI c * (p - ofC a b c) = absI c * p - (absI c * (ofC a b c - 1) + absI c) := by grind
            omega

/-! The numbers in order. -/
theorem szN_eq (hr : Right a b c) : szN a b c = (ofC a b c).toNat := by unfold szN; rw [size_eq' hr]
theorem srt_val (hr : Right a b c) (hab : a ≤ b) {i : Nat} (hi : i < szN a b c) : at1 (srtN a b c) i = a + absI c * (i : Int) := by
  obtain ⟨p1, p2, p3, p4, p5, p6, p7, p8, p9, p10⟩ := parts hr hab
  obtain ⟨C, hC⟩ : ∃ C : Nat, C = szN a b c := ⟨_, rfl⟩
  have hC' : (C : Int) = ofC a b c := by rw [hC, szN_eq hr]; omega
  obtain ⟨tgt, ht⟩ : ∃ tgt : List Int, tgt = (List.range C).map fun k : Nat => a + absI c * (k : Int) := ⟨_, rfl⟩
  have hperm : (listL C (numF a b c)).Perm tgt := by
    by_cases hc : c < 0
    · have e : listL C (numF a b c) = tgt.reverse := by
        rw [ht]
        apply List.ext_getElem
        · simp [listL]
        · intro k h1 h2
          have hk : k < C := by simpa [listL] using h1
          have e1 : at1 (numF a b c) k = num a b c k := rfl
          simp only [listL, List.getElem_map, List.getElem_range, List.getElem_reverse, List.length_map, List.length_range, e1]
          rw [num_eq hr hab, if_pos hc, absI_neg hc]
          have e2 : ((C - 1 - k : Nat) : Int) = (C : Int) - 1 - k := by omega
          rw [e2, hC']
          have e3 : -c * (ofC a b c - 1 - (k : Int)) = -c * (ofC a b c - 1) + c * k := by grind
          rw [absI_neg hc] at p5
          omega
      rw [e]; exact List.reverse_perm _
    · have e : listL C (numF a b c) = tgt := by
        rw [ht]
        unfold listL
        apply List.map_congr_left
        intro k _
        show num a b c k = _
        rw [num_eq hr hab, if_neg hc, absI_pos hc]
      rw [e]
  have hsort : List.Pairwise (fun x y : Int => decide (x ≤ y) = true) tgt := by
    rw [ht, List.pairwise_map]
    refine List.pairwise_lt_range.imp fun {x y} h => ?_
    have := mulle (s := absI c) (x := (x : Int)) (y := (y : Int)) p1 (by omega)
    simp only [decide_eq_true_eq]; omega
  have es : srtL C (numF a b c) = tgt := by
    unfold srtL
    refine List.Perm.eq_of_pairwise (le := fun x y : Int => decide (x ≤ y) = true) (fun x y _ _ h1 h2 => by simp only [decide_eq_true_eq] at h1 h2; omega) (List.pairwise_mergeSort (fun x y z h1 h2 => by simp only [decide_eq_true_eq] at *; omega) (fun x y => by simp only [Bool.or_eq_true, decide_eq_true_eq]; omega) _) hsort ((List.mergeSort_perm _ _).trans hperm)
  show (srtL (szN a b c) (numF a b c)).getD i 0 = _
  rw [← hC] at hi ⊢
  rw [es, ht]
  simp [hi]
end
end Go.RX.Span

/- The law of moves: what it returns. -/
set_option linter.unusedVariables false
set_option linter.unusedSimpArgs false
set_option maxRecDepth 100000
namespace Go.RX.Span
open Go Go.RX
attribute [local irreducible] sx conB

theorem kM_ok : ∀ p ∈ kM, ConOK P p.1 p.2 := by
  intro p hp
  simp only [kM, List.mem_cons] at hp
  rcases hp with rfl | rfl | rfl | rfl | rfl | rfl | rfl | rfl | hp
  · exact sorted_ok
  · exact EqM_ok
  · exact Equal_ok
  · exact Intersect_ok
  · exact Within_ok
  · exact Hull_ok
  · exact numbers_ok
  · exact small_ok
  · exact k9_ok p (by simpa [k9] using hp)
noncomputable def c_SpanMoves : Con := fun args => match args with
  | [.agg [.lit (.int .i64 a), .lit (.int .i64 b), .lit (.int .i64 c)], .lit (.int .i64 n)] => .ask (I64 a ∧ I64 b ∧ I64 c ∧ I64 n) (.ret (.lit (.bool true)))
  | _ => .stuck 1
set_option maxHeartbeats 4000000 in
theorem SpanMoves_ok : ConOK P 4 c_SpanMoves := con_force (allOK mixed kM_ok) 10 4 fun args r h => by
  unfold c_SpanMoves at h
  split at h
  · rename_i a b c n
    obtain ⟨ia, ib, ic, inn⟩ := (T.is_ask h).1
    obtain rfl := T.is_ret (T.is_ask h).2
    cases hs : smallB a b c
    · exact ⟨_, by rw [t_SMa]; simp only [lk_eq]; exact ⟨⟨ia, ib, ic⟩, U.not_t.mpr hs, .inl rfl⟩⟩
    by_cases h0 : n < 0
    · exact ⟨_, by rw [t_SMb]; simp only [lk_eq]; exact ⟨⟨ia, ib, ic⟩, U.not_f.mpr hs, U.lt_t.mpr h0, .inl rfl⟩⟩
    by_cases h1 : n > 400
    · exact ⟨_, by rw [t_SMc]; simp only [lk_eq]; exact ⟨⟨ia, ib, ic⟩, U.not_f.mpr hs, U.lt_f.mpr (by omega), U.gt_t.mpr h1, .inl rfl⟩⟩
    by_cases hz : size a b c = 0
    · exact ⟨_, by rw [t_SMd]; simp only [lk_eq]; exact ⟨⟨ia, ib, ic⟩, U.not_f.mpr hs, U.lt_f.mpr (by omega), U.gt_f.mpr (by omega), ⟨ia, ib, ic⟩, U.eq_t.mpr hz, .inl rfl⟩⟩
    have hs' := of_decide_eq_true hs
    have hr := chk_zero.1 hs'.1
    have hC := size_eq' hr
    have hab : a ≤ b := by
      refine Classical.byContradiction fun hn => hz ?_
      rw [hC]; unfold ofC; rw [if_pos (by omega)]
    obtain ⟨p1, p2, p3, p4, p5, p6, p7, p8, p9, p10⟩ := parts hr hab
    have hl := hr.1
    have hC4 : ofC a b c ≤ 400 := by rw [← hC]; exact hs'.2
    have en : U.sub .i64 0 n = -n := by rw [U.sub64 (by unfold I64; omega)]; omega
    have inn' : I64 (-n) := by unfold I64; omega
    have hN : ((numsN a b c 401 : Nat) : Int) = ofC a b c := by unfold numsN; rw [hC]; omega
    have hS : ((szN a b c : Nat) : Int) = ofC a b c := by rw [szN_eq hr]; omega
    have hS4 : szN a b c ≤ 401 := by omega
    -- what each branch asks
    have fT : trE a b c n = 0 → trLow a b c n = a + n ∧ trHigh a b c n = b + n ∧ trStr a b c n = c ∧ I64 (a + n) ∧ I64 (b + n) ∧ (trE (a + n) (b + n) c (-n) = 0 ∧ trLow (a + n) (b + n) c (-n) = a ∧ trHigh (a + n) (b + n) c (-n) = b ∧ trStr (a + n) (b + n) c (-n) = c) ∧
        numsN (a + n) (b + n) c 401 = numsN a b c 401 ∧ AddN (numsN a b c 401) (fun k => (num (a + n) (b + n) c k, ())) (fun k => (num a b c k, ())) n := fun hE => by
      obtain ⟨g1, g2, g3, r⟩ := (tr_val hr hab (by omega) (by omega)).2 hE
      have hl' := r.1
      obtain ⟨q1, q2⟩ := ofC_add hr hab r
      refine ⟨g1, g2, g3, by unfold I64; omega, by unfold I64; omega, tr_back hr hab (by omega) (by omega) hE, ?_, by omega, fun i hi => ?_⟩
      · unfold numsN; rw [size_eq' r, hC, q1]
      · show num (a + n) (b + n) c i = U.add .i64 (num a b c i) n
        have := num_between (k := i) hr hab (by omega)
        rw [q2, U.add64 (by unfold I64; omega)]
    have fE : exE a b c n = 0 → exLow a b c n = a - n * absI c ∧ exHigh a b c n = b + n * absI c ∧ exStr a b c n = c ∧ I64 (a - n * absI c) ∧ I64 (b + n * absI c) ∧
        (exE (a - n * absI c) (b + n * absI c) c (-n) = 0 ∧ exLow (a - n * absI c) (b + n * absI c) c (-n) = a ∧ exHigh (a - n * absI c) (b + n * absI c) c (-n) = b ∧ exStr (a - n * absI c) (b + n * absI c) c (-n) = c) ∧
        size (a - n * absI c) (b + n * absI c) c = ofC a b c + 2 * n ∧ ckd a b c (a - n * absI c) (b + n * absI c) c = 0 ∧ wiB a b c (a - n * absI c) (b + n * absI c) c = true := fun hE => by
      obtain ⟨g1, g2, g3, r, rC, rl⟩ := (ex_val hr hab (by omega) (by omega) (by
        by_cases h : ofC a b c = 1
        · exact .inl (right_one hr hab h)
        · exact .inr (by omega))).2 hE
      have hl' := r.1
      exact ⟨g1, g2, g3, by unfold I64; omega, by unfold I64; omega, ex_back hr hab (by omega) (by omega) r rC rl, by rw [size_eq' r, rC], ckd_zero hr r, ex_within hr hab (by omega) r rC rl⟩
    have eq2 : U.add .i64 (ofC a b c) (U.mul .i64 2 n) = ofC a b c + 2 * n := by rw [U.mul64 (by unfold I64; omega), U.add64 (by unfold I64; omega)]
    have eq3 : U.add .i64 n (ofC a b c) = n + ofC a b c := U.add64 (by unfold I64; omega)
    have eS : U.sub .i64 (ofC a b c) n = ofC a b c - n := U.sub64 (by unfold I64; omega)
    obtain ⟨n1, n2, n3⟩ := in_val (n := n) hr hab (by omega)
    -- the part inside
    have fI : n ≤ ofC a b c → inE a b c n = 0 ∧ I64 (inLow a b c n) ∧ I64 (inHigh a b c n) ∧ I64 (inStr a b c n) ∧ szN (inLow a b c n) (inHigh a b c n) (inStr a b c n) ≤ 401 ∧
        eqR (szN (inLow a b c n) (inHigh a b c n) (inStr a b c n)) (srtN (inLow a b c n) (inHigh a b c n) (inStr a b c n)) (U.nsub (szN a b c) (U.toNat (ofC a b c - n))) (fun i => srtN a b c (i + U.toNat (ofC a b c - n))) = true := fun hn => by
      by_cases hn0 : n = 0
      · obtain ⟨g1, g2, g3, g4⟩ := n2 hn0
        have e0 : szN 1 0 1 = 0 := by unfold szN size; rw [if_pos (chk_zero.2 right_empty)]; unfold ofC; rw [if_pos (by omega)]; rfl
        rw [g2, g3, g4, e0]
        refine ⟨g1, by unfold I64; omega, by unfold I64; omega, by unfold I64; omega, by omega, eqR_t.2 ⟨?_, fun i hi => absurd hi (Nat.not_lt_zero i)⟩⟩
        rw [U.nsub_eq, U.toNat_eq]; omega
      · obtain ⟨g1, g2, g3, g4, g5, g6⟩ := n3 (by omega) hn
        obtain ⟨r1, r2, r3, r4⟩ := right_mk' (f := a + absI c * (ofC a b c - n)) (s := absI c) (C := n) (c := c) p1 (by omega) g5 g6 p8
        have ez : szN (a + absI c * (ofC a b c - n)) (a + absI c * (ofC a b c - n) + absI c * (n - 1)) (strOf n c) = n.toNat := by rw [szN_eq r1, r2]
        have hl' := r1.1
        rw [g2, g3, g4, ez]
        have hstr : I64 (strOf n c) := by unfold strOf; split; unfold I64; omega; exact ic
        refine ⟨g1, by unfold I64; omega, by unfold I64; omega, hstr, by omega, eqR_t.2 ⟨?_, fun i hi => ?_⟩⟩
        · rw [U.nsub_eq, U.toNat_eq]; omega
        · have e1 := srt_val r1 r3 (i := i) (by omega)
          have e2 := srt_val hr hab (i := i + U.toNat (ofC a b c - n)) (by rw [U.toNat_eq]; omega)
          refine e1.trans (Eq.trans ?_ e2.symm)
          rw [U.toNat_eq]
          have ec : ((i + (ofC a b c - n).toNat : Nat) : Int) = (i : Int) + (ofC a b c - n) := by omega
          rw [ec, Int.mul_add]
          by_cases h1 : n = 1
          · obtain rfl : i = 0 := by omega
            simp
          · have : absI (strOf n c) = absI c := by unfold strOf; rw [if_neg h1]
            rw [this]; omega
    obtain ⟨x0, x1⟩ := xt_val (n := n) hr hab (by omega) (by omega)
    have fX : xtE a b c n = 0 → I64 (xtLow a b c n) ∧ I64 (xtHigh a b c n) ∧ I64 (xtStr a b c n) ∧ isEr (xtLow a b c n) (xtHigh a b c n) (xtStr a b c n) a b c = 0 ∧ hlE (xtLow a b c n) (xtHigh a b c n) (xtStr a b c n) a b c = 0 ∧
        (I64 (isL (xtLow a b c n) (xtHigh a b c n) (xtStr a b c n) a b c) ∧ I64 (isH (xtLow a b c n) (xtHigh a b c n) (xtStr a b c n) a b c) ∧ I64 (isS (xtLow a b c n) (xtHigh a b c n) (xtStr a b c n) a b c)) ∧
        size (isL (xtLow a b c n) (xtHigh a b c n) (xtStr a b c n) a b c) (isH (xtLow a b c n) (xtHigh a b c n) (xtStr a b c n) a b c) (isS (xtLow a b c n) (xtHigh a b c n) (xtStr a b c n) a b c) = 0 ∧ size (xtLow a b c n) (xtHigh a b c n) (xtStr a b c n) = n ∧
        (I64 (hlL (xtLow a b c n) (xtHigh a b c n) (xtStr a b c n) a b c) ∧ I64 (hlH (xtLow a b c n) (xtHigh a b c n) (xtStr a b c n) a b c) ∧ I64 (hlS (xtLow a b c n) (xtHigh a b c n) (xtStr a b c n) a b c)) ∧
        size (hlL (xtLow a b c n) (xtHigh a b c n) (xtStr a b c n) a b c) (hlH (xtLow a b c n) (xtHigh a b c n) (xtStr a b c n) a b c) (hlS (xtLow a b c n) (xtHigh a b c n) (xtStr a b c n) a b c) = n + ofC a b c := fun hE => by
      obtain ⟨s1, s2, s3, s4, s5, s6⟩ := xt_sets (x := xtLow a b c n) (y := xtHigh a b c n) (z := xtStr a b c n) hr hab (show 0 ≤ n by omega) (by
        by_cases hn0 : n = 0
        · exact .inl ⟨hn0, (x0 hn0).2⟩
        · obtain ⟨g1, g2, g3, g4⟩ := x1 (by omega) hE
          exact .inr ⟨by omega, g1, g2, g3, g4⟩)
      have big : ∀ {x y z : Int}, Right x y z → I64 x ∧ I64 y ∧ I64 z := fun h => by
        have h1 := h.1
        have h2 := right_c h
        exact ⟨by unfold I64; omega, by unfold I64; omega, by unfold I64; omega⟩
      obtain ⟨b1, b2, b3⟩ := big s1
      exact ⟨b1, b2, b3, s2, s3, big (is_set s1 hr).2.1, s4, s5, big (hl_set s1 hr).2.1, s6⟩
    have b1 := U.not_f.mpr hs
    have b2 : U.lt n 0 = false := U.lt_f.mpr (by omega)
    have b3 : U.gt n 400 = false := U.gt_f.mpr (by omega)
    have b4 := U.eq_f.mpr hz
    have hc : inE a b c n = 0 ↔ n ≤ ofC a b c := ⟨fun h => Classical.byContradiction fun hn => by rw [n1 (by omega)] at h; omega, fun h => (fI h).1⟩
    have tr : Cl (.lit (.bool true)) (.lit (.bool true)) := .inl rfl
    have es : U.not true = false := by rw [U.not_eq]; rfl
    have k0 : (0 : Int) ≤ 401 ∧ (401 : Int) ≤ 1000000 := by omega
    have gI : n ≤ ofC a b c → U.gt n (ofC a b c) = false := fun h => U.gt_f.mpr (by omega)
    have lI : ¬ n ≤ ofC a b c → U.le n (ofC a b c) = false := fun h => U.le_f.mpr (by omega)
    have tops : szN a b c ≤ 9223372036854775807 := by omega
    have dI : n ≤ ofC a b c → 0 ≤ ofC a b c - n ∧ ofC a b c - n ≤ ofC a b c := fun h => by omega
    have e00 : U.eq 0 0 = true := U.eq_t.mpr rfl
    have n00 : U.ne 0 0 = false := U.ne_f.mpr rfl
    have nself : ∀ x : Int, U.ne x x = false := fun x => U.ne_f.mpr rfl
    have eself : ∀ x : Int, U.eq x x = true := fun x => U.eq_t.mpr rfl
    have aself : U.andb true (U.andb true true) = true := by rw [U.andb_eq, U.andb_eq]; rfl
    have eqRs : eqR (szN a b c) (srtN a b c) (szN a b c) (srtN a b c) = true := eqR_t.2 ⟨rfl, fun i _ => rfl⟩
    have n55 : U.ne 5 5 = false := U.ne_f.mpr rfl
    by_cases hT : trE a b c n = 0 <;> by_cases hE : exE a b c n = 0 <;> by_cases hX : xtE a b c n = 0 <;> by_cases hI : n ≤ ofC a b c
    · apply Exists.intro
      rw [t_SM1111]
      obtain ⟨T1, T2, T3, T4, T5, ⟨T6, T7, T8, T9⟩, T10, T11⟩ := fT hT
      obtain ⟨E1, E2, E3, E4, E5, ⟨E6, E7, E8, E9⟩, E10, E11, E12⟩ := fE hE
      obtain ⟨I1, I2, I3, I4, I5, I6⟩ := fI hI
      have J1 := dI hI
      have J2 := gI hI
      have J3 : szN (inLow a b c n) (inHigh a b c n) (inStr a b c n) ≤ 9223372036854775807 := by omega
      obtain ⟨X1, X2, X3, X4, X5, ⟨X6, X7, X8⟩, X9, X10, ⟨X11, X12, X13⟩, X14⟩ := fX hX
      simp only [T.All, lk_eq, Int.ofNat_eq_natCast, en, hN, hS, eq2, eq3, eS, ia, ib, ic, inn, inn', b1, b2, b3, b4, hS4, tr, es, k0, tops, nself, eself, aself, eqRs, and_self, true_and, and_true, hT, T1, T2, T3, T4, T5, T6, T7, T8, T9, T10, T11, hE, E1, E2, E3, E4, E5, E6, E7, E8, E9, E10, E11, E12, I1, I2, I3, I4, I5, I6, J1, J2, J3, hX, X1, X2, X3, X4, X5, X6, X7, X8, X9, X10, X11, X12, X13, X14]
      try simp
    · apply Exists.intro
      rw [t_SM1101]
      obtain ⟨T1, T2, T3, T4, T5, ⟨T6, T7, T8, T9⟩, T10, T11⟩ := fT hT
      obtain ⟨E1, E2, E3, E4, E5, ⟨E6, E7, E8, E9⟩, E10, E11, E12⟩ := fE hE
      have I1 := n1 (Int.not_le.1 hI)
      have J2 := lI hI
      obtain ⟨X1, X2, X3, X4, X5, ⟨X6, X7, X8⟩, X9, X10, ⟨X11, X12, X13⟩, X14⟩ := fX hX
      have I0 : U.eq 5 0 = false := U.eq_f.mpr (by decide)
      simp only [T.All, lk_eq, Int.ofNat_eq_natCast, en, hN, hS, eq2, eq3, eS, ia, ib, ic, inn, inn', b1, b2, b3, b4, hS4, tr, es, k0, tops, nself, eself, aself, eqRs, and_self, true_and, and_true, hT, T1, T2, T3, T4, T5, T6, T7, T8, T9, T10, T11, hE, E1, E2, E3, E4, E5, E6, E7, E8, E9, E10, E11, E12, I1, J2, I0, hX, X1, X2, X3, X4, X5, X6, X7, X8, X9, X10, X11, X12, X13, X14]
      try simp
    · apply Exists.intro
      rw [t_SM1110]
      obtain ⟨T1, T2, T3, T4, T5, ⟨T6, T7, T8, T9⟩, T10, T11⟩ := fT hT
      obtain ⟨E1, E2, E3, E4, E5, ⟨E6, E7, E8, E9⟩, E10, E11, E12⟩ := fE hE
      obtain ⟨I1, I2, I3, I4, I5, I6⟩ := fI hI
      have J1 := dI hI
      have J2 := gI hI
      have J3 : szN (inLow a b c n) (inHigh a b c n) (inStr a b c n) ≤ 9223372036854775807 := by omega
      have X0 := U.eq_f.mpr hX
      simp only [T.All, lk_eq, Int.ofNat_eq_natCast, en, hN, hS, eq2, eq3, eS, ia, ib, ic, inn, inn', b1, b2, b3, b4, hS4, tr, es, k0, tops, nself, eself, aself, eqRs, and_self, true_and, and_true, hT, T1, T2, T3, T4, T5, T6, T7, T8, T9, T10, T11, hE, E1, E2, E3, E4, E5, E6, E7, E8, E9, E10, E11, E12, I1, I2, I3, I4, I5, I6, J1, J2, J3, X0]
      try simp
    · apply Exists.intro
      rw [t_SM1100]
      obtain ⟨T1, T2, T3, T4, T5, ⟨T6, T7, T8, T9⟩, T10, T11⟩ := fT hT
      obtain ⟨E1, E2, E3, E4, E5, ⟨E6, E7, E8, E9⟩, E10, E11, E12⟩ := fE hE
      have I1 := n1 (Int.not_le.1 hI)
      have J2 := lI hI
      have X0 := U.eq_f.mpr hX
      have I0 : U.eq 5 0 = false := U.eq_f.mpr (by decide)
      simp only [T.All, lk_eq, Int.ofNat_eq_natCast, en, hN, hS, eq2, eq3, eS, ia, ib, ic, inn, inn', b1, b2, b3, b4, hS4, tr, es, k0, tops, nself, eself, aself, eqRs, and_self, true_and, and_true, hT, T1, T2, T3, T4, T5, T6, T7, T8, T9, T10, T11, hE, E1, E2, E3, E4, E5, E6, E7, E8, E9, E10, E11, E12, I1, J2, I0, X0]
      try simp
    · apply Exists.intro
      rw [t_SM1011]
      obtain ⟨T1, T2, T3, T4, T5, ⟨T6, T7, T8, T9⟩, T10, T11⟩ := fT hT
      obtain ⟨I1, I2, I3, I4, I5, I6⟩ := fI hI
      have J1 := dI hI
      have J2 := gI hI
      have J3 : szN (inLow a b c n) (inHigh a b c n) (inStr a b c n) ≤ 9223372036854775807 := by omega
      obtain ⟨X1, X2, X3, X4, X5, ⟨X6, X7, X8⟩, X9, X10, ⟨X11, X12, X13⟩, X14⟩ := fX hX
      have E0 := U.eq_f.mpr hE
      simp only [T.All, lk_eq, Int.ofNat_eq_natCast, en, hN, hS, eq2, eq3, eS, ia, ib, ic, inn, inn', b1, b2, b3, b4, hS4, tr, es, k0, tops, nself, eself, aself, eqRs, and_self, true_and, and_true, hT, T1, T2, T3, T4, T5, T6, T7, T8, T9, T10, T11, E0, I1, I2, I3, I4, I5, I6, J1, J2, J3, hX, X1, X2, X3, X4, X5, X6, X7, X8, X9, X10, X11, X12, X13, X14]
      try simp
    · apply Exists.intro
      rw [t_SM1001]
      obtain ⟨T1, T2, T3, T4, T5, ⟨T6, T7, T8, T9⟩, T10, T11⟩ := fT hT
      have I1 := n1 (Int.not_le.1 hI)
      have J2 := lI hI
      obtain ⟨X1, X2, X3, X4, X5, ⟨X6, X7, X8⟩, X9, X10, ⟨X11, X12, X13⟩, X14⟩ := fX hX
      have E0 := U.eq_f.mpr hE
      have I0 : U.eq 5 0 = false := U.eq_f.mpr (by decide)
      simp only [T.All, lk_eq, Int.ofNat_eq_natCast, en, hN, hS, eq2, eq3, eS, ia, ib, ic, inn, inn', b1, b2, b3, b4, hS4, tr, es, k0, tops, nself, eself, aself, eqRs, and_self, true_and, and_true, hT, T1, T2, T3, T4, T5, T6, T7, T8, T9, T10, T11, E0, I1, J2, I0, hX, X1, X2, X3, X4, X5, X6, X7, X8, X9, X10, X11, X12, X13, X14]
      try simp
    · apply Exists.intro
      rw [t_SM1010]
      obtain ⟨T1, T2, T3, T4, T5, ⟨T6, T7, T8, T9⟩, T10, T11⟩ := fT hT
      obtain ⟨I1, I2, I3, I4, I5, I6⟩ := fI hI
      have J1 := dI hI
      have J2 := gI hI
      have J3 : szN (inLow a b c n) (inHigh a b c n) (inStr a b c n) ≤ 9223372036854775807 := by omega
      have E0 := U.eq_f.mpr hE
      have X0 := U.eq_f.mpr hX
      simp only [T.All, lk_eq, Int.ofNat_eq_natCast, en, hN, hS, eq2, eq3, eS, ia, ib, ic, inn, inn', b1, b2, b3, b4, hS4, tr, es, k0, tops, nself, eself, aself, eqRs, and_self, true_and, and_true, hT, T1, T2, T3, T4, T5, T6, T7, T8, T9, T10, T11, E0, I1, I2, I3, I4, I5, I6, J1, J2, J3, X0]
      try simp
    · apply Exists.intro
      rw [t_SM1000]
      obtain ⟨T1, T2, T3, T4, T5, ⟨T6, T7, T8, T9⟩, T10, T11⟩ := fT hT
      have I1 := n1 (Int.not_le.1 hI)
      have J2 := lI hI
      have E0 := U.eq_f.mpr hE
      have X0 := U.eq_f.mpr hX
      have I0 : U.eq 5 0 = false := U.eq_f.mpr (by decide)
      simp only [T.All, lk_eq, Int.ofNat_eq_natCast, en, hN, hS, eq2, eq3, eS, ia, ib, ic, inn, inn', b1, b2, b3, b4, hS4, tr, es, k0, tops, nself, eself, aself, eqRs, and_self, true_and, and_true, hT, T1, T2, T3, T4, T5, T6, T7, T8, T9, T10, T11, E0, I1, J2, I0, X0]
      try simp
    · apply Exists.intro
      rw [t_SM0111]
      obtain ⟨E1, E2, E3, E4, E5, ⟨E6, E7, E8, E9⟩, E10, E11, E12⟩ := fE hE
      obtain ⟨I1, I2, I3, I4, I5, I6⟩ := fI hI
      have J1 := dI hI
      have J2 := gI hI
      have J3 : szN (inLow a b c n) (inHigh a b c n) (inStr a b c n) ≤ 9223372036854775807 := by omega
      obtain ⟨X1, X2, X3, X4, X5, ⟨X6, X7, X8⟩, X9, X10, ⟨X11, X12, X13⟩, X14⟩ := fX hX
      have T0 := U.eq_f.mpr hT
      simp only [T.All, lk_eq, Int.ofNat_eq_natCast, en, hN, hS, eq2, eq3, eS, ia, ib, ic, inn, inn', b1, b2, b3, b4, hS4, tr, es, k0, tops, nself, eself, aself, eqRs, and_self, true_and, and_true, T0, hE, E1, E2, E3, E4, E5, E6, E7, E8, E9, E10, E11, E12, I1, I2, I3, I4, I5, I6, J1, J2, J3, hX, X1, X2, X3, X4, X5, X6, X7, X8, X9, X10, X11, X12, X13, X14]
      try simp
    · apply Exists.intro
      rw [t_SM0101]
      obtain ⟨E1, E2, E3, E4, E5, ⟨E6, E7, E8, E9⟩, E10, E11, E12⟩ := fE hE
      have I1 := n1 (Int.not_le.1 hI)
      have J2 := lI hI
      obtain ⟨X1, X2, X3, X4, X5, ⟨X6, X7, X8⟩, X9, X10, ⟨X11, X12, X13⟩, X14⟩ := fX hX
      have T0 := U.eq_f.mpr hT
      have I0 : U.eq 5 0 = false := U.eq_f.mpr (by decide)
      simp only [T.All, lk_eq, Int.ofNat_eq_natCast, en, hN, hS, eq2, eq3, eS, ia, ib, ic, inn, inn', b1, b2, b3, b4, hS4, tr, es, k0, tops, nself, eself, aself, eqRs, and_self, true_and, and_true, T0, hE, E1, E2, E3, E4, E5, E6, E7, E8, E9, E10, E11, E12, I1, J2, I0, hX, X1, X2, X3, X4, X5, X6, X7, X8, X9, X10, X11, X12, X13, X14]
      try simp
    · apply Exists.intro
      rw [t_SM0110]
      obtain ⟨E1, E2, E3, E4, E5, ⟨E6, E7, E8, E9⟩, E10, E11, E12⟩ := fE hE
      obtain ⟨I1, I2, I3, I4, I5, I6⟩ := fI hI
      have J1 := dI hI
      have J2 := gI hI
      have J3 : szN (inLow a b c n) (inHigh a b c n) (inStr a b c n) ≤ 9223372036854775807 := by omega
      have T0 := U.eq_f.mpr hT
      have X0 := U.eq_f.mpr hX
      simp only [T.All, lk_eq, Int.ofNat_eq_natCast, en, hN, hS, eq2, eq3, eS, ia, ib, ic, inn, inn', b1, b2, b3, b4, hS4, tr, es, k0, tops, nself, eself, aself, eqRs, and_self, true_and, and_true, T0, hE, E1, E2, E3, E4, E5, E6, E7, E8, E9, E10, E11, E12, I1, I2, I3, I4, I5, I6, J1, J2, J3, X0]
      try simp
    · apply Exists.intro
      rw [t_SM0100]
      obtain ⟨E1, E2, E3, E4, E5, ⟨E6, E7, E8, E9⟩, E10, E11, E12⟩ := fE hE
      have I1 := n1 (Int.not_le.1 hI)
      have J2 := lI hI
      have T0 := U.eq_f.mpr hT
      have X0 := U.eq_f.mpr hX
      have I0 : U.eq 5 0 = false := U.eq_f.mpr (by decide)
      simp only [T.All, lk_eq, Int.ofNat_eq_natCast, en, hN, hS, eq2, eq3, eS, ia, ib, ic, inn, inn', b1, b2, b3, b4, hS4, tr, es, k0, tops, nself, eself, aself, eqRs, and_self, true_and, and_true, T0, hE, E1, E2, E3, E4, E5, E6, E7, E8, E9, E10, E11, E12, I1, J2, I0, X0]
      try simp
    · apply Exists.intro
      rw [t_SM0011]
      obtain ⟨I1, I2, I3, I4, I5, I6⟩ := fI hI
      have J1 := dI hI
      have J2 := gI hI
      have J3 : szN (inLow a b c n) (inHigh a b c n) (inStr a b c n) ≤ 9223372036854775807 := by omega
      obtain ⟨X1, X2, X3, X4, X5, ⟨X6, X7, X8⟩, X9, X10, ⟨X11, X12, X13⟩, X14⟩ := fX hX
      have T0 := U.eq_f.mpr hT
      have E0 := U.eq_f.mpr hE
      simp only [T.All, lk_eq, Int.ofNat_eq_natCast, en, hN, hS, eq2, eq3, eS, ia, ib, ic, inn, inn', b1, b2, b3, b4, hS4, tr, es, k0, tops, nself, eself, aself, eqRs, and_self, true_and, and_true, T0, E0, I1, I2, I3, I4, I5, I6, J1, J2, J3, hX, X1, X2, X3, X4, X5, X6, X7, X8, X9, X10, X11, X12, X13, X14]
      try simp
    · apply Exists.intro
      rw [t_SM0001]
      have I1 := n1 (Int.not_le.1 hI)
      have J2 := lI hI
      obtain ⟨X1, X2, X3, X4, X5, ⟨X6, X7, X8⟩, X9, X10, ⟨X11, X12, X13⟩, X14⟩ := fX hX
      have T0 := U.eq_f.mpr hT
      have E0 := U.eq_f.mpr hE
      have I0 : U.eq 5 0 = false := U.eq_f.mpr (by decide)
      simp only [T.All, lk_eq, Int.ofNat_eq_natCast, en, hN, hS, eq2, eq3, eS, ia, ib, ic, inn, inn', b1, b2, b3, b4, hS4, tr, es, k0, tops, nself, eself, aself, eqRs, and_self, true_and, and_true, T0, E0, I1, J2, I0, hX, X1, X2, X3, X4, X5, X6, X7, X8, X9, X10, X11, X12, X13, X14]
      try simp
    · apply Exists.intro
      rw [t_SM0010]
      obtain ⟨I1, I2, I3, I4, I5, I6⟩ := fI hI
      have J1 := dI hI
      have J2 := gI hI
      have J3 : szN (inLow a b c n) (inHigh a b c n) (inStr a b c n) ≤ 9223372036854775807 := by omega
      have T0 := U.eq_f.mpr hT
      have E0 := U.eq_f.mpr hE
      have X0 := U.eq_f.mpr hX
      simp only [T.All, lk_eq, Int.ofNat_eq_natCast, en, hN, hS, eq2, eq3, eS, ia, ib, ic, inn, inn', b1, b2, b3, b4, hS4, tr, es, k0, tops, nself, eself, aself, eqRs, and_self, true_and, and_true, T0, E0, I1, I2, I3, I4, I5, I6, J1, J2, J3, X0]
      try simp
    · apply Exists.intro
      rw [t_SM0000]
      have I1 := n1 (Int.not_le.1 hI)
      have J2 := lI hI
      have T0 := U.eq_f.mpr hT
      have E0 := U.eq_f.mpr hE
      have X0 := U.eq_f.mpr hX
      have I0 : U.eq 5 0 = false := U.eq_f.mpr (by decide)
      simp only [T.All, lk_eq, Int.ofNat_eq_natCast, en, hN, hS, eq2, eq3, eS, ia, ib, ic, inn, inn', b1, b2, b3, b4, hS4, tr, es, k0, tops, nself, eself, aself, eqRs, and_self, true_and, and_true, T0, E0, I1, J2, I0, X0]
      try simp
  · exact h.elim
end Go.RX.Span

