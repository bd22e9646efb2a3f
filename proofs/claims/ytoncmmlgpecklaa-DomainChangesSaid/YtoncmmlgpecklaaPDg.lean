/- Domains: Translate, Expand, Interior, Exterior of both: the walks. -/
import Derived.Test.YtoncmmlgpecklaaPDf
set_option linter.unusedVariables false
set_option linter.unusedSimpArgs false
set_option maxRecDepth 100000
namespace Go.RX.Span
open Go Go.RX
attribute [local irreducible] sx conB

noncomputable abbrev d12 : List (Nat × Con) := (31, c_Translate) :: (204, c_Translate) :: (34, c_Expand) :: (205, c_Expand) :: (36, c_Interior) :: (206, c_Interior) :: (37, c_Exterior) :: (207, c_Exterior) :: d11 --%K
noncomputable abbrev lCh : List (Nat × Loops) := [(155, [(4, .un 3)])] --%K
noncomputable abbrev lqCh : List (Nat × Loops) := [(170, [(8, .un 3)])] --%K
theorem chg_err {w n : Nat} {f : Nat → R3} {k s h : Int} {m : Nat} {e : Nat → R1} {x : Int} (hE : chgE w n f k s h m e = x) (hx : x ≠ 0) :
    Cl (.tup [.agg [.lit (.slice none 0 0), .lit (.int .i64 0), .lit (.int .i64 0), .lit (.int .i64 0)], .lit (.int .i64 x)]) (.tup [.agg [.row [.int .i64, .int .i64, .int .i64] (chgN w n f k s h m e) (chgF w f e), .lit (.int .i64 (chgX w n f k s h m e k)), .lit (.int .i64 (chgX w n f k s h m e s)), .lit (.int .i64 (chgX w n f k s h m e h))], .lit (.int .i64 (chgE w n f k s h m e))]) := by
  have e1 : chgN w n f k s h m e = 0 := by unfold chgN; rw [if_neg (by rw [hE]; exact hx)]
  have e2 : ∀ y, chgX w n f k s h m e y = 0 := fun y => by unfold chgX; rw [if_neg (by rw [hE]; exact hx)]
  rw [e1, e2, e2, e2, hE]
  exact ⟨cl_agg ⟨cl_nil0 rfl, cl_lit rfl, cl_lit rfl, cl_lit rfl, rfl⟩, cl_lit rfl, rfl⟩
theorem chg_ok {w n : Nat} {f : Nat → R3} {k s h : Int} {m : Nat} {e : Nat → R1} {r : Nat} {g : Nat → R3} (hE : chgE w n f k s h m e = 0) (hr : r = n) (hg : ∀ i, i < n → g i = chgF w f e i) :
    Cl (.tup [.agg [.row [.int .i64, .int .i64, .int .i64] r g, .lit (.int .i64 k), .lit (.int .i64 s), .lit (.int .i64 h)], .lit (.int .i64 0)]) (.tup [.agg [.row [.int .i64, .int .i64, .int .i64] (chgN w n f k s h m e) (chgF w f e), .lit (.int .i64 (chgX w n f k s h m e k)), .lit (.int .i64 (chgX w n f k s h m e s)), .lit (.int .i64 (chgX w n f k s h m e h))], .lit (.int .i64 (chgE w n f k s h m e))]) := by
  subst hr
  have e1 : chgN w r f k s h m e = r := by unfold chgN; rw [if_pos hE]
  have e2 : ∀ y, chgX w r f k s h m e y = y := fun y => by unfold chgX; rw [if_pos hE]
  rw [e1, e2, e2, e2, hE]
  exact ⟨cl_agg ⟨cl_row' rfl hg, cl_lit rfl, cl_lit rfl, cl_lit rfl, rfl⟩, cl_lit rfl, rfl⟩
theorem chgE_1 {w n : Nat} {f : Nat → R3} {k s h : Int} {m : Nat} {e : Nat → R1} (c : chD n f k s h ≠ 0) : chgE w n f k s h m e = chD n f k s h := by unfold chgE; rw [if_pos c]
theorem chgE_2 {w n : Nat} {f : Nat → R3} {k s h : Int} {m : Nat} {e : Nat → R1} (c : chD n f k s h = 0) (q : m ≠ n) : chgE w n f k s h m e = 5 := by unfold chgE; rw [if_neg (by simp [c]), if_pos q]
theorem chgE_3 {w n : Nat} {f : Nat → R3} {k s h : Int} {e : Nat → R1} (c : chD n f k s h = 0) {x : Int} (q : opE w (f 0) (e 0).1 = x) (hx : x ≠ 0) : chgE w n f k s h n e = x := by unfold chgE; rw [if_neg (by simp [c]), if_neg (by simp), if_pos (by rw [q]; exact hx), q]
theorem chgE_4 {w : Nat} {f : Nat → R3} {k s h : Int} {e : Nat → R1} (c : chD 1 f k s h = 0) (q : opE w (f 0) (e 0).1 = 0) : chgE w 1 f k s h 1 e = 0 := by unfold chgE; rw [if_neg (by simp [c]), if_neg (by simp), if_neg (by simp [q]), if_neg (by omega)]
theorem chgE_5 {w : Nat} {f : Nat → R3} {k s h : Int} {e : Nat → R1} (c : chD 2 f k s h = 0) (q : opE w (f 0) (e 0).1 = 0) {x : Int} (q1 : opE w (f 1) (e 1).1 = x) : chgE w 2 f k s h 2 e = x := by unfold chgE; rw [if_neg (by simp [c]), if_neg (by simp), if_neg (by simp [q]), if_pos rfl, q1]
theorem one_of {i : Nat} (h : i < 1) : i = 0 := by omega
theorem two_of {i : Nat} (h : i < 2) : i = 0 ∨ i = 1 := by omega
theorem eqT {a : Int} (h : a = 0) : U.eq a 0 = true := by rw [U.eq_t]; exact h
theorem neF {a : Int} (h : a = 0) : U.ne a 0 = false := by rw [U.ne_f]; exact h
theorem neT {a : Int} (h : ¬ a = 0) : U.ne a 0 = true := by rw [U.ne_t]; exact h
theorem eqF {a : Int} (h : ¬ a = 0) : U.eq a 0 = false := by rw [U.eq_f]; exact h
theorem opEz2 (r : R3) {n : Int} (z : n = 0) : opE 2 r n = 0 := if_pos z
theorem opFz2 (r : R3) {n : Int} (z : n = 0) : opF 2 r n = r := if_pos z
theorem opEn2 (r : R3) {n : Int} (z : ¬ n = 0) : opE 2 r n = inE r.1 r.2.1 r.2.2.1 n := if_neg z
theorem opFn2 (r : R3) {n : Int} (z : ¬ n = 0) : opF 2 r n = (inLow r.1 r.2.1 r.2.2.1 n, inHigh r.1 r.2.1 r.2.2.1 n, inStr r.1 r.2.1 r.2.2.1 n, ()) := if_neg z
theorem opEz3 (r : R3) {n : Int} (z : n = 0) : opE 3 r n = 0 := if_pos z
theorem opFz3 (r : R3) {n : Int} (z : n = 0) : opF 3 r n = r := if_pos z
theorem opEn3 (r : R3) {n : Int} (z : ¬ n = 0) : opE 3 r n = xtE r.1 r.2.1 r.2.2.1 n := if_neg z
theorem opFn3 (r : R3) {n : Int} (z : ¬ n = 0) : opF 3 r n = (xtLow r.1 r.2.1 r.2.2.1 n, xtHigh r.1 r.2.1 r.2.2.1 n, xtStr r.1 r.2.1 r.2.2.1 n, ()) := if_neg z
set_option maxRecDepth 100000 in
theorem t_DTranslate (n : Nat) (f : Nat → R3) (k s h : Int) (m : Nat) (e : Nat → R1) : conB Go.Proofs.Try.prog (conOf d12) (loopsOf lCh) 10 90 [.agg [.row [.int .i64, .int .i64, .int .i64] n f, .lit (.int .i64 k), .lit (.int .i64 s), .lit (.int .i64 h)], .row [.int .i64] m e] =
    T.ask (Row64 n f) (.br (U.ne (lk chD n f k s h) (0 : Int)) (.ret (.tup [.agg [.lit (.slice none (nat_lit 0) (nat_lit 0)), .lit (.int .i64 0), .lit (.int .i64 0), .lit (.int .i64
      0)], .lit (.int .i64 (lk chD n f k s h))])) (.br (U.ne (Int.ofNat m) (Int.ofNat n)) (.ret (.tup [.agg [.lit (.slice none (nat_lit 0) (nat_lit 0)), .lit (.int .i64 0), .lit (.int
      .i64 0), .lit (.int .i64 0)], .lit (.int .i64 5)])) (.br (U.lt (0 : Int) (Int.ofNat n)) (.ask ((0 : Int) ≤ (0 : Int) ∧ (0 : Int) < ↑n) (.ask ((0 : Int) ≤ (0 : Int) ∧ (0 : Int) < ↑m)
      (.ask (I64 (f (U.toNat (Int.ofNat 0))).1 ∧ I64 (f (U.toNat (Int.ofNat 0))).2.1 ∧ I64 (f (U.toNat (Int.ofNat 0))).2.2.1 ∧ I64 (e (U.toNat (Int.ofNat 0))).1) (.br (U.ne (lk trE (f
      (U.toNat (Int.ofNat 0))).1 (f (U.toNat (Int.ofNat 0))).2.1 (f (U.toNat (Int.ofNat 0))).2.2.1 (e (U.toNat (Int.ofNat 0))).1) (0 : Int)) (.br (U.ne (lk trE (f (U.toNat (Int.ofNat
      0))).1 (f (U.toNat (Int.ofNat 0))).2.1 (f (U.toNat (Int.ofNat 0))).2.2.1 (e (U.toNat (Int.ofNat 0))).1) (0 : Int)) (.ret (.tup [.agg [.lit (.slice none (nat_lit 0) (nat_lit 0)),
      .lit (.int .i64 0), .lit (.int .i64 0), .lit (.int .i64 0)], .lit (.int .i64 (lk trE (f (U.toNat (Int.ofNat 0))).1 (f (U.toNat (Int.ofNat 0))).2.1 (f (U.toNat (Int.ofNat 0))).2.2.1
      (e (U.toNat (Int.ofNat 0))).1))])) (.ret (.tup [.agg [.lit (.slice none (nat_lit 0) (nat_lit 0)), .lit (.int .i64 k), .lit (.int .i64 s), .lit (.int .i64 h)], .lit (.int .i64 0)])))
      (.ask ((1 : Nat) * nat_lit 24 ≤ nat_lit 140737488351232) (.br (U.lt (1 : Int) (Int.ofNat n)) (.ask ((0 : Int) ≤ (1 : Int) ∧ (1 : Int) < ↑n) (.ask ((0 : Int) ≤ (1 : Int) ∧ (1 : Int)
      < ↑m) (.ask (I64 (f (U.toNat (Int.ofNat 1))).1 ∧ I64 (f (U.toNat (Int.ofNat 1))).2.1 ∧ I64 (f (U.toNat (Int.ofNat 1))).2.2.1 ∧ I64 (e (U.toNat (Int.ofNat 1))).1) (.br (U.ne (lk trE
      (f (U.toNat (Int.ofNat 1))).1 (f (U.toNat (Int.ofNat 1))).2.1 (f (U.toNat (Int.ofNat 1))).2.2.1 (e (U.toNat (Int.ofNat 1))).1) (0 : Int)) (.br (U.ne (lk trE (f (U.toNat (Int.ofNat
      1))).1 (f (U.toNat (Int.ofNat 1))).2.1 (f (U.toNat (Int.ofNat 1))).2.2.1 (e (U.toNat (Int.ofNat 1))).1) (0 : Int)) (.ret (.tup [.agg [.lit (.slice none (nat_lit 0) (nat_lit 0)),
      .lit (.int .i64 0), .lit (.int .i64 0), .lit (.int .i64 0)], .lit (.int .i64 (lk trE (f (U.toNat (Int.ofNat 1))).1 (f (U.toNat (Int.ofNat 1))).2.1 (f (U.toNat (Int.ofNat 1))).2.2.1
      (e (U.toNat (Int.ofNat 1))).1))])) (.ret (.tup [.agg [.row [.int .i64, .int .i64, .int .i64] (nat_lit 1) fun x => (lk trLow (f (U.toNat (Int.ofNat 0))).1 (f (U.toNat (Int.ofNat
      0))).2.1 (f (U.toNat (Int.ofNat 0))).2.2.1 (e (U.toNat (Int.ofNat 0))).1, lk trHigh (f (U.toNat (Int.ofNat 0))).1 (f (U.toNat (Int.ofNat 0))).2.1 (f (U.toNat (Int.ofNat 0))).2.2.1
      (e (U.toNat (Int.ofNat 0))).1, lk trStr (f (U.toNat (Int.ofNat 0))).1 (f (U.toNat (Int.ofNat 0))).2.1 (f (U.toNat (Int.ofNat 0))).2.2.1 (e (U.toNat (Int.ofNat 0))).1, PUnit.unit),
      .lit (.int .i64 k), .lit (.int .i64 s), .lit (.int .i64 h)], .lit (.int .i64 0)]))) (.ask (((1 : Nat) + (1 : Nat)) * nat_lit 24 ≤ nat_lit 140737488351232) (.br (U.lt (2 : Int)
      (Int.ofNat n)) (.ask ((0 : Int) ≤ (2 : Int) ∧ (2 : Int) < ↑n) (.ask ((0 : Int) ≤ (2 : Int) ∧ (2 : Int) < ↑m) (.ask (I64 (f (U.toNat (Int.ofNat 2))).1 ∧ I64 (f (U.toNat (Int.ofNat
      2))).2.1 ∧ I64 (f (U.toNat (Int.ofNat 2))).2.2.1 ∧ I64 (e (U.toNat (Int.ofNat 2))).1) (.br (U.ne (lk trE (f (U.toNat (Int.ofNat 2))).1 (f (U.toNat (Int.ofNat 2))).2.1 (f (U.toNat
      (Int.ofNat 2))).2.2.1 (e (U.toNat (Int.ofNat 2))).1) (0 : Int)) (.br (U.ne (lk trE (f (U.toNat (Int.ofNat 2))).1 (f (U.toNat (Int.ofNat 2))).2.1 (f (U.toNat (Int.ofNat 2))).2.2.1 (e
      (U.toNat (Int.ofNat 2))).1) (0 : Int)) (.ret (.tup [.agg [.lit (.slice none (nat_lit 0) (nat_lit 0)), .lit (.int .i64 0), .lit (.int .i64 0), .lit (.int .i64 0)], .lit (.int .i64
      (lk trE (f (U.toNat (Int.ofNat 2))).1 (f (U.toNat (Int.ofNat 2))).2.1 (f (U.toNat (Int.ofNat 2))).2.2.1 (e (U.toNat (Int.ofNat 2))).1))])) (.ret (.tup [.agg [.row [.int .i64, .int
      .i64, .int .i64] (nat_lit 2) (U.cat (nat_lit 1) (fun x => (lk trLow (f (U.toNat (Int.ofNat 0))).1 (f (U.toNat (Int.ofNat 0))).2.1 (f (U.toNat (Int.ofNat 0))).2.2.1 (e (U.toNat
      (Int.ofNat 0))).1, lk trHigh (f (U.toNat (Int.ofNat 0))).1 (f (U.toNat (Int.ofNat 0))).2.1 (f (U.toNat (Int.ofNat 0))).2.2.1 (e (U.toNat (Int.ofNat 0))).1, lk trStr (f (U.toNat
      (Int.ofNat 0))).1 (f (U.toNat (Int.ofNat 0))).2.1 (f (U.toNat (Int.ofNat 0))).2.2.1 (e (U.toNat (Int.ofNat 0))).1, PUnit.unit)) fun x => (lk trLow (f (U.toNat (Int.ofNat 1))).1 (f
      (U.toNat (Int.ofNat 1))).2.1 (f (U.toNat (Int.ofNat 1))).2.2.1 (e (U.toNat (Int.ofNat 1))).1, lk trHigh (f (U.toNat (Int.ofNat 1))).1 (f (U.toNat (Int.ofNat 1))).2.1 (f (U.toNat
      (Int.ofNat 1))).2.2.1 (e (U.toNat (Int.ofNat 1))).1, lk trStr (f (U.toNat (Int.ofNat 1))).1 (f (U.toNat (Int.ofNat 1))).2.1 (f (U.toNat (Int.ofNat 1))).2.2.1 (e (U.toNat (Int.ofNat
      1))).1, PUnit.unit)), .lit (.int .i64 k), .lit (.int .i64 s), .lit (.int .i64 h)], .lit (.int .i64 0)]))) (.ask (((1 : Nat) + (1 : Nat) + (1 : Nat)) * nat_lit 24 ≤ nat_lit
      140737488351232) (.stuck (nat_lit 105))))))) (.br (U.ne (lk trE (f (U.toNat (Int.ofNat 1))).1 (f (U.toNat (Int.ofNat 1))).2.1 (f (U.toNat (Int.ofNat 1))).2.2.1 (e (U.toNat
      (Int.ofNat 1))).1) (0 : Int)) (.ret (.tup [.agg [.lit (.slice none (nat_lit 0) (nat_lit 0)), .lit (.int .i64 0), .lit (.int .i64 0), .lit (.int .i64 0)], .lit (.int .i64 (lk trE (f
      (U.toNat (Int.ofNat 1))).1 (f (U.toNat (Int.ofNat 1))).2.1 (f (U.toNat (Int.ofNat 1))).2.2.1 (e (U.toNat (Int.ofNat 1))).1))])) (.ret (.tup [.agg [.row [.int .i64, .int .i64, .int
      .i64] (nat_lit 2) (U.cat (nat_lit 1) (fun x => (lk trLow (f (U.toNat (Int.ofNat 0))).1 (f (U.toNat (Int.ofNat 0))).2.1 (f (U.toNat (Int.ofNat 0))).2.2.1 (e (U.toNat (Int.ofNat
      0))).1, lk trHigh (f (U.toNat (Int.ofNat 0))).1 (f (U.toNat (Int.ofNat 0))).2.1 (f (U.toNat (Int.ofNat 0))).2.2.1 (e (U.toNat (Int.ofNat 0))).1, lk trStr (f (U.toNat (Int.ofNat
      0))).1 (f (U.toNat (Int.ofNat 0))).2.1 (f (U.toNat (Int.ofNat 0))).2.2.1 (e (U.toNat (Int.ofNat 0))).1, PUnit.unit)) fun x => (lk trLow (f (U.toNat (Int.ofNat 1))).1 (f (U.toNat
      (Int.ofNat 1))).2.1 (f (U.toNat (Int.ofNat 1))).2.2.1 (e (U.toNat (Int.ofNat 1))).1, lk trHigh (f (U.toNat (Int.ofNat 1))).1 (f (U.toNat (Int.ofNat 1))).2.1 (f (U.toNat (Int.ofNat
      1))).2.2.1 (e (U.toNat (Int.ofNat 1))).1, lk trStr (f (U.toNat (Int.ofNat 1))).1 (f (U.toNat (Int.ofNat 1))).2.1 (f (U.toNat (Int.ofNat 1))).2.2.1 (e (U.toNat (Int.ofNat 1))).1,
      PUnit.unit)), .lit (.int .i64 k), .lit (.int .i64 s), .lit (.int .i64 h)], .lit (.int .i64 0)]))))))))) (.br (U.ne (lk trE (f (U.toNat (Int.ofNat 0))).1 (f (U.toNat (Int.ofNat
      0))).2.1 (f (U.toNat (Int.ofNat 0))).2.2.1 (e (U.toNat (Int.ofNat 0))).1) (0 : Int)) (.ret (.tup [.agg [.lit (.slice none (nat_lit 0) (nat_lit 0)), .lit (.int .i64 0), .lit (.int
      .i64 0), .lit (.int .i64 0)], .lit (.int .i64 (lk trE (f (U.toNat (Int.ofNat 0))).1 (f (U.toNat (Int.ofNat 0))).2.1 (f (U.toNat (Int.ofNat 0))).2.2.1 (e (U.toNat (Int.ofNat
      0))).1))])) (.ret (.tup [.agg [.row [.int .i64, .int .i64, .int .i64] (nat_lit 1) fun x => (lk trLow (f (U.toNat (Int.ofNat 0))).1 (f (U.toNat (Int.ofNat 0))).2.1 (f (U.toNat
      (Int.ofNat 0))).2.2.1 (e (U.toNat (Int.ofNat 0))).1, lk trHigh (f (U.toNat (Int.ofNat 0))).1 (f (U.toNat (Int.ofNat 0))).2.1 (f (U.toNat (Int.ofNat 0))).2.2.1 (e (U.toNat (Int.ofNat
      0))).1, lk trStr (f (U.toNat (Int.ofNat 0))).1 (f (U.toNat (Int.ofNat 0))).2.1 (f (U.toNat (Int.ofNat 0))).2.2.1 (e (U.toNat (Int.ofNat 0))).1, PUnit.unit), .lit (.int .i64 k), .lit
      (.int .i64 s), .lit (.int .i64 h)], .lit (.int .i64 0)]))))))))) (.ret (.tup [.agg [.lit (.slice none (nat_lit 0) (nat_lit 0)), .lit (.int .i64 k), .lit (.int .i64 s), .lit (.int
      .i64 h)], .lit (.int .i64 0)]))))) := by kernel_rfl
theorem DTranslate_ok (h12 : ∀ p ∈ d12, ConOK P p.1 p.2) (hl : ∀ p ∈ lCh, LoopsOK P p.2 (bodyOf P p.1)) : ConOK P 90 (c_chg 0) := con_cl (allOKL mixed h12 hl) 10 90 fun args r h => by
  unfold c_chg at h
  split at h
  · rename_i n f k s h' m e
    obtain ⟨hp, hq⟩ := (T.is_ask h).1
    have h := (T.is_ask h).2
    obtain rfl := T.is_ret h
    rw [t_DTranslate]
    simp only [tn, lk_eq]
    simp only [Int.ofNat_eq_natCast]
    by_cases c : chD n f k s h' = 0
    · by_cases q : m = n
      · subst q
        have hn := (chD_zero.1 c).1.1
        have hI : ∀ i, i < m → I64 (f i).1 ∧ I64 (f i).2.1 ∧ I64 (f i).2.2.1 ∧ I64 (e i).1 := fun i hi => ⟨(hp i hi).1, (hp i hi).2.1, (hp i hi).2.2, hq i hi⟩
        have hI0 := hI 0 (by omega)
        by_cases E0 : trE (f 0).1 (f 0).2.1 (f 0).2.2.1 (e 0).1 = 0
        · rcases hn with rfl | rfl
          · simp [T.All, U.ne_eq, U.lt_eq, hp, hI0, c, E0]
            refine chg_ok (chgE_4 (w := 0) c E0) rfl fun i hi => ?_
            obtain rfl := one_of hi
            rfl
          · have hI1 := hI 1 (by omega)
            by_cases E1 : trE (f 1).1 (f 1).2.1 (f 1).2.2.1 (e 1).1 = 0
            · simp [T.All, U.ne_eq, U.lt_eq, hp, hI0, hI1, c, E0, E1]
              refine chg_ok (chgE_5 (w := 0) c E0 E1) rfl fun i hi => ?_
              rcases two_of hi with rfl | rfl
              · exact cat_l (by omega)
              · exact cat_r (by omega)
            · simp [T.All, U.ne_eq, U.lt_eq, hp, hI0, hI1, c, E0, E1]
              exact chg_err (chgE_5 (w := 0) c E0 rfl) E1
        · rcases hn with rfl | rfl <;>
          · simp [T.All, U.ne_eq, U.lt_eq, hp, hI0, c, E0]
            exact chg_err (chgE_3 (w := 0) c rfl E0) E0
      · have q' : ¬ ((m : Int) = (n : Int)) := by omega
        simp [T.All, U.ne_eq, hp, c, q']
        exact chg_err (chgE_2 (w := 0) c q) (by omega)
    · simp [T.All, U.ne_eq, hp, c]
      exact chg_err (chgE_1 (w := 0) c) c
  · exact h.elim
set_option maxRecDepth 100000 in
theorem t_qDTranslate (n : Nat) (f : Nat → R3) (k s h : Int) (m : Nat) (e : Nat → R1) : conB Go.Proofs.Try.prog (conOf d12) (loopsOf lqCh) 10 91 [.agg [.row [.int .i64, .int .i64, .int .i64] n f, .lit (.int .i64 k), .lit (.int .i64 s), .lit (.int .i64 h)], .row [.int .i64] m e] =
    T.ask (Row64 n f) (.br (U.ne (lk chD n f k s h) (0 : Int)) (.ret (.tup [.agg [.lit (.slice none (nat_lit 0) (nat_lit 0)), .lit (.int .i64 0), .lit (.int .i64 0), .lit (.int .i64
      0)], .lit (.int .i64 (lk chD n f k s h))])) (.br (U.ne (Int.ofNat m) (Int.ofNat n)) (.ret (.tup [.agg [.lit (.slice none (nat_lit 0) (nat_lit 0)), .lit (.int .i64 0), .lit (.int
      .i64 0), .lit (.int .i64 0)], .lit (.int .i64 5)])) (.br (U.lt (0 : Int) (Int.ofNat m)) (.ask ((0 : Int) ≤ (0 : Int) ∧ (0 : Int) < ↑n) (.ask ((0 : Int) ≤ (0 : Int) ∧ (0 : Int) < ↑m)
      (.ask (I64 (f (U.toNat (Int.ofNat 0))).1 ∧ I64 (f (U.toNat (Int.ofNat 0))).2.1 ∧ I64 (f (U.toNat (Int.ofNat 0))).2.2.1 ∧ I64 (e (U.toNat (Int.ofNat 0))).1) (.br (U.ne (lk trE (f
      (U.toNat (Int.ofNat 0))).1 (f (U.toNat (Int.ofNat 0))).2.1 (f (U.toNat (Int.ofNat 0))).2.2.1 (e (U.toNat (Int.ofNat 0))).1) (0 : Int)) (.ret (.tup [.agg [.lit (.slice none (nat_lit
      0) (nat_lit 0)), .lit (.int .i64 0), .lit (.int .i64 0), .lit (.int .i64 0)], .lit (.int .i64 (lk trE (f (U.toNat (Int.ofNat 0))).1 (f (U.toNat (Int.ofNat 0))).2.1 (f (U.toNat
      (Int.ofNat 0))).2.2.1 (e (U.toNat (Int.ofNat 0))).1))])) (.ask ((1 : Nat) * nat_lit 24 ≤ nat_lit 140737488351232) (.br (U.lt (1 : Int) (Int.ofNat m)) (.ask ((0 : Int) ≤ (1 : Int) ∧
      (1 : Int) < ↑n) (.ask ((0 : Int) ≤ (1 : Int) ∧ (1 : Int) < ↑m) (.ask (I64 (f (U.toNat (Int.ofNat 1))).1 ∧ I64 (f (U.toNat (Int.ofNat 1))).2.1 ∧ I64 (f (U.toNat (Int.ofNat 1))).2.2.1
      ∧ I64 (e (U.toNat (Int.ofNat 1))).1) (.br (U.ne (lk trE (f (U.toNat (Int.ofNat 1))).1 (f (U.toNat (Int.ofNat 1))).2.1 (f (U.toNat (Int.ofNat 1))).2.2.1 (e (U.toNat (Int.ofNat
      1))).1) (0 : Int)) (.ret (.tup [.agg [.lit (.slice none (nat_lit 0) (nat_lit 0)), .lit (.int .i64 0), .lit (.int .i64 0), .lit (.int .i64 0)], .lit (.int .i64 (lk trE (f (U.toNat
      (Int.ofNat 1))).1 (f (U.toNat (Int.ofNat 1))).2.1 (f (U.toNat (Int.ofNat 1))).2.2.1 (e (U.toNat (Int.ofNat 1))).1))])) (.ask (((1 : Nat) + (1 : Nat)) * nat_lit 24 ≤ nat_lit
      140737488351232) (.br (U.lt (2 : Int) (Int.ofNat m)) (.ask ((0 : Int) ≤ (2 : Int) ∧ (2 : Int) < ↑n) (.ask ((0 : Int) ≤ (2 : Int) ∧ (2 : Int) < ↑m) (.ask (I64 (f (U.toNat (Int.ofNat
      2))).1 ∧ I64 (f (U.toNat (Int.ofNat 2))).2.1 ∧ I64 (f (U.toNat (Int.ofNat 2))).2.2.1 ∧ I64 (e (U.toNat (Int.ofNat 2))).1) (.br (U.ne (lk trE (f (U.toNat (Int.ofNat 2))).1 (f
      (U.toNat (Int.ofNat 2))).2.1 (f (U.toNat (Int.ofNat 2))).2.2.1 (e (U.toNat (Int.ofNat 2))).1) (0 : Int)) (.ret (.tup [.agg [.lit (.slice none (nat_lit 0) (nat_lit 0)), .lit (.int
      .i64 0), .lit (.int .i64 0), .lit (.int .i64 0)], .lit (.int .i64 (lk trE (f (U.toNat (Int.ofNat 2))).1 (f (U.toNat (Int.ofNat 2))).2.1 (f (U.toNat (Int.ofNat 2))).2.2.1 (e (U.toNat
      (Int.ofNat 2))).1))])) (.ask (((1 : Nat) + (1 : Nat) + (1 : Nat)) * nat_lit 24 ≤ nat_lit 140737488351232) (.stuck (nat_lit 105))))))) (.ret (.tup [.agg [.row [.int .i64, .int .i64,
      .int .i64] (nat_lit 2) (U.cat (nat_lit 1) (fun x => (lk trLow (f (U.toNat (Int.ofNat 0))).1 (f (U.toNat (Int.ofNat 0))).2.1 (f (U.toNat (Int.ofNat 0))).2.2.1 (e (U.toNat (Int.ofNat
      0))).1, lk trHigh (f (U.toNat (Int.ofNat 0))).1 (f (U.toNat (Int.ofNat 0))).2.1 (f (U.toNat (Int.ofNat 0))).2.2.1 (e (U.toNat (Int.ofNat 0))).1, lk trStr (f (U.toNat (Int.ofNat
      0))).1 (f (U.toNat (Int.ofNat 0))).2.1 (f (U.toNat (Int.ofNat 0))).2.2.1 (e (U.toNat (Int.ofNat 0))).1, PUnit.unit)) fun x => (lk trLow (f (U.toNat (Int.ofNat 1))).1 (f (U.toNat
      (Int.ofNat 1))).2.1 (f (U.toNat (Int.ofNat 1))).2.2.1 (e (U.toNat (Int.ofNat 1))).1, lk trHigh (f (U.toNat (Int.ofNat 1))).1 (f (U.toNat (Int.ofNat 1))).2.1 (f (U.toNat (Int.ofNat
      1))).2.2.1 (e (U.toNat (Int.ofNat 1))).1, lk trStr (f (U.toNat (Int.ofNat 1))).1 (f (U.toNat (Int.ofNat 1))).2.1 (f (U.toNat (Int.ofNat 1))).2.2.1 (e (U.toNat (Int.ofNat 1))).1,
      PUnit.unit)), .lit (.int .i64 k), .lit (.int .i64 s), .lit (.int .i64 h)], .lit (.int .i64 0)])))))))) (.ret (.tup [.agg [.row [.int .i64, .int .i64, .int .i64] (nat_lit 1) fun x =>
      (lk trLow (f (U.toNat (Int.ofNat 0))).1 (f (U.toNat (Int.ofNat 0))).2.1 (f (U.toNat (Int.ofNat 0))).2.2.1 (e (U.toNat (Int.ofNat 0))).1, lk trHigh (f (U.toNat (Int.ofNat 0))).1 (f
      (U.toNat (Int.ofNat 0))).2.1 (f (U.toNat (Int.ofNat 0))).2.2.1 (e (U.toNat (Int.ofNat 0))).1, lk trStr (f (U.toNat (Int.ofNat 0))).1 (f (U.toNat (Int.ofNat 0))).2.1 (f (U.toNat
      (Int.ofNat 0))).2.2.1 (e (U.toNat (Int.ofNat 0))).1, PUnit.unit), .lit (.int .i64 k), .lit (.int .i64 s), .lit (.int .i64 h)], .lit (.int .i64 0)])))))))) (.ret (.tup [.agg [.lit
      (.slice none (nat_lit 0) (nat_lit 0)), .lit (.int .i64 k), .lit (.int .i64 s), .lit (.int .i64 h)], .lit (.int .i64 0)]))))) := by kernel_rfl
theorem qDTranslate_ok (h12 : ∀ p ∈ d12, ConOK P p.1 p.2) (hl : ∀ p ∈ lqCh, LoopsOK P p.2 (bodyOf P p.1)) : ConOK P 91 (c_chg 0) := con_cl (allOKL mixed h12 hl) 10 91 fun args r h => by
  unfold c_chg at h
  split at h
  · rename_i n f k s h' m e
    obtain ⟨hp, hq⟩ := (T.is_ask h).1
    have h := (T.is_ask h).2
    obtain rfl := T.is_ret h
    rw [t_qDTranslate]
    simp only [tn, lk_eq]
    simp only [Int.ofNat_eq_natCast]
    by_cases c : chD n f k s h' = 0
    · by_cases q : m = n
      · subst q
        have hn := (chD_zero.1 c).1.1
        have hI : ∀ i, i < m → I64 (f i).1 ∧ I64 (f i).2.1 ∧ I64 (f i).2.2.1 ∧ I64 (e i).1 := fun i hi => ⟨(hp i hi).1, (hp i hi).2.1, (hp i hi).2.2, hq i hi⟩
        have hI0 := hI 0 (by omega)
        by_cases E0 : trE (f 0).1 (f 0).2.1 (f 0).2.2.1 (e 0).1 = 0
        · rcases hn with rfl | rfl
          · simp [T.All, U.ne_eq, U.lt_eq, hp, hI0, c, E0]
            refine chg_ok (chgE_4 (w := 0) c E0) rfl fun i hi => ?_
            obtain rfl := one_of hi
            rfl
          · have hI1 := hI 1 (by omega)
            by_cases E1 : trE (f 1).1 (f 1).2.1 (f 1).2.2.1 (e 1).1 = 0
            · simp [T.All, U.ne_eq, U.lt_eq, hp, hI0, hI1, c, E0, E1]
              refine chg_ok (chgE_5 (w := 0) c E0 E1) rfl fun i hi => ?_
              rcases two_of hi with rfl | rfl
              · exact cat_l (by omega)
              · exact cat_r (by omega)
            · simp [T.All, U.ne_eq, U.lt_eq, hp, hI0, hI1, c, E0, E1]
              exact chg_err (chgE_5 (w := 0) c E0 rfl) E1
        · rcases hn with rfl | rfl <;>
          · simp [T.All, U.ne_eq, U.lt_eq, hp, hI0, c, E0]
            exact chg_err (chgE_3 (w := 0) c rfl E0) E0
      · have q' : ¬ ((m : Int) = (n : Int)) := by omega
        simp [T.All, U.ne_eq, hp, c, q']
        exact chg_err (chgE_2 (w := 0) c q) (by omega)
    · simp [T.All, U.ne_eq, hp, c]
      exact chg_err (chgE_1 (w := 0) c) c
  · exact h.elim
set_option maxRecDepth 100000 in
theorem t_DExpand (n : Nat) (f : Nat → R3) (k s h : Int) (m : Nat) (e : Nat → R1) : conB Go.Proofs.Try.prog (conOf d12) (loopsOf lCh) 10 92 [.agg [.row [.int .i64, .int .i64, .int .i64] n f, .lit (.int .i64 k), .lit (.int .i64 s), .lit (.int .i64 h)], .row [.int .i64] m e] =
    T.ask (Row64 n f) (.br (U.ne (lk chD n f k s h) (0 : Int)) (.ret (.tup [.agg [.lit (.slice none (nat_lit 0) (nat_lit 0)), .lit (.int .i64 0), .lit (.int .i64 0), .lit (.int .i64
      0)], .lit (.int .i64 (lk chD n f k s h))])) (.br (U.ne (Int.ofNat m) (Int.ofNat n)) (.ret (.tup [.agg [.lit (.slice none (nat_lit 0) (nat_lit 0)), .lit (.int .i64 0), .lit (.int
      .i64 0), .lit (.int .i64 0)], .lit (.int .i64 5)])) (.br (U.lt (0 : Int) (Int.ofNat n)) (.ask ((0 : Int) ≤ (0 : Int) ∧ (0 : Int) < ↑n) (.ask ((0 : Int) ≤ (0 : Int) ∧ (0 : Int) < ↑m)
      (.ask (I64 (f (U.toNat (Int.ofNat 0))).1 ∧ I64 (f (U.toNat (Int.ofNat 0))).2.1 ∧ I64 (f (U.toNat (Int.ofNat 0))).2.2.1 ∧ I64 (e (U.toNat (Int.ofNat 0))).1) (.br (U.ne (lk exE (f
      (U.toNat (Int.ofNat 0))).1 (f (U.toNat (Int.ofNat 0))).2.1 (f (U.toNat (Int.ofNat 0))).2.2.1 (e (U.toNat (Int.ofNat 0))).1) (0 : Int)) (.br (U.ne (lk exE (f (U.toNat (Int.ofNat
      0))).1 (f (U.toNat (Int.ofNat 0))).2.1 (f (U.toNat (Int.ofNat 0))).2.2.1 (e (U.toNat (Int.ofNat 0))).1) (0 : Int)) (.ret (.tup [.agg [.lit (.slice none (nat_lit 0) (nat_lit 0)),
      .lit (.int .i64 0), .lit (.int .i64 0), .lit (.int .i64 0)], .lit (.int .i64 (lk exE (f (U.toNat (Int.ofNat 0))).1 (f (U.toNat (Int.ofNat 0))).2.1 (f (U.toNat (Int.ofNat 0))).2.2.1
      (e (U.toNat (Int.ofNat 0))).1))])) (.ret (.tup [.agg [.lit (.slice none (nat_lit 0) (nat_lit 0)), .lit (.int .i64 k), .lit (.int .i64 s), .lit (.int .i64 h)], .lit (.int .i64 0)])))
      (.ask ((1 : Nat) * nat_lit 24 ≤ nat_lit 140737488351232) (.br (U.lt (1 : Int) (Int.ofNat n)) (.ask ((0 : Int) ≤ (1 : Int) ∧ (1 : Int) < ↑n) (.ask ((0 : Int) ≤ (1 : Int) ∧ (1 : Int)
      < ↑m) (.ask (I64 (f (U.toNat (Int.ofNat 1))).1 ∧ I64 (f (U.toNat (Int.ofNat 1))).2.1 ∧ I64 (f (U.toNat (Int.ofNat 1))).2.2.1 ∧ I64 (e (U.toNat (Int.ofNat 1))).1) (.br (U.ne (lk exE
      (f (U.toNat (Int.ofNat 1))).1 (f (U.toNat (Int.ofNat 1))).2.1 (f (U.toNat (Int.ofNat 1))).2.2.1 (e (U.toNat (Int.ofNat 1))).1) (0 : Int)) (.br (U.ne (lk exE (f (U.toNat (Int.ofNat
      1))).1 (f (U.toNat (Int.ofNat 1))).2.1 (f (U.toNat (Int.ofNat 1))).2.2.1 (e (U.toNat (Int.ofNat 1))).1) (0 : Int)) (.ret (.tup [.agg [.lit (.slice none (nat_lit 0) (nat_lit 0)),
      .lit (.int .i64 0), .lit (.int .i64 0), .lit (.int .i64 0)], .lit (.int .i64 (lk exE (f (U.toNat (Int.ofNat 1))).1 (f (U.toNat (Int.ofNat 1))).2.1 (f (U.toNat (Int.ofNat 1))).2.2.1
      (e (U.toNat (Int.ofNat 1))).1))])) (.ret (.tup [.agg [.row [.int .i64, .int .i64, .int .i64] (nat_lit 1) fun x => (lk exLow (f (U.toNat (Int.ofNat 0))).1 (f (U.toNat (Int.ofNat
      0))).2.1 (f (U.toNat (Int.ofNat 0))).2.2.1 (e (U.toNat (Int.ofNat 0))).1, lk exHigh (f (U.toNat (Int.ofNat 0))).1 (f (U.toNat (Int.ofNat 0))).2.1 (f (U.toNat (Int.ofNat 0))).2.2.1
      (e (U.toNat (Int.ofNat 0))).1, lk exStr (f (U.toNat (Int.ofNat 0))).1 (f (U.toNat (Int.ofNat 0))).2.1 (f (U.toNat (Int.ofNat 0))).2.2.1 (e (U.toNat (Int.ofNat 0))).1, PUnit.unit),
      .lit (.int .i64 k), .lit (.int .i64 s), .lit (.int .i64 h)], .lit (.int .i64 0)]))) (.ask (((1 : Nat) + (1 : Nat)) * nat_lit 24 ≤ nat_lit 140737488351232) (.br (U.lt (2 : Int)
      (Int.ofNat n)) (.ask ((0 : Int) ≤ (2 : Int) ∧ (2 : Int) < ↑n) (.ask ((0 : Int) ≤ (2 : Int) ∧ (2 : Int) < ↑m) (.ask (I64 (f (U.toNat (Int.ofNat 2))).1 ∧ I64 (f (U.toNat (Int.ofNat
      2))).2.1 ∧ I64 (f (U.toNat (Int.ofNat 2))).2.2.1 ∧ I64 (e (U.toNat (Int.ofNat 2))).1) (.br (U.ne (lk exE (f (U.toNat (Int.ofNat 2))).1 (f (U.toNat (Int.ofNat 2))).2.1 (f (U.toNat
      (Int.ofNat 2))).2.2.1 (e (U.toNat (Int.ofNat 2))).1) (0 : Int)) (.br (U.ne (lk exE (f (U.toNat (Int.ofNat 2))).1 (f (U.toNat (Int.ofNat 2))).2.1 (f (U.toNat (Int.ofNat 2))).2.2.1 (e
      (U.toNat (Int.ofNat 2))).1) (0 : Int)) (.ret (.tup [.agg [.lit (.slice none (nat_lit 0) (nat_lit 0)), .lit (.int .i64 0), .lit (.int .i64 0), .lit (.int .i64 0)], .lit (.int .i64
      (lk exE (f (U.toNat (Int.ofNat 2))).1 (f (U.toNat (Int.ofNat 2))).2.1 (f (U.toNat (Int.ofNat 2))).2.2.1 (e (U.toNat (Int.ofNat 2))).1))])) (.ret (.tup [.agg [.row [.int .i64, .int
      .i64, .int .i64] (nat_lit 2) (U.cat (nat_lit 1) (fun x => (lk exLow (f (U.toNat (Int.ofNat 0))).1 (f (U.toNat (Int.ofNat 0))).2.1 (f (U.toNat (Int.ofNat 0))).2.2.1 (e (U.toNat
      (Int.ofNat 0))).1, lk exHigh (f (U.toNat (Int.ofNat 0))).1 (f (U.toNat (Int.ofNat 0))).2.1 (f (U.toNat (Int.ofNat 0))).2.2.1 (e (U.toNat (Int.ofNat 0))).1, lk exStr (f (U.toNat
      (Int.ofNat 0))).1 (f (U.toNat (Int.ofNat 0))).2.1 (f (U.toNat (Int.ofNat 0))).2.2.1 (e (U.toNat (Int.ofNat 0))).1, PUnit.unit)) fun x => (lk exLow (f (U.toNat (Int.ofNat 1))).1 (f
      (U.toNat (Int.ofNat 1))).2.1 (f (U.toNat (Int.ofNat 1))).2.2.1 (e (U.toNat (Int.ofNat 1))).1, lk exHigh (f (U.toNat (Int.ofNat 1))).1 (f (U.toNat (Int.ofNat 1))).2.1 (f (U.toNat
      (Int.ofNat 1))).2.2.1 (e (U.toNat (Int.ofNat 1))).1, lk exStr (f (U.toNat (Int.ofNat 1))).1 (f (U.toNat (Int.ofNat 1))).2.1 (f (U.toNat (Int.ofNat 1))).2.2.1 (e (U.toNat (Int.ofNat
      1))).1, PUnit.unit)), .lit (.int .i64 k), .lit (.int .i64 s), .lit (.int .i64 h)], .lit (.int .i64 0)]))) (.ask (((1 : Nat) + (1 : Nat) + (1 : Nat)) * nat_lit 24 ≤ nat_lit
      140737488351232) (.stuck (nat_lit 105))))))) (.br (U.ne (lk exE (f (U.toNat (Int.ofNat 1))).1 (f (U.toNat (Int.ofNat 1))).2.1 (f (U.toNat (Int.ofNat 1))).2.2.1 (e (U.toNat
      (Int.ofNat 1))).1) (0 : Int)) (.ret (.tup [.agg [.lit (.slice none (nat_lit 0) (nat_lit 0)), .lit (.int .i64 0), .lit (.int .i64 0), .lit (.int .i64 0)], .lit (.int .i64 (lk exE (f
      (U.toNat (Int.ofNat 1))).1 (f (U.toNat (Int.ofNat 1))).2.1 (f (U.toNat (Int.ofNat 1))).2.2.1 (e (U.toNat (Int.ofNat 1))).1))])) (.ret (.tup [.agg [.row [.int .i64, .int .i64, .int
      .i64] (nat_lit 2) (U.cat (nat_lit 1) (fun x => (lk exLow (f (U.toNat (Int.ofNat 0))).1 (f (U.toNat (Int.ofNat 0))).2.1 (f (U.toNat (Int.ofNat 0))).2.2.1 (e (U.toNat (Int.ofNat
      0))).1, lk exHigh (f (U.toNat (Int.ofNat 0))).1 (f (U.toNat (Int.ofNat 0))).2.1 (f (U.toNat (Int.ofNat 0))).2.2.1 (e (U.toNat (Int.ofNat 0))).1, lk exStr (f (U.toNat (Int.ofNat
      0))).1 (f (U.toNat (Int.ofNat 0))).2.1 (f (U.toNat (Int.ofNat 0))).2.2.1 (e (U.toNat (Int.ofNat 0))).1, PUnit.unit)) fun x => (lk exLow (f (U.toNat (Int.ofNat 1))).1 (f (U.toNat
      (Int.ofNat 1))).2.1 (f (U.toNat (Int.ofNat 1))).2.2.1 (e (U.toNat (Int.ofNat 1))).1, lk exHigh (f (U.toNat (Int.ofNat 1))).1 (f (U.toNat (Int.ofNat 1))).2.1 (f (U.toNat (Int.ofNat
      1))).2.2.1 (e (U.toNat (Int.ofNat 1))).1, lk exStr (f (U.toNat (Int.ofNat 1))).1 (f (U.toNat (Int.ofNat 1))).2.1 (f (U.toNat (Int.ofNat 1))).2.2.1 (e (U.toNat (Int.ofNat 1))).1,
      PUnit.unit)), .lit (.int .i64 k), .lit (.int .i64 s), .lit (.int .i64 h)], .lit (.int .i64 0)]))))))))) (.br (U.ne (lk exE (f (U.toNat (Int.ofNat 0))).1 (f (U.toNat (Int.ofNat
      0))).2.1 (f (U.toNat (Int.ofNat 0))).2.2.1 (e (U.toNat (Int.ofNat 0))).1) (0 : Int)) (.ret (.tup [.agg [.lit (.slice none (nat_lit 0) (nat_lit 0)), .lit (.int .i64 0), .lit (.int
      .i64 0), .lit (.int .i64 0)], .lit (.int .i64 (lk exE (f (U.toNat (Int.ofNat 0))).1 (f (U.toNat (Int.ofNat 0))).2.1 (f (U.toNat (Int.ofNat 0))).2.2.1 (e (U.toNat (Int.ofNat
      0))).1))])) (.ret (.tup [.agg [.row [.int .i64, .int .i64, .int .i64] (nat_lit 1) fun x => (lk exLow (f (U.toNat (Int.ofNat 0))).1 (f (U.toNat (Int.ofNat 0))).2.1 (f (U.toNat
      (Int.ofNat 0))).2.2.1 (e (U.toNat (Int.ofNat 0))).1, lk exHigh (f (U.toNat (Int.ofNat 0))).1 (f (U.toNat (Int.ofNat 0))).2.1 (f (U.toNat (Int.ofNat 0))).2.2.1 (e (U.toNat (Int.ofNat
      0))).1, lk exStr (f (U.toNat (Int.ofNat 0))).1 (f (U.toNat (Int.ofNat 0))).2.1 (f (U.toNat (Int.ofNat 0))).2.2.1 (e (U.toNat (Int.ofNat 0))).1, PUnit.unit), .lit (.int .i64 k), .lit
      (.int .i64 s), .lit (.int .i64 h)], .lit (.int .i64 0)]))))))))) (.ret (.tup [.agg [.lit (.slice none (nat_lit 0) (nat_lit 0)), .lit (.int .i64 k), .lit (.int .i64 s), .lit (.int
      .i64 h)], .lit (.int .i64 0)]))))) := by kernel_rfl
theorem DExpand_ok (h12 : ∀ p ∈ d12, ConOK P p.1 p.2) (hl : ∀ p ∈ lCh, LoopsOK P p.2 (bodyOf P p.1)) : ConOK P 92 (c_chg 1) := con_cl (allOKL mixed h12 hl) 10 92 fun args r h => by
  unfold c_chg at h
  split at h
  · rename_i n f k s h' m e
    obtain ⟨hp, hq⟩ := (T.is_ask h).1
    have h := (T.is_ask h).2
    obtain rfl := T.is_ret h
    rw [t_DExpand]
    simp only [tn, lk_eq]
    simp only [Int.ofNat_eq_natCast]
    by_cases c : chD n f k s h' = 0
    · by_cases q : m = n
      · subst q
        have hn := (chD_zero.1 c).1.1
        have hI : ∀ i, i < m → I64 (f i).1 ∧ I64 (f i).2.1 ∧ I64 (f i).2.2.1 ∧ I64 (e i).1 := fun i hi => ⟨(hp i hi).1, (hp i hi).2.1, (hp i hi).2.2, hq i hi⟩
        have hI0 := hI 0 (by omega)
        by_cases E0 : exE (f 0).1 (f 0).2.1 (f 0).2.2.1 (e 0).1 = 0
        · rcases hn with rfl | rfl
          · simp [T.All, U.ne_eq, U.lt_eq, hp, hI0, c, E0]
            refine chg_ok (chgE_4 (w := 1) c E0) rfl fun i hi => ?_
            obtain rfl := one_of hi
            rfl
          · have hI1 := hI 1 (by omega)
            by_cases E1 : exE (f 1).1 (f 1).2.1 (f 1).2.2.1 (e 1).1 = 0
            · simp [T.All, U.ne_eq, U.lt_eq, hp, hI0, hI1, c, E0, E1]
              refine chg_ok (chgE_5 (w := 1) c E0 E1) rfl fun i hi => ?_
              rcases two_of hi with rfl | rfl
              · exact cat_l (by omega)
              · exact cat_r (by omega)
            · simp [T.All, U.ne_eq, U.lt_eq, hp, hI0, hI1, c, E0, E1]
              exact chg_err (chgE_5 (w := 1) c E0 rfl) E1
        · rcases hn with rfl | rfl <;>
          · simp [T.All, U.ne_eq, U.lt_eq, hp, hI0, c, E0]
            exact chg_err (chgE_3 (w := 1) c rfl E0) E0
      · have q' : ¬ ((m : Int) = (n : Int)) := by omega
        simp [T.All, U.ne_eq, hp, c, q']
        exact chg_err (chgE_2 (w := 1) c q) (by omega)
    · simp [T.All, U.ne_eq, hp, c]
      exact chg_err (chgE_1 (w := 1) c) c
  · exact h.elim
set_option maxRecDepth 100000 in
theorem t_qDExpand (n : Nat) (f : Nat → R3) (k s h : Int) (m : Nat) (e : Nat → R1) : conB Go.Proofs.Try.prog (conOf d12) (loopsOf lqCh) 10 93 [.agg [.row [.int .i64, .int .i64, .int .i64] n f, .lit (.int .i64 k), .lit (.int .i64 s), .lit (.int .i64 h)], .row [.int .i64] m e] =
    T.ask (Row64 n f) (.br (U.ne (lk chD n f k s h) (0 : Int)) (.ret (.tup [.agg [.lit (.slice none (nat_lit 0) (nat_lit 0)), .lit (.int .i64 0), .lit (.int .i64 0), .lit (.int .i64
      0)], .lit (.int .i64 (lk chD n f k s h))])) (.br (U.ne (Int.ofNat m) (Int.ofNat n)) (.ret (.tup [.agg [.lit (.slice none (nat_lit 0) (nat_lit 0)), .lit (.int .i64 0), .lit (.int
      .i64 0), .lit (.int .i64 0)], .lit (.int .i64 5)])) (.br (U.lt (0 : Int) (Int.ofNat m)) (.ask ((0 : Int) ≤ (0 : Int) ∧ (0 : Int) < ↑n) (.ask ((0 : Int) ≤ (0 : Int) ∧ (0 : Int) < ↑m)
      (.ask (I64 (f (U.toNat (Int.ofNat 0))).1 ∧ I64 (f (U.toNat (Int.ofNat 0))).2.1 ∧ I64 (f (U.toNat (Int.ofNat 0))).2.2.1 ∧ I64 (e (U.toNat (Int.ofNat 0))).1) (.br (U.ne (lk exE (f
      (U.toNat (Int.ofNat 0))).1 (f (U.toNat (Int.ofNat 0))).2.1 (f (U.toNat (Int.ofNat 0))).2.2.1 (e (U.toNat (Int.ofNat 0))).1) (0 : Int)) (.ret (.tup [.agg [.lit (.slice none (nat_lit
      0) (nat_lit 0)), .lit (.int .i64 0), .lit (.int .i64 0), .lit (.int .i64 0)], .lit (.int .i64 (lk exE (f (U.toNat (Int.ofNat 0))).1 (f (U.toNat (Int.ofNat 0))).2.1 (f (U.toNat
      (Int.ofNat 0))).2.2.1 (e (U.toNat (Int.ofNat 0))).1))])) (.ask ((1 : Nat) * nat_lit 24 ≤ nat_lit 140737488351232) (.br (U.lt (1 : Int) (Int.ofNat m)) (.ask ((0 : Int) ≤ (1 : Int) ∧
      (1 : Int) < ↑n) (.ask ((0 : Int) ≤ (1 : Int) ∧ (1 : Int) < ↑m) (.ask (I64 (f (U.toNat (Int.ofNat 1))).1 ∧ I64 (f (U.toNat (Int.ofNat 1))).2.1 ∧ I64 (f (U.toNat (Int.ofNat 1))).2.2.1
      ∧ I64 (e (U.toNat (Int.ofNat 1))).1) (.br (U.ne (lk exE (f (U.toNat (Int.ofNat 1))).1 (f (U.toNat (Int.ofNat 1))).2.1 (f (U.toNat (Int.ofNat 1))).2.2.1 (e (U.toNat (Int.ofNat
      1))).1) (0 : Int)) (.ret (.tup [.agg [.lit (.slice none (nat_lit 0) (nat_lit 0)), .lit (.int .i64 0), .lit (.int .i64 0), .lit (.int .i64 0)], .lit (.int .i64 (lk exE (f (U.toNat
      (Int.ofNat 1))).1 (f (U.toNat (Int.ofNat 1))).2.1 (f (U.toNat (Int.ofNat 1))).2.2.1 (e (U.toNat (Int.ofNat 1))).1))])) (.ask (((1 : Nat) + (1 : Nat)) * nat_lit 24 ≤ nat_lit
      140737488351232) (.br (U.lt (2 : Int) (Int.ofNat m)) (.ask ((0 : Int) ≤ (2 : Int) ∧ (2 : Int) < ↑n) (.ask ((0 : Int) ≤ (2 : Int) ∧ (2 : Int) < ↑m) (.ask (I64 (f (U.toNat (Int.ofNat
      2))).1 ∧ I64 (f (U.toNat (Int.ofNat 2))).2.1 ∧ I64 (f (U.toNat (Int.ofNat 2))).2.2.1 ∧ I64 (e (U.toNat (Int.ofNat 2))).1) (.br (U.ne (lk exE (f (U.toNat (Int.ofNat 2))).1 (f
      (U.toNat (Int.ofNat 2))).2.1 (f (U.toNat (Int.ofNat 2))).2.2.1 (e (U.toNat (Int.ofNat 2))).1) (0 : Int)) (.ret (.tup [.agg [.lit (.slice none (nat_lit 0) (nat_lit 0)), .lit (.int
      .i64 0), .lit (.int .i64 0), .lit (.int .i64 0)], .lit (.int .i64 (lk exE (f (U.toNat (Int.ofNat 2))).1 (f (U.toNat (Int.ofNat 2))).2.1 (f (U.toNat (Int.ofNat 2))).2.2.1 (e (U.toNat
      (Int.ofNat 2))).1))])) (.ask (((1 : Nat) + (1 : Nat) + (1 : Nat)) * nat_lit 24 ≤ nat_lit 140737488351232) (.stuck (nat_lit 105))))))) (.ret (.tup [.agg [.row [.int .i64, .int .i64,
      .int .i64] (nat_lit 2) (U.cat (nat_lit 1) (fun x => (lk exLow (f (U.toNat (Int.ofNat 0))).1 (f (U.toNat (Int.ofNat 0))).2.1 (f (U.toNat (Int.ofNat 0))).2.2.1 (e (U.toNat (Int.ofNat
      0))).1, lk exHigh (f (U.toNat (Int.ofNat 0))).1 (f (U.toNat (Int.ofNat 0))).2.1 (f (U.toNat (Int.ofNat 0))).2.2.1 (e (U.toNat (Int.ofNat 0))).1, lk exStr (f (U.toNat (Int.ofNat
      0))).1 (f (U.toNat (Int.ofNat 0))).2.1 (f (U.toNat (Int.ofNat 0))).2.2.1 (e (U.toNat (Int.ofNat 0))).1, PUnit.unit)) fun x => (lk exLow (f (U.toNat (Int.ofNat 1))).1 (f (U.toNat
      (Int.ofNat 1))).2.1 (f (U.toNat (Int.ofNat 1))).2.2.1 (e (U.toNat (Int.ofNat 1))).1, lk exHigh (f (U.toNat (Int.ofNat 1))).1 (f (U.toNat (Int.ofNat 1))).2.1 (f (U.toNat (Int.ofNat
      1))).2.2.1 (e (U.toNat (Int.ofNat 1))).1, lk exStr (f (U.toNat (Int.ofNat 1))).1 (f (U.toNat (Int.ofNat 1))).2.1 (f (U.toNat (Int.ofNat 1))).2.2.1 (e (U.toNat (Int.ofNat 1))).1,
      PUnit.unit)), .lit (.int .i64 k), .lit (.int .i64 s), .lit (.int .i64 h)], .lit (.int .i64 0)])))))))) (.ret (.tup [.agg [.row [.int .i64, .int .i64, .int .i64] (nat_lit 1) fun x =>
      (lk exLow (f (U.toNat (Int.ofNat 0))).1 (f (U.toNat (Int.ofNat 0))).2.1 (f (U.toNat (Int.ofNat 0))).2.2.1 (e (U.toNat (Int.ofNat 0))).1, lk exHigh (f (U.toNat (Int.ofNat 0))).1 (f
      (U.toNat (Int.ofNat 0))).2.1 (f (U.toNat (Int.ofNat 0))).2.2.1 (e (U.toNat (Int.ofNat 0))).1, lk exStr (f (U.toNat (Int.ofNat 0))).1 (f (U.toNat (Int.ofNat 0))).2.1 (f (U.toNat
      (Int.ofNat 0))).2.2.1 (e (U.toNat (Int.ofNat 0))).1, PUnit.unit), .lit (.int .i64 k), .lit (.int .i64 s), .lit (.int .i64 h)], .lit (.int .i64 0)])))))))) (.ret (.tup [.agg [.lit
      (.slice none (nat_lit 0) (nat_lit 0)), .lit (.int .i64 k), .lit (.int .i64 s), .lit (.int .i64 h)], .lit (.int .i64 0)]))))) := by kernel_rfl
theorem qDExpand_ok (h12 : ∀ p ∈ d12, ConOK P p.1 p.2) (hl : ∀ p ∈ lqCh, LoopsOK P p.2 (bodyOf P p.1)) : ConOK P 93 (c_chg 1) := con_cl (allOKL mixed h12 hl) 10 93 fun args r h => by
  unfold c_chg at h
  split at h
  · rename_i n f k s h' m e
    obtain ⟨hp, hq⟩ := (T.is_ask h).1
    have h := (T.is_ask h).2
    obtain rfl := T.is_ret h
    rw [t_qDExpand]
    simp only [tn, lk_eq]
    simp only [Int.ofNat_eq_natCast]
    by_cases c : chD n f k s h' = 0
    · by_cases q : m = n
      · subst q
        have hn := (chD_zero.1 c).1.1
        have hI : ∀ i, i < m → I64 (f i).1 ∧ I64 (f i).2.1 ∧ I64 (f i).2.2.1 ∧ I64 (e i).1 := fun i hi => ⟨(hp i hi).1, (hp i hi).2.1, (hp i hi).2.2, hq i hi⟩
        have hI0 := hI 0 (by omega)
        by_cases E0 : exE (f 0).1 (f 0).2.1 (f 0).2.2.1 (e 0).1 = 0
        · rcases hn with rfl | rfl
          · simp [T.All, U.ne_eq, U.lt_eq, hp, hI0, c, E0]
            refine chg_ok (chgE_4 (w := 1) c E0) rfl fun i hi => ?_
            obtain rfl := one_of hi
            rfl
          · have hI1 := hI 1 (by omega)
            by_cases E1 : exE (f 1).1 (f 1).2.1 (f 1).2.2.1 (e 1).1 = 0
            · simp [T.All, U.ne_eq, U.lt_eq, hp, hI0, hI1, c, E0, E1]
              refine chg_ok (chgE_5 (w := 1) c E0 E1) rfl fun i hi => ?_
              rcases two_of hi with rfl | rfl
              · exact cat_l (by omega)
              · exact cat_r (by omega)
            · simp [T.All, U.ne_eq, U.lt_eq, hp, hI0, hI1, c, E0, E1]
              exact chg_err (chgE_5 (w := 1) c E0 rfl) E1
        · rcases hn with rfl | rfl <;>
          · simp [T.All, U.ne_eq, U.lt_eq, hp, hI0, c, E0]
            exact chg_err (chgE_3 (w := 1) c rfl E0) E0
      · have q' : ¬ ((m : Int) = (n : Int)) := by omega
        simp [T.All, U.ne_eq, hp, c, q']
        exact chg_err (chgE_2 (w := 1) c q) (by omega)
    · simp [T.All, U.ne_eq, hp, c]
      exact chg_err (chgE_1 (w := 1) c) c
  · exact h.elim
set_option maxRecDepth 100000 in
theorem t_DInterior (n : Nat) (f : Nat → R3) (k s h : Int) (m : Nat) (e : Nat → R1) : conB Go.Proofs.Try.prog (conOf d12) (loopsOf lCh) 10 94 [.agg [.row [.int .i64, .int .i64, .int .i64] n f, .lit (.int .i64 k), .lit (.int .i64 s), .lit (.int .i64 h)], .row [.int .i64] m e] =
    T.ask (Row64 n f) (.br (U.ne (lk chD n f k s h) (0 : Int)) (.ret (.tup [.agg [.lit (.slice none (nat_lit 0) (nat_lit 0)), .lit (.int .i64 0), .lit (.int .i64 0), .lit (.int .i64
      0)], .lit (.int .i64 (lk chD n f k s h))])) (.br (U.ne (Int.ofNat m) (Int.ofNat n)) (.ret (.tup [.agg [.lit (.slice none (nat_lit 0) (nat_lit 0)), .lit (.int .i64 0), .lit (.int
      .i64 0), .lit (.int .i64 0)], .lit (.int .i64 5)])) (.br (U.lt (0 : Int) (Int.ofNat n)) (.ask ((0 : Int) ≤ (0 : Int) ∧ (0 : Int) < ↑n) (.ask ((0 : Int) ≤ (0 : Int) ∧ (0 : Int) < ↑m)
      (.br (U.eq (e (U.toNat (Int.ofNat 0))).1 (0 : Int)) (.ask ((1 : Nat) * nat_lit 24 ≤ nat_lit 140737488351232) (.br (U.lt (1 : Int) (Int.ofNat n)) (.ask ((0 : Int) ≤ (1 : Int) ∧ (1 :
      Int) < ↑n) (.ask ((0 : Int) ≤ (1 : Int) ∧ (1 : Int) < ↑m) (.br (U.eq (e (U.toNat (Int.ofNat 1))).1 (0 : Int)) (.ask (((1 : Nat) + (1 : Nat)) * nat_lit 24 ≤ nat_lit 140737488351232)
      (.br (U.lt (2 : Int) (Int.ofNat n)) (.ask ((0 : Int) ≤ (2 : Int) ∧ (2 : Int) < ↑n) (.ask ((0 : Int) ≤ (2 : Int) ∧ (2 : Int) < ↑m) (.br (U.eq (e (U.toNat (Int.ofNat 2))).1 (0 : Int))
      (.ask (((1 : Nat) + (1 : Nat) + (1 : Nat)) * nat_lit 24 ≤ nat_lit 140737488351232) (.stuck (nat_lit 105))) (.ask (I64 (f (U.toNat (Int.ofNat 2))).1 ∧ I64 (f (U.toNat (Int.ofNat
      2))).2.1 ∧ I64 (f (U.toNat (Int.ofNat 2))).2.2.1 ∧ I64 (e (U.toNat (Int.ofNat 2))).1) (.br (U.ne (lk inE (f (U.toNat (Int.ofNat 2))).1 (f (U.toNat (Int.ofNat 2))).2.1 (f (U.toNat
      (Int.ofNat 2))).2.2.1 (e (U.toNat (Int.ofNat 2))).1) (0 : Int)) (.br (U.ne (lk inE (f (U.toNat (Int.ofNat 2))).1 (f (U.toNat (Int.ofNat 2))).2.1 (f (U.toNat (Int.ofNat 2))).2.2.1 (e
      (U.toNat (Int.ofNat 2))).1) (0 : Int)) (.ret (.tup [.agg [.lit (.slice none (nat_lit 0) (nat_lit 0)), .lit (.int .i64 0), .lit (.int .i64 0), .lit (.int .i64 0)], .lit (.int .i64
      (lk inE (f (U.toNat (Int.ofNat 2))).1 (f (U.toNat (Int.ofNat 2))).2.1 (f (U.toNat (Int.ofNat 2))).2.2.1 (e (U.toNat (Int.ofNat 2))).1))])) (.ret (.tup [.agg [.row [.int .i64, .int
      .i64, .int .i64] (nat_lit 2) (U.cat (nat_lit 1) (fun x => ((f (U.toNat (Int.ofNat 0))).1, (f (U.toNat (Int.ofNat 0))).2.1, (f (U.toNat (Int.ofNat 0))).2.2.1, PUnit.unit)) fun x =>
      ((f (U.toNat (Int.ofNat 1))).1, (f (U.toNat (Int.ofNat 1))).2.1, (f (U.toNat (Int.ofNat 1))).2.2.1, PUnit.unit)), .lit (.int .i64 k), .lit (.int .i64 s), .lit (.int .i64 h)], .lit
      (.int .i64 0)]))) (.ask (((1 : Nat) + (1 : Nat) + (1 : Nat)) * nat_lit 24 ≤ nat_lit 140737488351232) (.stuck (nat_lit 105)))))))) (.ret (.tup [.agg [.row [.int .i64, .int .i64, .int
      .i64] (nat_lit 2) (U.cat (nat_lit 1) (fun x => ((f (U.toNat (Int.ofNat 0))).1, (f (U.toNat (Int.ofNat 0))).2.1, (f (U.toNat (Int.ofNat 0))).2.2.1, PUnit.unit)) fun x => ((f (U.toNat
      (Int.ofNat 1))).1, (f (U.toNat (Int.ofNat 1))).2.1, (f (U.toNat (Int.ofNat 1))).2.2.1, PUnit.unit)), .lit (.int .i64 k), .lit (.int .i64 s), .lit (.int .i64 h)], .lit (.int .i64
      0)])))) (.ask (I64 (f (U.toNat (Int.ofNat 1))).1 ∧ I64 (f (U.toNat (Int.ofNat 1))).2.1 ∧ I64 (f (U.toNat (Int.ofNat 1))).2.2.1 ∧ I64 (e (U.toNat (Int.ofNat 1))).1) (.br (U.ne (lk
      inE (f (U.toNat (Int.ofNat 1))).1 (f (U.toNat (Int.ofNat 1))).2.1 (f (U.toNat (Int.ofNat 1))).2.2.1 (e (U.toNat (Int.ofNat 1))).1) (0 : Int)) (.br (U.ne (lk inE (f (U.toNat
      (Int.ofNat 1))).1 (f (U.toNat (Int.ofNat 1))).2.1 (f (U.toNat (Int.ofNat 1))).2.2.1 (e (U.toNat (Int.ofNat 1))).1) (0 : Int)) (.ret (.tup [.agg [.lit (.slice none (nat_lit 0)
      (nat_lit 0)), .lit (.int .i64 0), .lit (.int .i64 0), .lit (.int .i64 0)], .lit (.int .i64 (lk inE (f (U.toNat (Int.ofNat 1))).1 (f (U.toNat (Int.ofNat 1))).2.1 (f (U.toNat
      (Int.ofNat 1))).2.2.1 (e (U.toNat (Int.ofNat 1))).1))])) (.ret (.tup [.agg [.row [.int .i64, .int .i64, .int .i64] (nat_lit 1) fun x => ((f (U.toNat (Int.ofNat 0))).1, (f (U.toNat
      (Int.ofNat 0))).2.1, (f (U.toNat (Int.ofNat 0))).2.2.1, PUnit.unit), .lit (.int .i64 k), .lit (.int .i64 s), .lit (.int .i64 h)], .lit (.int .i64 0)]))) (.ask (((1 : Nat) + (1 :
      Nat)) * nat_lit 24 ≤ nat_lit 140737488351232) (.br (U.lt (2 : Int) (Int.ofNat n)) (.ask ((0 : Int) ≤ (2 : Int) ∧ (2 : Int) < ↑n) (.ask ((0 : Int) ≤ (2 : Int) ∧ (2 : Int) < ↑m) (.br
      (U.eq (e (U.toNat (Int.ofNat 2))).1 (0 : Int)) (.ask (((1 : Nat) + (1 : Nat) + (1 : Nat)) * nat_lit 24 ≤ nat_lit 140737488351232) (.stuck (nat_lit 105))) (.ask (I64 (f (U.toNat
      (Int.ofNat 2))).1 ∧ I64 (f (U.toNat (Int.ofNat 2))).2.1 ∧ I64 (f (U.toNat (Int.ofNat 2))).2.2.1 ∧ I64 (e (U.toNat (Int.ofNat 2))).1) (.br (U.ne (lk inE (f (U.toNat (Int.ofNat 2))).1
      (f (U.toNat (Int.ofNat 2))).2.1 (f (U.toNat (Int.ofNat 2))).2.2.1 (e (U.toNat (Int.ofNat 2))).1) (0 : Int)) (.br (U.ne (lk inE (f (U.toNat (Int.ofNat 2))).1 (f (U.toNat (Int.ofNat
      2))).2.1 (f (U.toNat (Int.ofNat 2))).2.2.1 (e (U.toNat (Int.ofNat 2))).1) (0 : Int)) (.ret (.tup [.agg [.lit (.slice none (nat_lit 0) (nat_lit 0)), .lit (.int .i64 0), .lit (.int
      .i64 0), .lit (.int .i64 0)], .lit (.int .i64 (lk inE (f (U.toNat (Int.ofNat 2))).1 (f (U.toNat (Int.ofNat 2))).2.1 (f (U.toNat (Int.ofNat 2))).2.2.1 (e (U.toNat (Int.ofNat
      2))).1))])) (.ret (.tup [.agg [.row [.int .i64, .int .i64, .int .i64] (nat_lit 2) (U.cat (nat_lit 1) (fun x => ((f (U.toNat (Int.ofNat 0))).1, (f (U.toNat (Int.ofNat 0))).2.1, (f
      (U.toNat (Int.ofNat 0))).2.2.1, PUnit.unit)) fun x => (lk inLow (f (U.toNat (Int.ofNat 1))).1 (f (U.toNat (Int.ofNat 1))).2.1 (f (U.toNat (Int.ofNat 1))).2.2.1 (e (U.toNat
      (Int.ofNat 1))).1, lk inHigh (f (U.toNat (Int.ofNat 1))).1 (f (U.toNat (Int.ofNat 1))).2.1 (f (U.toNat (Int.ofNat 1))).2.2.1 (e (U.toNat (Int.ofNat 1))).1, lk inStr (f (U.toNat
      (Int.ofNat 1))).1 (f (U.toNat (Int.ofNat 1))).2.1 (f (U.toNat (Int.ofNat 1))).2.2.1 (e (U.toNat (Int.ofNat 1))).1, PUnit.unit)), .lit (.int .i64 k), .lit (.int .i64 s), .lit (.int
      .i64 h)], .lit (.int .i64 0)]))) (.ask (((1 : Nat) + (1 : Nat) + (1 : Nat)) * nat_lit 24 ≤ nat_lit 140737488351232) (.stuck (nat_lit 105)))))))) (.br (U.ne (lk inE (f (U.toNat
      (Int.ofNat 1))).1 (f (U.toNat (Int.ofNat 1))).2.1 (f (U.toNat (Int.ofNat 1))).2.2.1 (e (U.toNat (Int.ofNat 1))).1) (0 : Int)) (.ret (.tup [.agg [.lit (.slice none (nat_lit 0)
      (nat_lit 0)), .lit (.int .i64 0), .lit (.int .i64 0), .lit (.int .i64 0)], .lit (.int .i64 (lk inE (f (U.toNat (Int.ofNat 1))).1 (f (U.toNat (Int.ofNat 1))).2.1 (f (U.toNat
      (Int.ofNat 1))).2.2.1 (e (U.toNat (Int.ofNat 1))).1))])) (.ret (.tup [.agg [.row [.int .i64, .int .i64, .int .i64] (nat_lit 2) (U.cat (nat_lit 1) (fun x => ((f (U.toNat (Int.ofNat
      0))).1, (f (U.toNat (Int.ofNat 0))).2.1, (f (U.toNat (Int.ofNat 0))).2.2.1, PUnit.unit)) fun x => (lk inLow (f (U.toNat (Int.ofNat 1))).1 (f (U.toNat (Int.ofNat 1))).2.1 (f (U.toNat
      (Int.ofNat 1))).2.2.1 (e (U.toNat (Int.ofNat 1))).1, lk inHigh (f (U.toNat (Int.ofNat 1))).1 (f (U.toNat (Int.ofNat 1))).2.1 (f (U.toNat (Int.ofNat 1))).2.2.1 (e (U.toNat (Int.ofNat
      1))).1, lk inStr (f (U.toNat (Int.ofNat 1))).1 (f (U.toNat (Int.ofNat 1))).2.1 (f (U.toNat (Int.ofNat 1))).2.2.1 (e (U.toNat (Int.ofNat 1))).1, PUnit.unit)), .lit (.int .i64 k),
      .lit (.int .i64 s), .lit (.int .i64 h)], .lit (.int .i64 0)])))))))))) (.ret (.tup [.agg [.row [.int .i64, .int .i64, .int .i64] (nat_lit 1) fun x => ((f (U.toNat (Int.ofNat 0))).1,
      (f (U.toNat (Int.ofNat 0))).2.1, (f (U.toNat (Int.ofNat 0))).2.2.1, PUnit.unit), .lit (.int .i64 k), .lit (.int .i64 s), .lit (.int .i64 h)], .lit (.int .i64 0)])))) (.ask (I64 (f
      (U.toNat (Int.ofNat 0))).1 ∧ I64 (f (U.toNat (Int.ofNat 0))).2.1 ∧ I64 (f (U.toNat (Int.ofNat 0))).2.2.1 ∧ I64 (e (U.toNat (Int.ofNat 0))).1) (.br (U.ne (lk inE (f (U.toNat
      (Int.ofNat 0))).1 (f (U.toNat (Int.ofNat 0))).2.1 (f (U.toNat (Int.ofNat 0))).2.2.1 (e (U.toNat (Int.ofNat 0))).1) (0 : Int)) (.br (U.ne (lk inE (f (U.toNat (Int.ofNat 0))).1 (f
      (U.toNat (Int.ofNat 0))).2.1 (f (U.toNat (Int.ofNat 0))).2.2.1 (e (U.toNat (Int.ofNat 0))).1) (0 : Int)) (.ret (.tup [.agg [.lit (.slice none (nat_lit 0) (nat_lit 0)), .lit (.int
      .i64 0), .lit (.int .i64 0), .lit (.int .i64 0)], .lit (.int .i64 (lk inE (f (U.toNat (Int.ofNat 0))).1 (f (U.toNat (Int.ofNat 0))).2.1 (f (U.toNat (Int.ofNat 0))).2.2.1 (e (U.toNat
      (Int.ofNat 0))).1))])) (.ret (.tup [.agg [.lit (.slice none (nat_lit 0) (nat_lit 0)), .lit (.int .i64 k), .lit (.int .i64 s), .lit (.int .i64 h)], .lit (.int .i64 0)]))) (.ask ((1 :
      Nat) * nat_lit 24 ≤ nat_lit 140737488351232) (.br (U.lt (1 : Int) (Int.ofNat n)) (.ask ((0 : Int) ≤ (1 : Int) ∧ (1 : Int) < ↑n) (.ask ((0 : Int) ≤ (1 : Int) ∧ (1 : Int) < ↑m) (.br
      (U.eq (e (U.toNat (Int.ofNat 1))).1 (0 : Int)) (.ask (((1 : Nat) + (1 : Nat)) * nat_lit 24 ≤ nat_lit 140737488351232) (.br (U.lt (2 : Int) (Int.ofNat n)) (.ask ((0 : Int) ≤ (2 :
      Int) ∧ (2 : Int) < ↑n) (.ask ((0 : Int) ≤ (2 : Int) ∧ (2 : Int) < ↑m) (.br (U.eq (e (U.toNat (Int.ofNat 2))).1 (0 : Int)) (.ask (((1 : Nat) + (1 : Nat) + (1 : Nat)) * nat_lit 24 ≤
      nat_lit 140737488351232) (.stuck (nat_lit 105))) (.ask (I64 (f (U.toNat (Int.ofNat 2))).1 ∧ I64 (f (U.toNat (Int.ofNat 2))).2.1 ∧ I64 (f (U.toNat (Int.ofNat 2))).2.2.1 ∧ I64 (e
      (U.toNat (Int.ofNat 2))).1) (.br (U.ne (lk inE (f (U.toNat (Int.ofNat 2))).1 (f (U.toNat (Int.ofNat 2))).2.1 (f (U.toNat (Int.ofNat 2))).2.2.1 (e (U.toNat (Int.ofNat 2))).1) (0 :
      Int)) (.br (U.ne (lk inE (f (U.toNat (Int.ofNat 2))).1 (f (U.toNat (Int.ofNat 2))).2.1 (f (U.toNat (Int.ofNat 2))).2.2.1 (e (U.toNat (Int.ofNat 2))).1) (0 : Int)) (.ret (.tup [.agg
      [.lit (.slice none (nat_lit 0) (nat_lit 0)), .lit (.int .i64 0), .lit (.int .i64 0), .lit (.int .i64 0)], .lit (.int .i64 (lk inE (f (U.toNat (Int.ofNat 2))).1 (f (U.toNat
      (Int.ofNat 2))).2.1 (f (U.toNat (Int.ofNat 2))).2.2.1 (e (U.toNat (Int.ofNat 2))).1))])) (.ret (.tup [.agg [.row [.int .i64, .int .i64, .int .i64] (nat_lit 2) (U.cat (nat_lit 1)
      (fun x => (lk inLow (f (U.toNat (Int.ofNat 0))).1 (f (U.toNat (Int.ofNat 0))).2.1 (f (U.toNat (Int.ofNat 0))).2.2.1 (e (U.toNat (Int.ofNat 0))).1, lk inHigh (f (U.toNat (Int.ofNat
      0))).1 (f (U.toNat (Int.ofNat 0))).2.1 (f (U.toNat (Int.ofNat 0))).2.2.1 (e (U.toNat (Int.ofNat 0))).1, lk inStr (f (U.toNat (Int.ofNat 0))).1 (f (U.toNat (Int.ofNat 0))).2.1 (f
      (U.toNat (Int.ofNat 0))).2.2.1 (e (U.toNat (Int.ofNat 0))).1, PUnit.unit)) fun x => ((f (U.toNat (Int.ofNat 1))).1, (f (U.toNat (Int.ofNat 1))).2.1, (f (U.toNat (Int.ofNat
      1))).2.2.1, PUnit.unit)), .lit (.int .i64 k), .lit (.int .i64 s), .lit (.int .i64 h)], .lit (.int .i64 0)]))) (.ask (((1 : Nat) + (1 : Nat) + (1 : Nat)) * nat_lit 24 ≤ nat_lit
      140737488351232) (.stuck (nat_lit 105)))))))) (.ret (.tup [.agg [.row [.int .i64, .int .i64, .int .i64] (nat_lit 2) (U.cat (nat_lit 1) (fun x => (lk inLow (f (U.toNat (Int.ofNat
      0))).1 (f (U.toNat (Int.ofNat 0))).2.1 (f (U.toNat (Int.ofNat 0))).2.2.1 (e (U.toNat (Int.ofNat 0))).1, lk inHigh (f (U.toNat (Int.ofNat 0))).1 (f (U.toNat (Int.ofNat 0))).2.1 (f
      (U.toNat (Int.ofNat 0))).2.2.1 (e (U.toNat (Int.ofNat 0))).1, lk inStr (f (U.toNat (Int.ofNat 0))).1 (f (U.toNat (Int.ofNat 0))).2.1 (f (U.toNat (Int.ofNat 0))).2.2.1 (e (U.toNat
      (Int.ofNat 0))).1, PUnit.unit)) fun x => ((f (U.toNat (Int.ofNat 1))).1, (f (U.toNat (Int.ofNat 1))).2.1, (f (U.toNat (Int.ofNat 1))).2.2.1, PUnit.unit)), .lit (.int .i64 k), .lit
      (.int .i64 s), .lit (.int .i64 h)], .lit (.int .i64 0)])))) (.ask (I64 (f (U.toNat (Int.ofNat 1))).1 ∧ I64 (f (U.toNat (Int.ofNat 1))).2.1 ∧ I64 (f (U.toNat (Int.ofNat 1))).2.2.1 ∧
      I64 (e (U.toNat (Int.ofNat 1))).1) (.br (U.ne (lk inE (f (U.toNat (Int.ofNat 1))).1 (f (U.toNat (Int.ofNat 1))).2.1 (f (U.toNat (Int.ofNat 1))).2.2.1 (e (U.toNat (Int.ofNat 1))).1)
      (0 : Int)) (.br (U.ne (lk inE (f (U.toNat (Int.ofNat 1))).1 (f (U.toNat (Int.ofNat 1))).2.1 (f (U.toNat (Int.ofNat 1))).2.2.1 (e (U.toNat (Int.ofNat 1))).1) (0 : Int)) (.ret (.tup
      [.agg [.lit (.slice none (nat_lit 0) (nat_lit 0)), .lit (.int .i64 0), .lit (.int .i64 0), .lit (.int .i64 0)], .lit (.int .i64 (lk inE (f (U.toNat (Int.ofNat 1))).1 (f (U.toNat
      (Int.ofNat 1))).2.1 (f (U.toNat (Int.ofNat 1))).2.2.1 (e (U.toNat (Int.ofNat 1))).1))])) (.ret (.tup [.agg [.row [.int .i64, .int .i64, .int .i64] (nat_lit 1) fun x => (lk inLow (f
      (U.toNat (Int.ofNat 0))).1 (f (U.toNat (Int.ofNat 0))).2.1 (f (U.toNat (Int.ofNat 0))).2.2.1 (e (U.toNat (Int.ofNat 0))).1, lk inHigh (f (U.toNat (Int.ofNat 0))).1 (f (U.toNat
      (Int.ofNat 0))).2.1 (f (U.toNat (Int.ofNat 0))).2.2.1 (e (U.toNat (Int.ofNat 0))).1, lk inStr (f (U.toNat (Int.ofNat 0))).1 (f (U.toNat (Int.ofNat 0))).2.1 (f (U.toNat (Int.ofNat
      0))).2.2.1 (e (U.toNat (Int.ofNat 0))).1, PUnit.unit), .lit (.int .i64 k), .lit (.int .i64 s), .lit (.int .i64 h)], .lit (.int .i64 0)]))) (.ask (((1 : Nat) + (1 : Nat)) * nat_lit
      24 ≤ nat_lit 140737488351232) (.br (U.lt (2 : Int) (Int.ofNat n)) (.ask ((0 : Int) ≤ (2 : Int) ∧ (2 : Int) < ↑n) (.ask ((0 : Int) ≤ (2 : Int) ∧ (2 : Int) < ↑m) (.br (U.eq (e
      (U.toNat (Int.ofNat 2))).1 (0 : Int)) (.ask (((1 : Nat) + (1 : Nat) + (1 : Nat)) * nat_lit 24 ≤ nat_lit 140737488351232) (.stuck (nat_lit 105))) (.ask (I64 (f (U.toNat (Int.ofNat
      2))).1 ∧ I64 (f (U.toNat (Int.ofNat 2))).2.1 ∧ I64 (f (U.toNat (Int.ofNat 2))).2.2.1 ∧ I64 (e (U.toNat (Int.ofNat 2))).1) (.br (U.ne (lk inE (f (U.toNat (Int.ofNat 2))).1 (f
      (U.toNat (Int.ofNat 2))).2.1 (f (U.toNat (Int.ofNat 2))).2.2.1 (e (U.toNat (Int.ofNat 2))).1) (0 : Int)) (.br (U.ne (lk inE (f (U.toNat (Int.ofNat 2))).1 (f (U.toNat (Int.ofNat
      2))).2.1 (f (U.toNat (Int.ofNat 2))).2.2.1 (e (U.toNat (Int.ofNat 2))).1) (0 : Int)) (.ret (.tup [.agg [.lit (.slice none (nat_lit 0) (nat_lit 0)), .lit (.int .i64 0), .lit (.int
      .i64 0), .lit (.int .i64 0)], .lit (.int .i64 (lk inE (f (U.toNat (Int.ofNat 2))).1 (f (U.toNat (Int.ofNat 2))).2.1 (f (U.toNat (Int.ofNat 2))).2.2.1 (e (U.toNat (Int.ofNat
      2))).1))])) (.ret (.tup [.agg [.row [.int .i64, .int .i64, .int .i64] (nat_lit 2) (U.cat (nat_lit 1) (fun x => (lk inLow (f (U.toNat (Int.ofNat 0))).1 (f (U.toNat (Int.ofNat
      0))).2.1 (f (U.toNat (Int.ofNat 0))).2.2.1 (e (U.toNat (Int.ofNat 0))).1, lk inHigh (f (U.toNat (Int.ofNat 0))).1 (f (U.toNat (Int.ofNat 0))).2.1 (f (U.toNat (Int.ofNat 0))).2.2.1
      (e (U.toNat (Int.ofNat 0))).1, lk inStr (f (U.toNat (Int.ofNat 0))).1 (f (U.toNat (Int.ofNat 0))).2.1 (f (U.toNat (Int.ofNat 0))).2.2.1 (e (U.toNat (Int.ofNat 0))).1, PUnit.unit))
      fun x => (lk inLow (f (U.toNat (Int.ofNat 1))).1 (f (U.toNat (Int.ofNat 1))).2.1 (f (U.toNat (Int.ofNat 1))).2.2.1 (e (U.toNat (Int.ofNat 1))).1, lk inHigh (f (U.toNat (Int.ofNat
      1))).1 (f (U.toNat (Int.ofNat 1))).2.1 (f (U.toNat (Int.ofNat 1))).2.2.1 (e (U.toNat (Int.ofNat 1))).1, lk inStr (f (U.toNat (Int.ofNat 1))).1 (f (U.toNat (Int.ofNat 1))).2.1 (f
      (U.toNat (Int.ofNat 1))).2.2.1 (e (U.toNat (Int.ofNat 1))).1, PUnit.unit)), .lit (.int .i64 k), .lit (.int .i64 s), .lit (.int .i64 h)], .lit (.int .i64 0)]))) (.ask (((1 : Nat) +
      (1 : Nat) + (1 : Nat)) * nat_lit 24 ≤ nat_lit 140737488351232) (.stuck (nat_lit 105)))))))) (.br (U.ne (lk inE (f (U.toNat (Int.ofNat 1))).1 (f (U.toNat (Int.ofNat 1))).2.1 (f
      (U.toNat (Int.ofNat 1))).2.2.1 (e (U.toNat (Int.ofNat 1))).1) (0 : Int)) (.ret (.tup [.agg [.lit (.slice none (nat_lit 0) (nat_lit 0)), .lit (.int .i64 0), .lit (.int .i64 0), .lit
      (.int .i64 0)], .lit (.int .i64 (lk inE (f (U.toNat (Int.ofNat 1))).1 (f (U.toNat (Int.ofNat 1))).2.1 (f (U.toNat (Int.ofNat 1))).2.2.1 (e (U.toNat (Int.ofNat 1))).1))])) (.ret
      (.tup [.agg [.row [.int .i64, .int .i64, .int .i64] (nat_lit 2) (U.cat (nat_lit 1) (fun x => (lk inLow (f (U.toNat (Int.ofNat 0))).1 (f (U.toNat (Int.ofNat 0))).2.1 (f (U.toNat
      (Int.ofNat 0))).2.2.1 (e (U.toNat (Int.ofNat 0))).1, lk inHigh (f (U.toNat (Int.ofNat 0))).1 (f (U.toNat (Int.ofNat 0))).2.1 (f (U.toNat (Int.ofNat 0))).2.2.1 (e (U.toNat (Int.ofNat
      0))).1, lk inStr (f (U.toNat (Int.ofNat 0))).1 (f (U.toNat (Int.ofNat 0))).2.1 (f (U.toNat (Int.ofNat 0))).2.2.1 (e (U.toNat (Int.ofNat 0))).1, PUnit.unit)) fun x => (lk inLow (f
      (U.toNat (Int.ofNat 1))).1 (f (U.toNat (Int.ofNat 1))).2.1 (f (U.toNat (Int.ofNat 1))).2.2.1 (e (U.toNat (Int.ofNat 1))).1, lk inHigh (f (U.toNat (Int.ofNat 1))).1 (f (U.toNat
      (Int.ofNat 1))).2.1 (f (U.toNat (Int.ofNat 1))).2.2.1 (e (U.toNat (Int.ofNat 1))).1, lk inStr (f (U.toNat (Int.ofNat 1))).1 (f (U.toNat (Int.ofNat 1))).2.1 (f (U.toNat (Int.ofNat
      1))).2.2.1 (e (U.toNat (Int.ofNat 1))).1, PUnit.unit)), .lit (.int .i64 k), .lit (.int .i64 s), .lit (.int .i64 h)], .lit (.int .i64 0)])))))))))) (.br (U.ne (lk inE (f (U.toNat
      (Int.ofNat 0))).1 (f (U.toNat (Int.ofNat 0))).2.1 (f (U.toNat (Int.ofNat 0))).2.2.1 (e (U.toNat (Int.ofNat 0))).1) (0 : Int)) (.ret (.tup [.agg [.lit (.slice none (nat_lit 0)
      (nat_lit 0)), .lit (.int .i64 0), .lit (.int .i64 0), .lit (.int .i64 0)], .lit (.int .i64 (lk inE (f (U.toNat (Int.ofNat 0))).1 (f (U.toNat (Int.ofNat 0))).2.1 (f (U.toNat
      (Int.ofNat 0))).2.2.1 (e (U.toNat (Int.ofNat 0))).1))])) (.ret (.tup [.agg [.row [.int .i64, .int .i64, .int .i64] (nat_lit 1) fun x => (lk inLow (f (U.toNat (Int.ofNat 0))).1 (f
      (U.toNat (Int.ofNat 0))).2.1 (f (U.toNat (Int.ofNat 0))).2.2.1 (e (U.toNat (Int.ofNat 0))).1, lk inHigh (f (U.toNat (Int.ofNat 0))).1 (f (U.toNat (Int.ofNat 0))).2.1 (f (U.toNat
      (Int.ofNat 0))).2.2.1 (e (U.toNat (Int.ofNat 0))).1, lk inStr (f (U.toNat (Int.ofNat 0))).1 (f (U.toNat (Int.ofNat 0))).2.1 (f (U.toNat (Int.ofNat 0))).2.2.1 (e (U.toNat (Int.ofNat
      0))).1, PUnit.unit), .lit (.int .i64 k), .lit (.int .i64 s), .lit (.int .i64 h)], .lit (.int .i64 0)])))))))))) (.ret (.tup [.agg [.lit (.slice none (nat_lit 0) (nat_lit 0)), .lit
      (.int .i64 k), .lit (.int .i64 s), .lit (.int .i64 h)], .lit (.int .i64 0)]))))) := by kernel_rfl
theorem DInterior_ok (h12 : ∀ p ∈ d12, ConOK P p.1 p.2) (hl : ∀ p ∈ lCh, LoopsOK P p.2 (bodyOf P p.1)) : ConOK P 94 (c_chg 2) := con_cl (allOKL mixed h12 hl) 10 94 fun args r h => by
  unfold c_chg at h
  split at h
  · rename_i n f k s h' m e
    obtain ⟨hp, hq⟩ := (T.is_ask h).1
    have h := (T.is_ask h).2
    obtain rfl := T.is_ret h
    rw [t_DInterior]
    simp only [tn, lk_eq]
    simp only [Int.ofNat_eq_natCast]
    by_cases c : chD n f k s h' = 0
    · by_cases q : m = n
      · subst q
        have hn := (chD_zero.1 c).1.1
        have hI : ∀ i, i < m → I64 (f i).1 ∧ I64 (f i).2.1 ∧ I64 (f i).2.2.1 ∧ I64 (e i).1 := fun i hi => ⟨(hp i hi).1, (hp i hi).2.1, (hp i hi).2.2, hq i hi⟩
        have hI0 := hI 0 (by omega)
        rcases hn with rfl | rfl
        · by_cases Z0 : @Eq Int (e 0).1 0
          · simp [T.All, U.ne_eq, U.eq_eq, U.lt_eq, hp, hI0, hI0, c, Z0, eqT Z0, neF Z0]
            refine chg_ok (chgE_4 (w := 2) c (opEz2 (f 0) Z0)) rfl fun i hi => ?_
            obtain rfl := one_of hi
            exact (opFz2 (f 0) Z0).symm
          · by_cases E0 : inE (f 0).1 (f 0).2.1 (f 0).2.2.1 (e 0).1 = 0
            · simp [T.All, U.ne_eq, U.eq_eq, U.lt_eq, hp, hI0, hI0, c, Z0, E0, eqF Z0, neT Z0]
              refine chg_ok (chgE_4 (w := 2) c ((opEn2 (f 0) Z0).trans E0)) rfl fun i hi => ?_
              obtain rfl := one_of hi
              exact (opFn2 (f 0) Z0).symm
            · simp [T.All, U.ne_eq, U.eq_eq, U.lt_eq, hp, hI0, hI0, c, Z0, E0, eqF Z0, neT Z0]
              exact chg_err (chgE_3 (w := 2) c (opEn2 (f 0) Z0) E0) E0
        · have hI1 := hI 1 (by omega)
          by_cases Z0 : @Eq Int (e 0).1 0
          · by_cases Z1 : @Eq Int (e 1).1 0
            · simp [T.All, U.ne_eq, U.eq_eq, U.lt_eq, hp, hI0, hI1, c, Z0, eqT Z0, neF Z0, Z1, eqT Z1, neF Z1]
              refine chg_ok (chgE_5 (w := 2) c (opEz2 (f 0) Z0) (opEz2 (f 1) Z1)) rfl fun i hi => ?_
              rcases two_of hi with rfl | rfl
              · exact (cat_l (by omega)).trans (opFz2 (f 0) Z0).symm
              · exact (cat_r (by omega)).trans (opFz2 (f 1) Z1).symm
            · by_cases E1 : inE (f 1).1 (f 1).2.1 (f 1).2.2.1 (e 1).1 = 0
              · simp [T.All, U.ne_eq, U.eq_eq, U.lt_eq, hp, hI0, hI1, c, Z0, eqT Z0, neF Z0, Z1, E1, eqF Z1, neT Z1]
                refine chg_ok (chgE_5 (w := 2) c (opEz2 (f 0) Z0) ((opEn2 (f 1) Z1).trans E1)) rfl fun i hi => ?_
                rcases two_of hi with rfl | rfl
                · exact (cat_l (by omega)).trans (opFz2 (f 0) Z0).symm
                · exact (cat_r (by omega)).trans (opFn2 (f 1) Z1).symm
              · simp [T.All, U.ne_eq, U.eq_eq, U.lt_eq, hp, hI0, hI1, c, Z0, eqT Z0, neF Z0, Z1, E1, eqF Z1, neT Z1]
                exact chg_err (chgE_5 (w := 2) c (opEz2 (f 0) Z0) (opEn2 (f 1) Z1)) E1
          · by_cases E0 : inE (f 0).1 (f 0).2.1 (f 0).2.2.1 (e 0).1 = 0
            · by_cases Z1 : @Eq Int (e 1).1 0
              · simp [T.All, U.ne_eq, U.eq_eq, U.lt_eq, hp, hI0, hI1, c, Z0, E0, eqF Z0, neT Z0, Z1, eqT Z1, neF Z1]
                refine chg_ok (chgE_5 (w := 2) c ((opEn2 (f 0) Z0).trans E0) (opEz2 (f 1) Z1)) rfl fun i hi => ?_
                rcases two_of hi with rfl | rfl
                · exact (cat_l (by omega)).trans (opFn2 (f 0) Z0).symm
                · exact (cat_r (by omega)).trans (opFz2 (f 1) Z1).symm
              · by_cases E1 : inE (f 1).1 (f 1).2.1 (f 1).2.2.1 (e 1).1 = 0
                · simp [T.All, U.ne_eq, U.eq_eq, U.lt_eq, hp, hI0, hI1, c, Z0, E0, eqF Z0, neT Z0, Z1, E1, eqF Z1, neT Z1]
                  refine chg_ok (chgE_5 (w := 2) c ((opEn2 (f 0) Z0).trans E0) ((opEn2 (f 1) Z1).trans E1)) rfl fun i hi => ?_
                  rcases two_of hi with rfl | rfl
                  · exact (cat_l (by omega)).trans (opFn2 (f 0) Z0).symm
                  · exact (cat_r (by omega)).trans (opFn2 (f 1) Z1).symm
                · simp [T.All, U.ne_eq, U.eq_eq, U.lt_eq, hp, hI0, hI1, c, Z0, E0, eqF Z0, neT Z0, Z1, E1, eqF Z1, neT Z1]
                  exact chg_err (chgE_5 (w := 2) c ((opEn2 (f 0) Z0).trans E0) (opEn2 (f 1) Z1)) E1
            · simp [T.All, U.ne_eq, U.eq_eq, U.lt_eq, hp, hI0, hI1, c, Z0, E0, eqF Z0, neT Z0]
              exact chg_err (chgE_3 (w := 2) c (opEn2 (f 0) Z0) E0) E0
      · have q' : ¬ ((m : Int) = (n : Int)) := by omega
        simp [T.All, U.ne_eq, hp, c, q']
        exact chg_err (chgE_2 (w := 2) c q) (by omega)
    · simp [T.All, U.ne_eq, hp, c]
      exact chg_err (chgE_1 (w := 2) c) c
  · exact h.elim
set_option maxRecDepth 100000 in
theorem t_qDInterior (n : Nat) (f : Nat → R3) (k s h : Int) (m : Nat) (e : Nat → R1) : conB Go.Proofs.Try.prog (conOf d12) (loopsOf lqCh) 10 95 [.agg [.row [.int .i64, .int .i64, .int .i64] n f, .lit (.int .i64 k), .lit (.int .i64 s), .lit (.int .i64 h)], .row [.int .i64] m e] =
    T.ask (Row64 n f) (.br (U.ne (lk chD n f k s h) (0 : Int)) (.ret (.tup [.agg [.lit (.slice none (nat_lit 0) (nat_lit 0)), .lit (.int .i64 0), .lit (.int .i64 0), .lit (.int .i64
      0)], .lit (.int .i64 (lk chD n f k s h))])) (.br (U.ne (Int.ofNat m) (Int.ofNat n)) (.ret (.tup [.agg [.lit (.slice none (nat_lit 0) (nat_lit 0)), .lit (.int .i64 0), .lit (.int
      .i64 0), .lit (.int .i64 0)], .lit (.int .i64 5)])) (.br (U.lt (0 : Int) (Int.ofNat m)) (.ask ((0 : Int) ≤ (0 : Int) ∧ (0 : Int) < ↑n) (.ask ((0 : Int) ≤ (0 : Int) ∧ (0 : Int) < ↑m)
      (.br (U.ne (e (U.toNat (Int.ofNat 0))).1 (0 : Int)) (.ask ((0 : Int) ≤ (0 : Int) ∧ (0 : Int) < ↑m) (.ask (I64 (f (U.toNat (Int.ofNat 0))).1 ∧ I64 (f (U.toNat (Int.ofNat 0))).2.1 ∧
      I64 (f (U.toNat (Int.ofNat 0))).2.2.1 ∧ I64 (e (U.toNat (Int.ofNat 0))).1) (.br (U.ne (lk inE (f (U.toNat (Int.ofNat 0))).1 (f (U.toNat (Int.ofNat 0))).2.1 (f (U.toNat (Int.ofNat
      0))).2.2.1 (e (U.toNat (Int.ofNat 0))).1) (0 : Int)) (.ret (.tup [.agg [.lit (.slice none (nat_lit 0) (nat_lit 0)), .lit (.int .i64 0), .lit (.int .i64 0), .lit (.int .i64 0)], .lit
      (.int .i64 (lk inE (f (U.toNat (Int.ofNat 0))).1 (f (U.toNat (Int.ofNat 0))).2.1 (f (U.toNat (Int.ofNat 0))).2.2.1 (e (U.toNat (Int.ofNat 0))).1))])) (.ask ((1 : Nat) * nat_lit 24 ≤
      nat_lit 140737488351232) (.br (U.lt (1 : Int) (Int.ofNat m)) (.ask ((0 : Int) ≤ (1 : Int) ∧ (1 : Int) < ↑n) (.ask ((0 : Int) ≤ (1 : Int) ∧ (1 : Int) < ↑m) (.br (U.ne (e (U.toNat
      (Int.ofNat 1))).1 (0 : Int)) (.ask ((0 : Int) ≤ (1 : Int) ∧ (1 : Int) < ↑m) (.ask (I64 (f (U.toNat (Int.ofNat 1))).1 ∧ I64 (f (U.toNat (Int.ofNat 1))).2.1 ∧ I64 (f (U.toNat
      (Int.ofNat 1))).2.2.1 ∧ I64 (e (U.toNat (Int.ofNat 1))).1) (.br (U.ne (lk inE (f (U.toNat (Int.ofNat 1))).1 (f (U.toNat (Int.ofNat 1))).2.1 (f (U.toNat (Int.ofNat 1))).2.2.1 (e
      (U.toNat (Int.ofNat 1))).1) (0 : Int)) (.ret (.tup [.agg [.lit (.slice none (nat_lit 0) (nat_lit 0)), .lit (.int .i64 0), .lit (.int .i64 0), .lit (.int .i64 0)], .lit (.int .i64
      (lk inE (f (U.toNat (Int.ofNat 1))).1 (f (U.toNat (Int.ofNat 1))).2.1 (f (U.toNat (Int.ofNat 1))).2.2.1 (e (U.toNat (Int.ofNat 1))).1))])) (.ask (((1 : Nat) + (1 : Nat)) * nat_lit
      24 ≤ nat_lit 140737488351232) (.br (U.lt (2 : Int) (Int.ofNat m)) (.ask ((0 : Int) ≤ (2 : Int) ∧ (2 : Int) < ↑n) (.ask ((0 : Int) ≤ (2 : Int) ∧ (2 : Int) < ↑m) (.br (U.ne (e
      (U.toNat (Int.ofNat 2))).1 (0 : Int)) (.ask ((0 : Int) ≤ (2 : Int) ∧ (2 : Int) < ↑m) (.ask (I64 (f (U.toNat (Int.ofNat 2))).1 ∧ I64 (f (U.toNat (Int.ofNat 2))).2.1 ∧ I64 (f (U.toNat
      (Int.ofNat 2))).2.2.1 ∧ I64 (e (U.toNat (Int.ofNat 2))).1) (.br (U.ne (lk inE (f (U.toNat (Int.ofNat 2))).1 (f (U.toNat (Int.ofNat 2))).2.1 (f (U.toNat (Int.ofNat 2))).2.2.1 (e
      (U.toNat (Int.ofNat 2))).1) (0 : Int)) (.ret (.tup [.agg [.lit (.slice none (nat_lit 0) (nat_lit 0)), .lit (.int .i64 0), .lit (.int .i64 0), .lit (.int .i64 0)], .lit (.int .i64
      (lk inE (f (U.toNat (Int.ofNat 2))).1 (f (U.toNat (Int.ofNat 2))).2.1 (f (U.toNat (Int.ofNat 2))).2.2.1 (e (U.toNat (Int.ofNat 2))).1))])) (.ask (((1 : Nat) + (1 : Nat) + (1 : Nat))
      * nat_lit 24 ≤ nat_lit 140737488351232) (.stuck (nat_lit 105)))))) (.ask (((1 : Nat) + (1 : Nat) + (1 : Nat)) * nat_lit 24 ≤ nat_lit 140737488351232) (.stuck (nat_lit 105))))))
      (.ret (.tup [.agg [.row [.int .i64, .int .i64, .int .i64] (nat_lit 2) (U.cat (nat_lit 1) (fun x => (lk inLow (f (U.toNat (Int.ofNat 0))).1 (f (U.toNat (Int.ofNat 0))).2.1 (f
      (U.toNat (Int.ofNat 0))).2.2.1 (e (U.toNat (Int.ofNat 0))).1, lk inHigh (f (U.toNat (Int.ofNat 0))).1 (f (U.toNat (Int.ofNat 0))).2.1 (f (U.toNat (Int.ofNat 0))).2.2.1 (e (U.toNat
      (Int.ofNat 0))).1, lk inStr (f (U.toNat (Int.ofNat 0))).1 (f (U.toNat (Int.ofNat 0))).2.1 (f (U.toNat (Int.ofNat 0))).2.2.1 (e (U.toNat (Int.ofNat 0))).1, PUnit.unit)) fun x => (lk
      inLow (f (U.toNat (Int.ofNat 1))).1 (f (U.toNat (Int.ofNat 1))).2.1 (f (U.toNat (Int.ofNat 1))).2.2.1 (e (U.toNat (Int.ofNat 1))).1, lk inHigh (f (U.toNat (Int.ofNat 1))).1 (f
      (U.toNat (Int.ofNat 1))).2.1 (f (U.toNat (Int.ofNat 1))).2.2.1 (e (U.toNat (Int.ofNat 1))).1, lk inStr (f (U.toNat (Int.ofNat 1))).1 (f (U.toNat (Int.ofNat 1))).2.1 (f (U.toNat
      (Int.ofNat 1))).2.2.1 (e (U.toNat (Int.ofNat 1))).1, PUnit.unit)), .lit (.int .i64 k), .lit (.int .i64 s), .lit (.int .i64 h)], .lit (.int .i64 0)]))))))) (.ask (((1 : Nat) + (1 :
      Nat)) * nat_lit 24 ≤ nat_lit 140737488351232) (.br (U.lt (2 : Int) (Int.ofNat m)) (.ask ((0 : Int) ≤ (2 : Int) ∧ (2 : Int) < ↑n) (.ask ((0 : Int) ≤ (2 : Int) ∧ (2 : Int) < ↑m) (.br
      (U.ne (e (U.toNat (Int.ofNat 2))).1 (0 : Int)) (.ask ((0 : Int) ≤ (2 : Int) ∧ (2 : Int) < ↑m) (.ask (I64 (f (U.toNat (Int.ofNat 2))).1 ∧ I64 (f (U.toNat (Int.ofNat 2))).2.1 ∧ I64 (f
      (U.toNat (Int.ofNat 2))).2.2.1 ∧ I64 (e (U.toNat (Int.ofNat 2))).1) (.br (U.ne (lk inE (f (U.toNat (Int.ofNat 2))).1 (f (U.toNat (Int.ofNat 2))).2.1 (f (U.toNat (Int.ofNat
      2))).2.2.1 (e (U.toNat (Int.ofNat 2))).1) (0 : Int)) (.ret (.tup [.agg [.lit (.slice none (nat_lit 0) (nat_lit 0)), .lit (.int .i64 0), .lit (.int .i64 0), .lit (.int .i64 0)], .lit
      (.int .i64 (lk inE (f (U.toNat (Int.ofNat 2))).1 (f (U.toNat (Int.ofNat 2))).2.1 (f (U.toNat (Int.ofNat 2))).2.2.1 (e (U.toNat (Int.ofNat 2))).1))])) (.ask (((1 : Nat) + (1 : Nat) +
      (1 : Nat)) * nat_lit 24 ≤ nat_lit 140737488351232) (.stuck (nat_lit 105)))))) (.ask (((1 : Nat) + (1 : Nat) + (1 : Nat)) * nat_lit 24 ≤ nat_lit 140737488351232) (.stuck (nat_lit
      105)))))) (.ret (.tup [.agg [.row [.int .i64, .int .i64, .int .i64] (nat_lit 2) (U.cat (nat_lit 1) (fun x => (lk inLow (f (U.toNat (Int.ofNat 0))).1 (f (U.toNat (Int.ofNat 0))).2.1
      (f (U.toNat (Int.ofNat 0))).2.2.1 (e (U.toNat (Int.ofNat 0))).1, lk inHigh (f (U.toNat (Int.ofNat 0))).1 (f (U.toNat (Int.ofNat 0))).2.1 (f (U.toNat (Int.ofNat 0))).2.2.1 (e
      (U.toNat (Int.ofNat 0))).1, lk inStr (f (U.toNat (Int.ofNat 0))).1 (f (U.toNat (Int.ofNat 0))).2.1 (f (U.toNat (Int.ofNat 0))).2.2.1 (e (U.toNat (Int.ofNat 0))).1, PUnit.unit)) fun
      x => ((f (U.toNat (Int.ofNat 1))).1, (f (U.toNat (Int.ofNat 1))).2.1, (f (U.toNat (Int.ofNat 1))).2.2.1, PUnit.unit)), .lit (.int .i64 k), .lit (.int .i64 s), .lit (.int .i64 h)],
      .lit (.int .i64 0)]))))))) (.ret (.tup [.agg [.row [.int .i64, .int .i64, .int .i64] (nat_lit 1) fun x => (lk inLow (f (U.toNat (Int.ofNat 0))).1 (f (U.toNat (Int.ofNat 0))).2.1 (f
      (U.toNat (Int.ofNat 0))).2.2.1 (e (U.toNat (Int.ofNat 0))).1, lk inHigh (f (U.toNat (Int.ofNat 0))).1 (f (U.toNat (Int.ofNat 0))).2.1 (f (U.toNat (Int.ofNat 0))).2.2.1 (e (U.toNat
      (Int.ofNat 0))).1, lk inStr (f (U.toNat (Int.ofNat 0))).1 (f (U.toNat (Int.ofNat 0))).2.1 (f (U.toNat (Int.ofNat 0))).2.2.1 (e (U.toNat (Int.ofNat 0))).1, PUnit.unit), .lit (.int
      .i64 k), .lit (.int .i64 s), .lit (.int .i64 h)], .lit (.int .i64 0)]))))))) (.ask ((1 : Nat) * nat_lit 24 ≤ nat_lit 140737488351232) (.br (U.lt (1 : Int) (Int.ofNat m)) (.ask ((0 :
      Int) ≤ (1 : Int) ∧ (1 : Int) < ↑n) (.ask ((0 : Int) ≤ (1 : Int) ∧ (1 : Int) < ↑m) (.br (U.ne (e (U.toNat (Int.ofNat 1))).1 (0 : Int)) (.ask ((0 : Int) ≤ (1 : Int) ∧ (1 : Int) < ↑m)
      (.ask (I64 (f (U.toNat (Int.ofNat 1))).1 ∧ I64 (f (U.toNat (Int.ofNat 1))).2.1 ∧ I64 (f (U.toNat (Int.ofNat 1))).2.2.1 ∧ I64 (e (U.toNat (Int.ofNat 1))).1) (.br (U.ne (lk inE (f
      (U.toNat (Int.ofNat 1))).1 (f (U.toNat (Int.ofNat 1))).2.1 (f (U.toNat (Int.ofNat 1))).2.2.1 (e (U.toNat (Int.ofNat 1))).1) (0 : Int)) (.ret (.tup [.agg [.lit (.slice none (nat_lit
      0) (nat_lit 0)), .lit (.int .i64 0), .lit (.int .i64 0), .lit (.int .i64 0)], .lit (.int .i64 (lk inE (f (U.toNat (Int.ofNat 1))).1 (f (U.toNat (Int.ofNat 1))).2.1 (f (U.toNat
      (Int.ofNat 1))).2.2.1 (e (U.toNat (Int.ofNat 1))).1))])) (.ask (((1 : Nat) + (1 : Nat)) * nat_lit 24 ≤ nat_lit 140737488351232) (.br (U.lt (2 : Int) (Int.ofNat m)) (.ask ((0 : Int)
      ≤ (2 : Int) ∧ (2 : Int) < ↑n) (.ask ((0 : Int) ≤ (2 : Int) ∧ (2 : Int) < ↑m) (.br (U.ne (e (U.toNat (Int.ofNat 2))).1 (0 : Int)) (.ask ((0 : Int) ≤ (2 : Int) ∧ (2 : Int) < ↑m) (.ask
      (I64 (f (U.toNat (Int.ofNat 2))).1 ∧ I64 (f (U.toNat (Int.ofNat 2))).2.1 ∧ I64 (f (U.toNat (Int.ofNat 2))).2.2.1 ∧ I64 (e (U.toNat (Int.ofNat 2))).1) (.br (U.ne (lk inE (f (U.toNat
      (Int.ofNat 2))).1 (f (U.toNat (Int.ofNat 2))).2.1 (f (U.toNat (Int.ofNat 2))).2.2.1 (e (U.toNat (Int.ofNat 2))).1) (0 : Int)) (.ret (.tup [.agg [.lit (.slice none (nat_lit 0)
      (nat_lit 0)), .lit (.int .i64 0), .lit (.int .i64 0), .lit (.int .i64 0)], .lit (.int .i64 (lk inE (f (U.toNat (Int.ofNat 2))).1 (f (U.toNat (Int.ofNat 2))).2.1 (f (U.toNat
      (Int.ofNat 2))).2.2.1 (e (U.toNat (Int.ofNat 2))).1))])) (.ask (((1 : Nat) + (1 : Nat) + (1 : Nat)) * nat_lit 24 ≤ nat_lit 140737488351232) (.stuck (nat_lit 105)))))) (.ask (((1 :
      Nat) + (1 : Nat) + (1 : Nat)) * nat_lit 24 ≤ nat_lit 140737488351232) (.stuck (nat_lit 105)))))) (.ret (.tup [.agg [.row [.int .i64, .int .i64, .int .i64] (nat_lit 2) (U.cat
      (nat_lit 1) (fun x => ((f (U.toNat (Int.ofNat 0))).1, (f (U.toNat (Int.ofNat 0))).2.1, (f (U.toNat (Int.ofNat 0))).2.2.1, PUnit.unit)) fun x => (lk inLow (f (U.toNat (Int.ofNat
      1))).1 (f (U.toNat (Int.ofNat 1))).2.1 (f (U.toNat (Int.ofNat 1))).2.2.1 (e (U.toNat (Int.ofNat 1))).1, lk inHigh (f (U.toNat (Int.ofNat 1))).1 (f (U.toNat (Int.ofNat 1))).2.1 (f
      (U.toNat (Int.ofNat 1))).2.2.1 (e (U.toNat (Int.ofNat 1))).1, lk inStr (f (U.toNat (Int.ofNat 1))).1 (f (U.toNat (Int.ofNat 1))).2.1 (f (U.toNat (Int.ofNat 1))).2.2.1 (e (U.toNat
      (Int.ofNat 1))).1, PUnit.unit)), .lit (.int .i64 k), .lit (.int .i64 s), .lit (.int .i64 h)], .lit (.int .i64 0)]))))))) (.ask (((1 : Nat) + (1 : Nat)) * nat_lit 24 ≤ nat_lit
      140737488351232) (.br (U.lt (2 : Int) (Int.ofNat m)) (.ask ((0 : Int) ≤ (2 : Int) ∧ (2 : Int) < ↑n) (.ask ((0 : Int) ≤ (2 : Int) ∧ (2 : Int) < ↑m) (.br (U.ne (e (U.toNat (Int.ofNat
      2))).1 (0 : Int)) (.ask ((0 : Int) ≤ (2 : Int) ∧ (2 : Int) < ↑m) (.ask (I64 (f (U.toNat (Int.ofNat 2))).1 ∧ I64 (f (U.toNat (Int.ofNat 2))).2.1 ∧ I64 (f (U.toNat (Int.ofNat
      2))).2.2.1 ∧ I64 (e (U.toNat (Int.ofNat 2))).1) (.br (U.ne (lk inE (f (U.toNat (Int.ofNat 2))).1 (f (U.toNat (Int.ofNat 2))).2.1 (f (U.toNat (Int.ofNat 2))).2.2.1 (e (U.toNat
      (Int.ofNat 2))).1) (0 : Int)) (.ret (.tup [.agg [.lit (.slice none (nat_lit 0) (nat_lit 0)), .lit (.int .i64 0), .lit (.int .i64 0), .lit (.int .i64 0)], .lit (.int .i64 (lk inE (f
      (U.toNat (Int.ofNat 2))).1 (f (U.toNat (Int.ofNat 2))).2.1 (f (U.toNat (Int.ofNat 2))).2.2.1 (e (U.toNat (Int.ofNat 2))).1))])) (.ask (((1 : Nat) + (1 : Nat) + (1 : Nat)) * nat_lit
      24 ≤ nat_lit 140737488351232) (.stuck (nat_lit 105)))))) (.ask (((1 : Nat) + (1 : Nat) + (1 : Nat)) * nat_lit 24 ≤ nat_lit 140737488351232) (.stuck (nat_lit 105)))))) (.ret (.tup
      [.agg [.row [.int .i64, .int .i64, .int .i64] (nat_lit 2) (U.cat (nat_lit 1) (fun x => ((f (U.toNat (Int.ofNat 0))).1, (f (U.toNat (Int.ofNat 0))).2.1, (f (U.toNat (Int.ofNat
      0))).2.2.1, PUnit.unit)) fun x => ((f (U.toNat (Int.ofNat 1))).1, (f (U.toNat (Int.ofNat 1))).2.1, (f (U.toNat (Int.ofNat 1))).2.2.1, PUnit.unit)), .lit (.int .i64 k), .lit (.int
      .i64 s), .lit (.int .i64 h)], .lit (.int .i64 0)]))))))) (.ret (.tup [.agg [.row [.int .i64, .int .i64, .int .i64] (nat_lit 1) fun x => ((f (U.toNat (Int.ofNat 0))).1, (f (U.toNat
      (Int.ofNat 0))).2.1, (f (U.toNat (Int.ofNat 0))).2.2.1, PUnit.unit), .lit (.int .i64 k), .lit (.int .i64 s), .lit (.int .i64 h)], .lit (.int .i64 0)]))))))) (.ret (.tup [.agg [.lit
      (.slice none (nat_lit 0) (nat_lit 0)), .lit (.int .i64 k), .lit (.int .i64 s), .lit (.int .i64 h)], .lit (.int .i64 0)]))))) := by kernel_rfl
theorem qDInterior_ok (h12 : ∀ p ∈ d12, ConOK P p.1 p.2) (hl : ∀ p ∈ lqCh, LoopsOK P p.2 (bodyOf P p.1)) : ConOK P 95 (c_chg 2) := con_cl (allOKL mixed h12 hl) 10 95 fun args r h => by
  unfold c_chg at h
  split at h
  · rename_i n f k s h' m e
    obtain ⟨hp, hq⟩ := (T.is_ask h).1
    have h := (T.is_ask h).2
    obtain rfl := T.is_ret h
    rw [t_qDInterior]
    simp only [tn, lk_eq]
    simp only [Int.ofNat_eq_natCast]
    by_cases c : chD n f k s h' = 0
    · by_cases q : m = n
      · subst q
        have hn := (chD_zero.1 c).1.1
        have hI : ∀ i, i < m → I64 (f i).1 ∧ I64 (f i).2.1 ∧ I64 (f i).2.2.1 ∧ I64 (e i).1 := fun i hi => ⟨(hp i hi).1, (hp i hi).2.1, (hp i hi).2.2, hq i hi⟩
        have hI0 := hI 0 (by omega)
        rcases hn with rfl | rfl
        · by_cases Z0 : @Eq Int (e 0).1 0
          · simp [T.All, U.ne_eq, U.eq_eq, U.lt_eq, hp, hI0, hI0, c, Z0, eqT Z0, neF Z0]
            refine chg_ok (chgE_4 (w := 2) c (opEz2 (f 0) Z0)) rfl fun i hi => ?_
            obtain rfl := one_of hi
            exact (opFz2 (f 0) Z0).symm
          · by_cases E0 : inE (f 0).1 (f 0).2.1 (f 0).2.2.1 (e 0).1 = 0
            · simp [T.All, U.ne_eq, U.eq_eq, U.lt_eq, hp, hI0, hI0, c, Z0, E0, eqF Z0, neT Z0]
              refine chg_ok (chgE_4 (w := 2) c ((opEn2 (f 0) Z0).trans E0)) rfl fun i hi => ?_
              obtain rfl := one_of hi
              exact (opFn2 (f 0) Z0).symm
            · simp [T.All, U.ne_eq, U.eq_eq, U.lt_eq, hp, hI0, hI0, c, Z0, E0, eqF Z0, neT Z0]
              exact chg_err (chgE_3 (w := 2) c (opEn2 (f 0) Z0) E0) E0
        · have hI1 := hI 1 (by omega)
          by_cases Z0 : @Eq Int (e 0).1 0
          · by_cases Z1 : @Eq Int (e 1).1 0
            · simp [T.All, U.ne_eq, U.eq_eq, U.lt_eq, hp, hI0, hI1, c, Z0, eqT Z0, neF Z0, Z1, eqT Z1, neF Z1]
              refine chg_ok (chgE_5 (w := 2) c (opEz2 (f 0) Z0) (opEz2 (f 1) Z1)) rfl fun i hi => ?_
              rcases two_of hi with rfl | rfl
              · exact (cat_l (by omega)).trans (opFz2 (f 0) Z0).symm
              · exact (cat_r (by omega)).trans (opFz2 (f 1) Z1).symm
            · by_cases E1 : inE (f 1).1 (f 1).2.1 (f 1).2.2.1 (e 1).1 = 0
              · simp [T.All, U.ne_eq, U.eq_eq, U.lt_eq, hp, hI0, hI1, c, Z0, eqT Z0, neF Z0, Z1, E1, eqF Z1, neT Z1]
                refine chg_ok (chgE_5 (w := 2) c (opEz2 (f 0) Z0) ((opEn2 (f 1) Z1).trans E1)) rfl fun i hi => ?_
                rcases two_of hi with rfl | rfl
                · exact (cat_l (by omega)).trans (opFz2 (f 0) Z0).symm
                · exact (cat_r (by omega)).trans (opFn2 (f 1) Z1).symm
              · simp [T.All, U.ne_eq, U.eq_eq, U.lt_eq, hp, hI0, hI1, c, Z0, eqT Z0, neF Z0, Z1, E1, eqF Z1, neT Z1]
                exact chg_err (chgE_5 (w := 2) c (opEz2 (f 0) Z0) (opEn2 (f 1) Z1)) E1
          · by_cases E0 : inE (f 0).1 (f 0).2.1 (f 0).2.2.1 (e 0).1 = 0
            · by_cases Z1 : @Eq Int (e 1).1 0
              · simp [T.All, U.ne_eq, U.eq_eq, U.lt_eq, hp, hI0, hI1, c, Z0, E0, eqF Z0, neT Z0, Z1, eqT Z1, neF Z1]
                refine chg_ok (chgE_5 (w := 2) c ((opEn2 (f 0) Z0).trans E0) (opEz2 (f 1) Z1)) rfl fun i hi => ?_
                rcases two_of hi with rfl | rfl
                · exact (cat_l (by omega)).trans (opFn2 (f 0) Z0).symm
                · exact (cat_r (by omega)).trans (opFz2 (f 1) Z1).symm
              · by_cases E1 : inE (f 1).1 (f 1).2.1 (f 1).2.2.1 (e 1).1 = 0
                · simp [T.All, U.ne_eq, U.eq_eq, U.lt_eq, hp, hI0, hI1, c, Z0, E0, eqF Z0, neT Z0, Z1, E1, eqF Z1, neT Z1]
                  refine chg_ok (chgE_5 (w := 2) c ((opEn2 (f 0) Z0).trans E0) ((opEn2 (f 1) Z1).trans E1)) rfl fun i hi => ?_
                  rcases two_of hi with rfl | rfl
                  · exact (cat_l (by omega)).trans (opFn2 (f 0) Z0).symm
                  · exact (cat_r (by omega)).trans (opFn2 (f 1) Z1).symm
                · simp [T.All, U.ne_eq, U.eq_eq, U.lt_eq, hp, hI0, hI1, c, Z0, E0, eqF Z0, neT Z0, Z1, E1, eqF Z1, neT Z1]
                  exact chg_err (chgE_5 (w := 2) c ((opEn2 (f 0) Z0).trans E0) (opEn2 (f 1) Z1)) E1
            · simp [T.All, U.ne_eq, U.eq_eq, U.lt_eq, hp, hI0, hI1, c, Z0, E0, eqF Z0, neT Z0]
              exact chg_err (chgE_3 (w := 2) c (opEn2 (f 0) Z0) E0) E0
      · have q' : ¬ ((m : Int) = (n : Int)) := by omega
        simp [T.All, U.ne_eq, hp, c, q']
        exact chg_err (chgE_2 (w := 2) c q) (by omega)
    · simp [T.All, U.ne_eq, hp, c]
      exact chg_err (chgE_1 (w := 2) c) c
  · exact h.elim
set_option maxRecDepth 100000 in
theorem t_DExterior (n : Nat) (f : Nat → R3) (k s h : Int) (m : Nat) (e : Nat → R1) : conB Go.Proofs.Try.prog (conOf d12) (loopsOf lCh) 10 96 [.agg [.row [.int .i64, .int .i64, .int .i64] n f, .lit (.int .i64 k), .lit (.int .i64 s), .lit (.int .i64 h)], .row [.int .i64] m e] =
    T.ask (Row64 n f) (.br (U.ne (lk chD n f k s h) (0 : Int)) (.ret (.tup [.agg [.lit (.slice none (nat_lit 0) (nat_lit 0)), .lit (.int .i64 0), .lit (.int .i64 0), .lit (.int .i64
      0)], .lit (.int .i64 (lk chD n f k s h))])) (.br (U.ne (Int.ofNat m) (Int.ofNat n)) (.ret (.tup [.agg [.lit (.slice none (nat_lit 0) (nat_lit 0)), .lit (.int .i64 0), .lit (.int
      .i64 0), .lit (.int .i64 0)], .lit (.int .i64 5)])) (.br (U.lt (0 : Int) (Int.ofNat n)) (.ask ((0 : Int) ≤ (0 : Int) ∧ (0 : Int) < ↑n) (.ask ((0 : Int) ≤ (0 : Int) ∧ (0 : Int) < ↑m)
      (.br (U.eq (e (U.toNat (Int.ofNat 0))).1 (0 : Int)) (.ask ((1 : Nat) * nat_lit 24 ≤ nat_lit 140737488351232) (.br (U.lt (1 : Int) (Int.ofNat n)) (.ask ((0 : Int) ≤ (1 : Int) ∧ (1 :
      Int) < ↑n) (.ask ((0 : Int) ≤ (1 : Int) ∧ (1 : Int) < ↑m) (.br (U.eq (e (U.toNat (Int.ofNat 1))).1 (0 : Int)) (.ask (((1 : Nat) + (1 : Nat)) * nat_lit 24 ≤ nat_lit 140737488351232)
      (.br (U.lt (2 : Int) (Int.ofNat n)) (.ask ((0 : Int) ≤ (2 : Int) ∧ (2 : Int) < ↑n) (.ask ((0 : Int) ≤ (2 : Int) ∧ (2 : Int) < ↑m) (.br (U.eq (e (U.toNat (Int.ofNat 2))).1 (0 : Int))
      (.ask (((1 : Nat) + (1 : Nat) + (1 : Nat)) * nat_lit 24 ≤ nat_lit 140737488351232) (.stuck (nat_lit 105))) (.ask (I64 (f (U.toNat (Int.ofNat 2))).1 ∧ I64 (f (U.toNat (Int.ofNat
      2))).2.1 ∧ I64 (f (U.toNat (Int.ofNat 2))).2.2.1 ∧ I64 (e (U.toNat (Int.ofNat 2))).1) (.br (U.ne (lk xtE (f (U.toNat (Int.ofNat 2))).1 (f (U.toNat (Int.ofNat 2))).2.1 (f (U.toNat
      (Int.ofNat 2))).2.2.1 (e (U.toNat (Int.ofNat 2))).1) (0 : Int)) (.br (U.ne (lk xtE (f (U.toNat (Int.ofNat 2))).1 (f (U.toNat (Int.ofNat 2))).2.1 (f (U.toNat (Int.ofNat 2))).2.2.1 (e
      (U.toNat (Int.ofNat 2))).1) (0 : Int)) (.ret (.tup [.agg [.lit (.slice none (nat_lit 0) (nat_lit 0)), .lit (.int .i64 0), .lit (.int .i64 0), .lit (.int .i64 0)], .lit (.int .i64
      (lk xtE (f (U.toNat (Int.ofNat 2))).1 (f (U.toNat (Int.ofNat 2))).2.1 (f (U.toNat (Int.ofNat 2))).2.2.1 (e (U.toNat (Int.ofNat 2))).1))])) (.ret (.tup [.agg [.row [.int .i64, .int
      .i64, .int .i64] (nat_lit 2) (U.cat (nat_lit 1) (fun x => ((f (U.toNat (Int.ofNat 0))).1, (f (U.toNat (Int.ofNat 0))).2.1, (f (U.toNat (Int.ofNat 0))).2.2.1, PUnit.unit)) fun x =>
      ((f (U.toNat (Int.ofNat 1))).1, (f (U.toNat (Int.ofNat 1))).2.1, (f (U.toNat (Int.ofNat 1))).2.2.1, PUnit.unit)), .lit (.int .i64 k), .lit (.int .i64 s), .lit (.int .i64 h)], .lit
      (.int .i64 0)]))) (.ask (((1 : Nat) + (1 : Nat) + (1 : Nat)) * nat_lit 24 ≤ nat_lit 140737488351232) (.stuck (nat_lit 105)))))))) (.ret (.tup [.agg [.row [.int .i64, .int .i64, .int
      .i64] (nat_lit 2) (U.cat (nat_lit 1) (fun x => ((f (U.toNat (Int.ofNat 0))).1, (f (U.toNat (Int.ofNat 0))).2.1, (f (U.toNat (Int.ofNat 0))).2.2.1, PUnit.unit)) fun x => ((f (U.toNat
      (Int.ofNat 1))).1, (f (U.toNat (Int.ofNat 1))).2.1, (f (U.toNat (Int.ofNat 1))).2.2.1, PUnit.unit)), .lit (.int .i64 k), .lit (.int .i64 s), .lit (.int .i64 h)], .lit (.int .i64
      0)])))) (.ask (I64 (f (U.toNat (Int.ofNat 1))).1 ∧ I64 (f (U.toNat (Int.ofNat 1))).2.1 ∧ I64 (f (U.toNat (Int.ofNat 1))).2.2.1 ∧ I64 (e (U.toNat (Int.ofNat 1))).1) (.br (U.ne (lk
      xtE (f (U.toNat (Int.ofNat 1))).1 (f (U.toNat (Int.ofNat 1))).2.1 (f (U.toNat (Int.ofNat 1))).2.2.1 (e (U.toNat (Int.ofNat 1))).1) (0 : Int)) (.br (U.ne (lk xtE (f (U.toNat
      (Int.ofNat 1))).1 (f (U.toNat (Int.ofNat 1))).2.1 (f (U.toNat (Int.ofNat 1))).2.2.1 (e (U.toNat (Int.ofNat 1))).1) (0 : Int)) (.ret (.tup [.agg [.lit (.slice none (nat_lit 0)
      (nat_lit 0)), .lit (.int .i64 0), .lit (.int .i64 0), .lit (.int .i64 0)], .lit (.int .i64 (lk xtE (f (U.toNat (Int.ofNat 1))).1 (f (U.toNat (Int.ofNat 1))).2.1 (f (U.toNat
      (Int.ofNat 1))).2.2.1 (e (U.toNat (Int.ofNat 1))).1))])) (.ret (.tup [.agg [.row [.int .i64, .int .i64, .int .i64] (nat_lit 1) fun x => ((f (U.toNat (Int.ofNat 0))).1, (f (U.toNat
      (Int.ofNat 0))).2.1, (f (U.toNat (Int.ofNat 0))).2.2.1, PUnit.unit), .lit (.int .i64 k), .lit (.int .i64 s), .lit (.int .i64 h)], .lit (.int .i64 0)]))) (.ask (((1 : Nat) + (1 :
      Nat)) * nat_lit 24 ≤ nat_lit 140737488351232) (.br (U.lt (2 : Int) (Int.ofNat n)) (.ask ((0 : Int) ≤ (2 : Int) ∧ (2 : Int) < ↑n) (.ask ((0 : Int) ≤ (2 : Int) ∧ (2 : Int) < ↑m) (.br
      (U.eq (e (U.toNat (Int.ofNat 2))).1 (0 : Int)) (.ask (((1 : Nat) + (1 : Nat) + (1 : Nat)) * nat_lit 24 ≤ nat_lit 140737488351232) (.stuck (nat_lit 105))) (.ask (I64 (f (U.toNat
      (Int.ofNat 2))).1 ∧ I64 (f (U.toNat (Int.ofNat 2))).2.1 ∧ I64 (f (U.toNat (Int.ofNat 2))).2.2.1 ∧ I64 (e (U.toNat (Int.ofNat 2))).1) (.br (U.ne (lk xtE (f (U.toNat (Int.ofNat 2))).1
      (f (U.toNat (Int.ofNat 2))).2.1 (f (U.toNat (Int.ofNat 2))).2.2.1 (e (U.toNat (Int.ofNat 2))).1) (0 : Int)) (.br (U.ne (lk xtE (f (U.toNat (Int.ofNat 2))).1 (f (U.toNat (Int.ofNat
      2))).2.1 (f (U.toNat (Int.ofNat 2))).2.2.1 (e (U.toNat (Int.ofNat 2))).1) (0 : Int)) (.ret (.tup [.agg [.lit (.slice none (nat_lit 0) (nat_lit 0)), .lit (.int .i64 0), .lit (.int
      .i64 0), .lit (.int .i64 0)], .lit (.int .i64 (lk xtE (f (U.toNat (Int.ofNat 2))).1 (f (U.toNat (Int.ofNat 2))).2.1 (f (U.toNat (Int.ofNat 2))).2.2.1 (e (U.toNat (Int.ofNat
      2))).1))])) (.ret (.tup [.agg [.row [.int .i64, .int .i64, .int .i64] (nat_lit 2) (U.cat (nat_lit 1) (fun x => ((f (U.toNat (Int.ofNat 0))).1, (f (U.toNat (Int.ofNat 0))).2.1, (f
      (U.toNat (Int.ofNat 0))).2.2.1, PUnit.unit)) fun x => (lk xtLow (f (U.toNat (Int.ofNat 1))).1 (f (U.toNat (Int.ofNat 1))).2.1 (f (U.toNat (Int.ofNat 1))).2.2.1 (e (U.toNat
      (Int.ofNat 1))).1, lk xtHigh (f (U.toNat (Int.ofNat 1))).1 (f (U.toNat (Int.ofNat 1))).2.1 (f (U.toNat (Int.ofNat 1))).2.2.1 (e (U.toNat (Int.ofNat 1))).1, lk xtStr (f (U.toNat
      (Int.ofNat 1))).1 (f (U.toNat (Int.ofNat 1))).2.1 (f (U.toNat (Int.ofNat 1))).2.2.1 (e (U.toNat (Int.ofNat 1))).1, PUnit.unit)), .lit (.int .i64 k), .lit (.int .i64 s), .lit (.int
      .i64 h)], .lit (.int .i64 0)]))) (.ask (((1 : Nat) + (1 : Nat) + (1 : Nat)) * nat_lit 24 ≤ nat_lit 140737488351232) (.stuck (nat_lit 105)))))))) (.br (U.ne (lk xtE (f (U.toNat
      (Int.ofNat 1))).1 (f (U.toNat (Int.ofNat 1))).2.1 (f (U.toNat (Int.ofNat 1))).2.2.1 (e (U.toNat (Int.ofNat 1))).1) (0 : Int)) (.ret (.tup [.agg [.lit (.slice none (nat_lit 0)
      (nat_lit 0)), .lit (.int .i64 0), .lit (.int .i64 0), .lit (.int .i64 0)], .lit (.int .i64 (lk xtE (f (U.toNat (Int.ofNat 1))).1 (f (U.toNat (Int.ofNat 1))).2.1 (f (U.toNat
      (Int.ofNat 1))).2.2.1 (e (U.toNat (Int.ofNat 1))).1))])) (.ret (.tup [.agg [.row [.int .i64, .int .i64, .int .i64] (nat_lit 2) (U.cat (nat_lit 1) (fun x => ((f (U.toNat (Int.ofNat
      0))).1, (f (U.toNat (Int.ofNat 0))).2.1, (f (U.toNat (Int.ofNat 0))).2.2.1, PUnit.unit)) fun x => (lk xtLow (f (U.toNat (Int.ofNat 1))).1 (f (U.toNat (Int.ofNat 1))).2.1 (f (U.toNat
      (Int.ofNat 1))).2.2.1 (e (U.toNat (Int.ofNat 1))).1, lk xtHigh (f (U.toNat (Int.ofNat 1))).1 (f (U.toNat (Int.ofNat 1))).2.1 (f (U.toNat (Int.ofNat 1))).2.2.1 (e (U.toNat (Int.ofNat
      1))).1, lk xtStr (f (U.toNat (Int.ofNat 1))).1 (f (U.toNat (Int.ofNat 1))).2.1 (f (U.toNat (Int.ofNat 1))).2.2.1 (e (U.toNat (Int.ofNat 1))).1, PUnit.unit)), .lit (.int .i64 k),
      .lit (.int .i64 s), .lit (.int .i64 h)], .lit (.int .i64 0)])))))))))) (.ret (.tup [.agg [.row [.int .i64, .int .i64, .int .i64] (nat_lit 1) fun x => ((f (U.toNat (Int.ofNat 0))).1,
      (f (U.toNat (Int.ofNat 0))).2.1, (f (U.toNat (Int.ofNat 0))).2.2.1, PUnit.unit), .lit (.int .i64 k), .lit (.int .i64 s), .lit (.int .i64 h)], .lit (.int .i64 0)])))) (.ask (I64 (f
      (U.toNat (Int.ofNat 0))).1 ∧ I64 (f (U.toNat (Int.ofNat 0))).2.1 ∧ I64 (f (U.toNat (Int.ofNat 0))).2.2.1 ∧ I64 (e (U.toNat (Int.ofNat 0))).1) (.br (U.ne (lk xtE (f (U.toNat
      (Int.ofNat 0))).1 (f (U.toNat (Int.ofNat 0))).2.1 (f (U.toNat (Int.ofNat 0))).2.2.1 (e (U.toNat (Int.ofNat 0))).1) (0 : Int)) (.br (U.ne (lk xtE (f (U.toNat (Int.ofNat 0))).1 (f
      (U.toNat (Int.ofNat 0))).2.1 (f (U.toNat (Int.ofNat 0))).2.2.1 (e (U.toNat (Int.ofNat 0))).1) (0 : Int)) (.ret (.tup [.agg [.lit (.slice none (nat_lit 0) (nat_lit 0)), .lit (.int
      .i64 0), .lit (.int .i64 0), .lit (.int .i64 0)], .lit (.int .i64 (lk xtE (f (U.toNat (Int.ofNat 0))).1 (f (U.toNat (Int.ofNat 0))).2.1 (f (U.toNat (Int.ofNat 0))).2.2.1 (e (U.toNat
      (Int.ofNat 0))).1))])) (.ret (.tup [.agg [.lit (.slice none (nat_lit 0) (nat_lit 0)), .lit (.int .i64 k), .lit (.int .i64 s), .lit (.int .i64 h)], .lit (.int .i64 0)]))) (.ask ((1 :
      Nat) * nat_lit 24 ≤ nat_lit 140737488351232) (.br (U.lt (1 : Int) (Int.ofNat n)) (.ask ((0 : Int) ≤ (1 : Int) ∧ (1 : Int) < ↑n) (.ask ((0 : Int) ≤ (1 : Int) ∧ (1 : Int) < ↑m) (.br
      (U.eq (e (U.toNat (Int.ofNat 1))).1 (0 : Int)) (.ask (((1 : Nat) + (1 : Nat)) * nat_lit 24 ≤ nat_lit 140737488351232) (.br (U.lt (2 : Int) (Int.ofNat n)) (.ask ((0 : Int) ≤ (2 :
      Int) ∧ (2 : Int) < ↑n) (.ask ((0 : Int) ≤ (2 : Int) ∧ (2 : Int) < ↑m) (.br (U.eq (e (U.toNat (Int.ofNat 2))).1 (0 : Int)) (.ask (((1 : Nat) + (1 : Nat) + (1 : Nat)) * nat_lit 24 ≤
      nat_lit 140737488351232) (.stuck (nat_lit 105))) (.ask (I64 (f (U.toNat (Int.ofNat 2))).1 ∧ I64 (f (U.toNat (Int.ofNat 2))).2.1 ∧ I64 (f (U.toNat (Int.ofNat 2))).2.2.1 ∧ I64 (e
      (U.toNat (Int.ofNat 2))).1) (.br (U.ne (lk xtE (f (U.toNat (Int.ofNat 2))).1 (f (U.toNat (Int.ofNat 2))).2.1 (f (U.toNat (Int.ofNat 2))).2.2.1 (e (U.toNat (Int.ofNat 2))).1) (0 :
      Int)) (.br (U.ne (lk xtE (f (U.toNat (Int.ofNat 2))).1 (f (U.toNat (Int.ofNat 2))).2.1 (f (U.toNat (Int.ofNat 2))).2.2.1 (e (U.toNat (Int.ofNat 2))).1) (0 : Int)) (.ret (.tup [.agg
      [.lit (.slice none (nat_lit 0) (nat_lit 0)), .lit (.int .i64 0), .lit (.int .i64 0), .lit (.int .i64 0)], .lit (.int .i64 (lk xtE (f (U.toNat (Int.ofNat 2))).1 (f (U.toNat
      (Int.ofNat 2))).2.1 (f (U.toNat (Int.ofNat 2))).2.2.1 (e (U.toNat (Int.ofNat 2))).1))])) (.ret (.tup [.agg [.row [.int .i64, .int .i64, .int .i64] (nat_lit 2) (U.cat (nat_lit 1)
      (fun x => (lk xtLow (f (U.toNat (Int.ofNat 0))).1 (f (U.toNat (Int.ofNat 0))).2.1 (f (U.toNat (Int.ofNat 0))).2.2.1 (e (U.toNat (Int.ofNat 0))).1, lk xtHigh (f (U.toNat (Int.ofNat
      0))).1 (f (U.toNat (Int.ofNat 0))).2.1 (f (U.toNat (Int.ofNat 0))).2.2.1 (e (U.toNat (Int.ofNat 0))).1, lk xtStr (f (U.toNat (Int.ofNat 0))).1 (f (U.toNat (Int.ofNat 0))).2.1 (f
      (U.toNat (Int.ofNat 0))).2.2.1 (e (U.toNat (Int.ofNat 0))).1, PUnit.unit)) fun x => ((f (U.toNat (Int.ofNat 1))).1, (f (U.toNat (Int.ofNat 1))).2.1, (f (U.toNat (Int.ofNat
      1))).2.2.1, PUnit.unit)), .lit (.int .i64 k), .lit (.int .i64 s), .lit (.int .i64 h)], .lit (.int .i64 0)]))) (.ask (((1 : Nat) + (1 : Nat) + (1 : Nat)) * nat_lit 24 ≤ nat_lit
      140737488351232) (.stuck (nat_lit 105)))))))) (.ret (.tup [.agg [.row [.int .i64, .int .i64, .int .i64] (nat_lit 2) (U.cat (nat_lit 1) (fun x => (lk xtLow (f (U.toNat (Int.ofNat
      0))).1 (f (U.toNat (Int.ofNat 0))).2.1 (f (U.toNat (Int.ofNat 0))).2.2.1 (e (U.toNat (Int.ofNat 0))).1, lk xtHigh (f (U.toNat (Int.ofNat 0))).1 (f (U.toNat (Int.ofNat 0))).2.1 (f
      (U.toNat (Int.ofNat 0))).2.2.1 (e (U.toNat (Int.ofNat 0))).1, lk xtStr (f (U.toNat (Int.ofNat 0))).1 (f (U.toNat (Int.ofNat 0))).2.1 (f (U.toNat (Int.ofNat 0))).2.2.1 (e (U.toNat
      (Int.ofNat 0))).1, PUnit.unit)) fun x => ((f (U.toNat (Int.ofNat 1))).1, (f (U.toNat (Int.ofNat 1))).2.1, (f (U.toNat (Int.ofNat 1))).2.2.1, PUnit.unit)), .lit (.int .i64 k), .lit
      (.int .i64 s), .lit (.int .i64 h)], .lit (.int .i64 0)])))) (.ask (I64 (f (U.toNat (Int.ofNat 1))).1 ∧ I64 (f (U.toNat (Int.ofNat 1))).2.1 ∧ I64 (f (U.toNat (Int.ofNat 1))).2.2.1 ∧
      I64 (e (U.toNat (Int.ofNat 1))).1) (.br (U.ne (lk xtE (f (U.toNat (Int.ofNat 1))).1 (f (U.toNat (Int.ofNat 1))).2.1 (f (U.toNat (Int.ofNat 1))).2.2.1 (e (U.toNat (Int.ofNat 1))).1)
      (0 : Int)) (.br (U.ne (lk xtE (f (U.toNat (Int.ofNat 1))).1 (f (U.toNat (Int.ofNat 1))).2.1 (f (U.toNat (Int.ofNat 1))).2.2.1 (e (U.toNat (Int.ofNat 1))).1) (0 : Int)) (.ret (.tup
      [.agg [.lit (.slice none (nat_lit 0) (nat_lit 0)), .lit (.int .i64 0), .lit (.int .i64 0), .lit (.int .i64 0)], .lit (.int .i64 (lk xtE (f (U.toNat (Int.ofNat 1))).1 (f (U.toNat
      (Int.ofNat 1))).2.1 (f (U.toNat (Int.ofNat 1))).2.2.1 (e (U.toNat (Int.ofNat 1))).1))])) (.ret (.tup [.agg [.row [.int .i64, .int .i64, .int .i64] (nat_lit 1) fun x => (lk xtLow (f
      (U.toNat (Int.ofNat 0))).1 (f (U.toNat (Int.ofNat 0))).2.1 (f (U.toNat (Int.ofNat 0))).2.2.1 (e (U.toNat (Int.ofNat 0))).1, lk xtHigh (f (U.toNat (Int.ofNat 0))).1 (f (U.toNat
      (Int.ofNat 0))).2.1 (f (U.toNat (Int.ofNat 0))).2.2.1 (e (U.toNat (Int.ofNat 0))).1, lk xtStr (f (U.toNat (Int.ofNat 0))).1 (f (U.toNat (Int.ofNat 0))).2.1 (f (U.toNat (Int.ofNat
      0))).2.2.1 (e (U.toNat (Int.ofNat 0))).1, PUnit.unit), .lit (.int .i64 k), .lit (.int .i64 s), .lit (.int .i64 h)], .lit (.int .i64 0)]))) (.ask (((1 : Nat) + (1 : Nat)) * nat_lit
      24 ≤ nat_lit 140737488351232) (.br (U.lt (2 : Int) (Int.ofNat n)) (.ask ((0 : Int) ≤ (2 : Int) ∧ (2 : Int) < ↑n) (.ask ((0 : Int) ≤ (2 : Int) ∧ (2 : Int) < ↑m) (.br (U.eq (e
      (U.toNat (Int.ofNat 2))).1 (0 : Int)) (.ask (((1 : Nat) + (1 : Nat) + (1 : Nat)) * nat_lit 24 ≤ nat_lit 140737488351232) (.stuck (nat_lit 105))) (.ask (I64 (f (U.toNat (Int.ofNat
      2))).1 ∧ I64 (f (U.toNat (Int.ofNat 2))).2.1 ∧ I64 (f (U.toNat (Int.ofNat 2))).2.2.1 ∧ I64 (e (U.toNat (Int.ofNat 2))).1) (.br (U.ne (lk xtE (f (U.toNat (Int.ofNat 2))).1 (f
      (U.toNat (Int.ofNat 2))).2.1 (f (U.toNat (Int.ofNat 2))).2.2.1 (e (U.toNat (Int.ofNat 2))).1) (0 : Int)) (.br (U.ne (lk xtE (f (U.toNat (Int.ofNat 2))).1 (f (U.toNat (Int.ofNat
      2))).2.1 (f (U.toNat (Int.ofNat 2))).2.2.1 (e (U.toNat (Int.ofNat 2))).1) (0 : Int)) (.ret (.tup [.agg [.lit (.slice none (nat_lit 0) (nat_lit 0)), .lit (.int .i64 0), .lit (.int
      .i64 0), .lit (.int .i64 0)], .lit (.int .i64 (lk xtE (f (U.toNat (Int.ofNat 2))).1 (f (U.toNat (Int.ofNat 2))).2.1 (f (U.toNat (Int.ofNat 2))).2.2.1 (e (U.toNat (Int.ofNat
      2))).1))])) (.ret (.tup [.agg [.row [.int .i64, .int .i64, .int .i64] (nat_lit 2) (U.cat (nat_lit 1) (fun x => (lk xtLow (f (U.toNat (Int.ofNat 0))).1 (f (U.toNat (Int.ofNat
      0))).2.1 (f (U.toNat (Int.ofNat 0))).2.2.1 (e (U.toNat (Int.ofNat 0))).1, lk xtHigh (f (U.toNat (Int.ofNat 0))).1 (f (U.toNat (Int.ofNat 0))).2.1 (f (U.toNat (Int.ofNat 0))).2.2.1
      (e (U.toNat (Int.ofNat 0))).1, lk xtStr (f (U.toNat (Int.ofNat 0))).1 (f (U.toNat (Int.ofNat 0))).2.1 (f (U.toNat (Int.ofNat 0))).2.2.1 (e (U.toNat (Int.ofNat 0))).1, PUnit.unit))
      fun x => (lk xtLow (f (U.toNat (Int.ofNat 1))).1 (f (U.toNat (Int.ofNat 1))).2.1 (f (U.toNat (Int.ofNat 1))).2.2.1 (e (U.toNat (Int.ofNat 1))).1, lk xtHigh (f (U.toNat (Int.ofNat
      1))).1 (f (U.toNat (Int.ofNat 1))).2.1 (f (U.toNat (Int.ofNat 1))).2.2.1 (e (U.toNat (Int.ofNat 1))).1, lk xtStr (f (U.toNat (Int.ofNat 1))).1 (f (U.toNat (Int.ofNat 1))).2.1 (f
      (U.toNat (Int.ofNat 1))).2.2.1 (e (U.toNat (Int.ofNat 1))).1, PUnit.unit)), .lit (.int .i64 k), .lit (.int .i64 s), .lit (.int .i64 h)], .lit (.int .i64 0)]))) (.ask (((1 : Nat) +
      (1 : Nat) + (1 : Nat)) * nat_lit 24 ≤ nat_lit 140737488351232) (.stuck (nat_lit 105)))))))) (.br (U.ne (lk xtE (f (U.toNat (Int.ofNat 1))).1 (f (U.toNat (Int.ofNat 1))).2.1 (f
      (U.toNat (Int.ofNat 1))).2.2.1 (e (U.toNat (Int.ofNat 1))).1) (0 : Int)) (.ret (.tup [.agg [.lit (.slice none (nat_lit 0) (nat_lit 0)), .lit (.int .i64 0), .lit (.int .i64 0), .lit
      (.int .i64 0)], .lit (.int .i64 (lk xtE (f (U.toNat (Int.ofNat 1))).1 (f (U.toNat (Int.ofNat 1))).2.1 (f (U.toNat (Int.ofNat 1))).2.2.1 (e (U.toNat (Int.ofNat 1))).1))])) (.ret
      (.tup [.agg [.row [.int .i64, .int .i64, .int .i64] (nat_lit 2) (U.cat (nat_lit 1) (fun x => (lk xtLow (f (U.toNat (Int.ofNat 0))).1 (f (U.toNat (Int.ofNat 0))).2.1 (f (U.toNat
      (Int.ofNat 0))).2.2.1 (e (U.toNat (Int.ofNat 0))).1, lk xtHigh (f (U.toNat (Int.ofNat 0))).1 (f (U.toNat (Int.ofNat 0))).2.1 (f (U.toNat (Int.ofNat 0))).2.2.1 (e (U.toNat (Int.ofNat
      0))).1, lk xtStr (f (U.toNat (Int.ofNat 0))).1 (f (U.toNat (Int.ofNat 0))).2.1 (f (U.toNat (Int.ofNat 0))).2.2.1 (e (U.toNat (Int.ofNat 0))).1, PUnit.unit)) fun x => (lk xtLow (f
      (U.toNat (Int.ofNat 1))).1 (f (U.toNat (Int.ofNat 1))).2.1 (f (U.toNat (Int.ofNat 1))).2.2.1 (e (U.toNat (Int.ofNat 1))).1, lk xtHigh (f (U.toNat (Int.ofNat 1))).1 (f (U.toNat
      (Int.ofNat 1))).2.1 (f (U.toNat (Int.ofNat 1))).2.2.1 (e (U.toNat (Int.ofNat 1))).1, lk xtStr (f (U.toNat (Int.ofNat 1))).1 (f (U.toNat (Int.ofNat 1))).2.1 (f (U.toNat (Int.ofNat
      1))).2.2.1 (e (U.toNat (Int.ofNat 1))).1, PUnit.unit)), .lit (.int .i64 k), .lit (.int .i64 s), .lit (.int .i64 h)], .lit (.int .i64 0)])))))))))) (.br (U.ne (lk xtE (f (U.toNat
      (Int.ofNat 0))).1 (f (U.toNat (Int.ofNat 0))).2.1 (f (U.toNat (Int.ofNat 0))).2.2.1 (e (U.toNat (Int.ofNat 0))).1) (0 : Int)) (.ret (.tup [.agg [.lit (.slice none (nat_lit 0)
      (nat_lit 0)), .lit (.int .i64 0), .lit (.int .i64 0), .lit (.int .i64 0)], .lit (.int .i64 (lk xtE (f (U.toNat (Int.ofNat 0))).1 (f (U.toNat (Int.ofNat 0))).2.1 (f (U.toNat
      (Int.ofNat 0))).2.2.1 (e (U.toNat (Int.ofNat 0))).1))])) (.ret (.tup [.agg [.row [.int .i64, .int .i64, .int .i64] (nat_lit 1) fun x => (lk xtLow (f (U.toNat (Int.ofNat 0))).1 (f
      (U.toNat (Int.ofNat 0))).2.1 (f (U.toNat (Int.ofNat 0))).2.2.1 (e (U.toNat (Int.ofNat 0))).1, lk xtHigh (f (U.toNat (Int.ofNat 0))).1 (f (U.toNat (Int.ofNat 0))).2.1 (f (U.toNat
      (Int.ofNat 0))).2.2.1 (e (U.toNat (Int.ofNat 0))).1, lk xtStr (f (U.toNat (Int.ofNat 0))).1 (f (U.toNat (Int.ofNat 0))).2.1 (f (U.toNat (Int.ofNat 0))).2.2.1 (e (U.toNat (Int.ofNat
      0))).1, PUnit.unit), .lit (.int .i64 k), .lit (.int .i64 s), .lit (.int .i64 h)], .lit (.int .i64 0)])))))))))) (.ret (.tup [.agg [.lit (.slice none (nat_lit 0) (nat_lit 0)), .lit
      (.int .i64 k), .lit (.int .i64 s), .lit (.int .i64 h)], .lit (.int .i64 0)]))))) := by kernel_rfl
theorem DExterior_ok (h12 : ∀ p ∈ d12, ConOK P p.1 p.2) (hl : ∀ p ∈ lCh, LoopsOK P p.2 (bodyOf P p.1)) : ConOK P 96 (c_chg 3) := con_cl (allOKL mixed h12 hl) 10 96 fun args r h => by
  unfold c_chg at h
  split at h
  · rename_i n f k s h' m e
    obtain ⟨hp, hq⟩ := (T.is_ask h).1
    have h := (T.is_ask h).2
    obtain rfl := T.is_ret h
    rw [t_DExterior]
    simp only [tn, lk_eq]
    simp only [Int.ofNat_eq_natCast]
    by_cases c : chD n f k s h' = 0
    · by_cases q : m = n
      · subst q
        have hn := (chD_zero.1 c).1.1
        have hI : ∀ i, i < m → I64 (f i).1 ∧ I64 (f i).2.1 ∧ I64 (f i).2.2.1 ∧ I64 (e i).1 := fun i hi => ⟨(hp i hi).1, (hp i hi).2.1, (hp i hi).2.2, hq i hi⟩
        have hI0 := hI 0 (by omega)
        rcases hn with rfl | rfl
        · by_cases Z0 : @Eq Int (e 0).1 0
          · simp [T.All, U.ne_eq, U.eq_eq, U.lt_eq, hp, hI0, hI0, c, Z0, eqT Z0, neF Z0]
            refine chg_ok (chgE_4 (w := 3) c (opEz3 (f 0) Z0)) rfl fun i hi => ?_
            obtain rfl := one_of hi
            exact (opFz3 (f 0) Z0).symm
          · by_cases E0 : xtE (f 0).1 (f 0).2.1 (f 0).2.2.1 (e 0).1 = 0
            · simp [T.All, U.ne_eq, U.eq_eq, U.lt_eq, hp, hI0, hI0, c, Z0, E0, eqF Z0, neT Z0]
              refine chg_ok (chgE_4 (w := 3) c ((opEn3 (f 0) Z0).trans E0)) rfl fun i hi => ?_
              obtain rfl := one_of hi
              exact (opFn3 (f 0) Z0).symm
            · simp [T.All, U.ne_eq, U.eq_eq, U.lt_eq, hp, hI0, hI0, c, Z0, E0, eqF Z0, neT Z0]
              exact chg_err (chgE_3 (w := 3) c (opEn3 (f 0) Z0) E0) E0
        · have hI1 := hI 1 (by omega)
          by_cases Z0 : @Eq Int (e 0).1 0
          · by_cases Z1 : @Eq Int (e 1).1 0
            · simp [T.All, U.ne_eq, U.eq_eq, U.lt_eq, hp, hI0, hI1, c, Z0, eqT Z0, neF Z0, Z1, eqT Z1, neF Z1]
              refine chg_ok (chgE_5 (w := 3) c (opEz3 (f 0) Z0) (opEz3 (f 1) Z1)) rfl fun i hi => ?_
              rcases two_of hi with rfl | rfl
              · exact (cat_l (by omega)).trans (opFz3 (f 0) Z0).symm
              · exact (cat_r (by omega)).trans (opFz3 (f 1) Z1).symm
            · by_cases E1 : xtE (f 1).1 (f 1).2.1 (f 1).2.2.1 (e 1).1 = 0
              · simp [T.All, U.ne_eq, U.eq_eq, U.lt_eq, hp, hI0, hI1, c, Z0, eqT Z0, neF Z0, Z1, E1, eqF Z1, neT Z1]
                refine chg_ok (chgE_5 (w := 3) c (opEz3 (f 0) Z0) ((opEn3 (f 1) Z1).trans E1)) rfl fun i hi => ?_
                rcases two_of hi with rfl | rfl
                · exact (cat_l (by omega)).trans (opFz3 (f 0) Z0).symm
                · exact (cat_r (by omega)).trans (opFn3 (f 1) Z1).symm
              · simp [T.All, U.ne_eq, U.eq_eq, U.lt_eq, hp, hI0, hI1, c, Z0, eqT Z0, neF Z0, Z1, E1, eqF Z1, neT Z1]
                exact chg_err (chgE_5 (w := 3) c (opEz3 (f 0) Z0) (opEn3 (f 1) Z1)) E1
          · by_cases E0 : xtE (f 0).1 (f 0).2.1 (f 0).2.2.1 (e 0).1 = 0
            · by_cases Z1 : @Eq Int (e 1).1 0
              · simp [T.All, U.ne_eq, U.eq_eq, U.lt_eq, hp, hI0, hI1, c, Z0, E0, eqF Z0, neT Z0, Z1, eqT Z1, neF Z1]
                refine chg_ok (chgE_5 (w := 3) c ((opEn3 (f 0) Z0).trans E0) (opEz3 (f 1) Z1)) rfl fun i hi => ?_
                rcases two_of hi with rfl | rfl
                · exact (cat_l (by omega)).trans (opFn3 (f 0) Z0).symm
                · exact (cat_r (by omega)).trans (opFz3 (f 1) Z1).symm
              · by_cases E1 : xtE (f 1).1 (f 1).2.1 (f 1).2.2.1 (e 1).1 = 0
                · simp [T.All, U.ne_eq, U.eq_eq, U.lt_eq, hp, hI0, hI1, c, Z0, E0, eqF Z0, neT Z0, Z1, E1, eqF Z1, neT Z1]
                  refine chg_ok (chgE_5 (w := 3) c ((opEn3 (f 0) Z0).trans E0) ((opEn3 (f 1) Z1).trans E1)) rfl fun i hi => ?_
                  rcases two_of hi with rfl | rfl
                  · exact (cat_l (by omega)).trans (opFn3 (f 0) Z0).symm
                  · exact (cat_r (by omega)).trans (opFn3 (f 1) Z1).symm
                · simp [T.All, U.ne_eq, U.eq_eq, U.lt_eq, hp, hI0, hI1, c, Z0, E0, eqF Z0, neT Z0, Z1, E1, eqF Z1, neT Z1]
                  exact chg_err (chgE_5 (w := 3) c ((opEn3 (f 0) Z0).trans E0) (opEn3 (f 1) Z1)) E1
            · simp [T.All, U.ne_eq, U.eq_eq, U.lt_eq, hp, hI0, hI1, c, Z0, E0, eqF Z0, neT Z0]
              exact chg_err (chgE_3 (w := 3) c (opEn3 (f 0) Z0) E0) E0
      · have q' : ¬ ((m : Int) = (n : Int)) := by omega
        simp [T.All, U.ne_eq, hp, c, q']
        exact chg_err (chgE_2 (w := 3) c q) (by omega)
    · simp [T.All, U.ne_eq, hp, c]
      exact chg_err (chgE_1 (w := 3) c) c
  · exact h.elim
set_option maxRecDepth 100000 in
theorem t_qDExterior (n : Nat) (f : Nat → R3) (k s h : Int) (m : Nat) (e : Nat → R1) : conB Go.Proofs.Try.prog (conOf d12) (loopsOf lqCh) 10 97 [.agg [.row [.int .i64, .int .i64, .int .i64] n f, .lit (.int .i64 k), .lit (.int .i64 s), .lit (.int .i64 h)], .row [.int .i64] m e] =
    T.ask (Row64 n f) (.br (U.ne (lk chD n f k s h) (0 : Int)) (.ret (.tup [.agg [.lit (.slice none (nat_lit 0) (nat_lit 0)), .lit (.int .i64 0), .lit (.int .i64 0), .lit (.int .i64
      0)], .lit (.int .i64 (lk chD n f k s h))])) (.br (U.ne (Int.ofNat m) (Int.ofNat n)) (.ret (.tup [.agg [.lit (.slice none (nat_lit 0) (nat_lit 0)), .lit (.int .i64 0), .lit (.int
      .i64 0), .lit (.int .i64 0)], .lit (.int .i64 5)])) (.br (U.lt (0 : Int) (Int.ofNat m)) (.ask ((0 : Int) ≤ (0 : Int) ∧ (0 : Int) < ↑n) (.ask ((0 : Int) ≤ (0 : Int) ∧ (0 : Int) < ↑m)
      (.br (U.ne (e (U.toNat (Int.ofNat 0))).1 (0 : Int)) (.ask ((0 : Int) ≤ (0 : Int) ∧ (0 : Int) < ↑m) (.ask (I64 (f (U.toNat (Int.ofNat 0))).1 ∧ I64 (f (U.toNat (Int.ofNat 0))).2.1 ∧
      I64 (f (U.toNat (Int.ofNat 0))).2.2.1 ∧ I64 (e (U.toNat (Int.ofNat 0))).1) (.br (U.ne (lk xtE (f (U.toNat (Int.ofNat 0))).1 (f (U.toNat (Int.ofNat 0))).2.1 (f (U.toNat (Int.ofNat
      0))).2.2.1 (e (U.toNat (Int.ofNat 0))).1) (0 : Int)) (.ret (.tup [.agg [.lit (.slice none (nat_lit 0) (nat_lit 0)), .lit (.int .i64 0), .lit (.int .i64 0), .lit (.int .i64 0)], .lit
      (.int .i64 (lk xtE (f (U.toNat (Int.ofNat 0))).1 (f (U.toNat (Int.ofNat 0))).2.1 (f (U.toNat (Int.ofNat 0))).2.2.1 (e (U.toNat (Int.ofNat 0))).1))])) (.ask ((1 : Nat) * nat_lit 24 ≤
      nat_lit 140737488351232) (.br (U.lt (1 : Int) (Int.ofNat m)) (.ask ((0 : Int) ≤ (1 : Int) ∧ (1 : Int) < ↑n) (.ask ((0 : Int) ≤ (1 : Int) ∧ (1 : Int) < ↑m) (.br (U.ne (e (U.toNat
      (Int.ofNat 1))).1 (0 : Int)) (.ask ((0 : Int) ≤ (1 : Int) ∧ (1 : Int) < ↑m) (.ask (I64 (f (U.toNat (Int.ofNat 1))).1 ∧ I64 (f (U.toNat (Int.ofNat 1))).2.1 ∧ I64 (f (U.toNat
      (Int.ofNat 1))).2.2.1 ∧ I64 (e (U.toNat (Int.ofNat 1))).1) (.br (U.ne (lk xtE (f (U.toNat (Int.ofNat 1))).1 (f (U.toNat (Int.ofNat 1))).2.1 (f (U.toNat (Int.ofNat 1))).2.2.1 (e
      (U.toNat (Int.ofNat 1))).1) (0 : Int)) (.ret (.tup [.agg [.lit (.slice none (nat_lit 0) (nat_lit 0)), .lit (.int .i64 0), .lit (.int .i64 0), .lit (.int .i64 0)], .lit (.int .i64
      (lk xtE (f (U.toNat (Int.ofNat 1))).1 (f (U.toNat (Int.ofNat 1))).2.1 (f (U.toNat (Int.ofNat 1))).2.2.1 (e (U.toNat (Int.ofNat 1))).1))])) (.ask (((1 : Nat) + (1 : Nat)) * nat_lit
      24 ≤ nat_lit 140737488351232) (.br (U.lt (2 : Int) (Int.ofNat m)) (.ask ((0 : Int) ≤ (2 : Int) ∧ (2 : Int) < ↑n) (.ask ((0 : Int) ≤ (2 : Int) ∧ (2 : Int) < ↑m) (.br (U.ne (e
      (U.toNat (Int.ofNat 2))).1 (0 : Int)) (.ask ((0 : Int) ≤ (2 : Int) ∧ (2 : Int) < ↑m) (.ask (I64 (f (U.toNat (Int.ofNat 2))).1 ∧ I64 (f (U.toNat (Int.ofNat 2))).2.1 ∧ I64 (f (U.toNat
      (Int.ofNat 2))).2.2.1 ∧ I64 (e (U.toNat (Int.ofNat 2))).1) (.br (U.ne (lk xtE (f (U.toNat (Int.ofNat 2))).1 (f (U.toNat (Int.ofNat 2))).2.1 (f (U.toNat (Int.ofNat 2))).2.2.1 (e
      (U.toNat (Int.ofNat 2))).1) (0 : Int)) (.ret (.tup [.agg [.lit (.slice none (nat_lit 0) (nat_lit 0)), .lit (.int .i64 0), .lit (.int .i64 0), .lit (.int .i64 0)], .lit (.int .i64
      (lk xtE (f (U.toNat (Int.ofNat 2))).1 (f (U.toNat (Int.ofNat 2))).2.1 (f (U.toNat (Int.ofNat 2))).2.2.1 (e (U.toNat (Int.ofNat 2))).1))])) (.ask (((1 : Nat) + (1 : Nat) + (1 : Nat))
      * nat_lit 24 ≤ nat_lit 140737488351232) (.stuck (nat_lit 105)))))) (.ask (((1 : Nat) + (1 : Nat) + (1 : Nat)) * nat_lit 24 ≤ nat_lit 140737488351232) (.stuck (nat_lit 105))))))
      (.ret (.tup [.agg [.row [.int .i64, .int .i64, .int .i64] (nat_lit 2) (U.cat (nat_lit 1) (fun x => (lk xtLow (f (U.toNat (Int.ofNat 0))).1 (f (U.toNat (Int.ofNat 0))).2.1 (f
      (U.toNat (Int.ofNat 0))).2.2.1 (e (U.toNat (Int.ofNat 0))).1, lk xtHigh (f (U.toNat (Int.ofNat 0))).1 (f (U.toNat (Int.ofNat 0))).2.1 (f (U.toNat (Int.ofNat 0))).2.2.1 (e (U.toNat
      (Int.ofNat 0))).1, lk xtStr (f (U.toNat (Int.ofNat 0))).1 (f (U.toNat (Int.ofNat 0))).2.1 (f (U.toNat (Int.ofNat 0))).2.2.1 (e (U.toNat (Int.ofNat 0))).1, PUnit.unit)) fun x => (lk
      xtLow (f (U.toNat (Int.ofNat 1))).1 (f (U.toNat (Int.ofNat 1))).2.1 (f (U.toNat (Int.ofNat 1))).2.2.1 (e (U.toNat (Int.ofNat 1))).1, lk xtHigh (f (U.toNat (Int.ofNat 1))).1 (f
      (U.toNat (Int.ofNat 1))).2.1 (f (U.toNat (Int.ofNat 1))).2.2.1 (e (U.toNat (Int.ofNat 1))).1, lk xtStr (f (U.toNat (Int.ofNat 1))).1 (f (U.toNat (Int.ofNat 1))).2.1 (f (U.toNat
      (Int.ofNat 1))).2.2.1 (e (U.toNat (Int.ofNat 1))).1, PUnit.unit)), .lit (.int .i64 k), .lit (.int .i64 s), .lit (.int .i64 h)], .lit (.int .i64 0)]))))))) (.ask (((1 : Nat) + (1 :
      Nat)) * nat_lit 24 ≤ nat_lit 140737488351232) (.br (U.lt (2 : Int) (Int.ofNat m)) (.ask ((0 : Int) ≤ (2 : Int) ∧ (2 : Int) < ↑n) (.ask ((0 : Int) ≤ (2 : Int) ∧ (2 : Int) < ↑m) (.br
      (U.ne (e (U.toNat (Int.ofNat 2))).1 (0 : Int)) (.ask ((0 : Int) ≤ (2 : Int) ∧ (2 : Int) < ↑m) (.ask (I64 (f (U.toNat (Int.ofNat 2))).1 ∧ I64 (f (U.toNat (Int.ofNat 2))).2.1 ∧ I64 (f
      (U.toNat (Int.ofNat 2))).2.2.1 ∧ I64 (e (U.toNat (Int.ofNat 2))).1) (.br (U.ne (lk xtE (f (U.toNat (Int.ofNat 2))).1 (f (U.toNat (Int.ofNat 2))).2.1 (f (U.toNat (Int.ofNat
      2))).2.2.1 (e (U.toNat (Int.ofNat 2))).1) (0 : Int)) (.ret (.tup [.agg [.lit (.slice none (nat_lit 0) (nat_lit 0)), .lit (.int .i64 0), .lit (.int .i64 0), .lit (.int .i64 0)], .lit
      (.int .i64 (lk xtE (f (U.toNat (Int.ofNat 2))).1 (f (U.toNat (Int.ofNat 2))).2.1 (f (U.toNat (Int.ofNat 2))).2.2.1 (e (U.toNat (Int.ofNat 2))).1))])) (.ask (((1 : Nat) + (1 : Nat) +
      (1 : Nat)) * nat_lit 24 ≤ nat_lit 140737488351232) (.stuck (nat_lit 105)))))) (.ask (((1 : Nat) + (1 : Nat) + (1 : Nat)) * nat_lit 24 ≤ nat_lit 140737488351232) (.stuck (nat_lit
      105)))))) (.ret (.tup [.agg [.row [.int .i64, .int .i64, .int .i64] (nat_lit 2) (U.cat (nat_lit 1) (fun x => (lk xtLow (f (U.toNat (Int.ofNat 0))).1 (f (U.toNat (Int.ofNat 0))).2.1
      (f (U.toNat (Int.ofNat 0))).2.2.1 (e (U.toNat (Int.ofNat 0))).1, lk xtHigh (f (U.toNat (Int.ofNat 0))).1 (f (U.toNat (Int.ofNat 0))).2.1 (f (U.toNat (Int.ofNat 0))).2.2.1 (e
      (U.toNat (Int.ofNat 0))).1, lk xtStr (f (U.toNat (Int.ofNat 0))).1 (f (U.toNat (Int.ofNat 0))).2.1 (f (U.toNat (Int.ofNat 0))).2.2.1 (e (U.toNat (Int.ofNat 0))).1, PUnit.unit)) fun
      x => ((f (U.toNat (Int.ofNat 1))).1, (f (U.toNat (Int.ofNat 1))).2.1, (f (U.toNat (Int.ofNat 1))).2.2.1, PUnit.unit)), .lit (.int .i64 k), .lit (.int .i64 s), .lit (.int .i64 h)],
      .lit (.int .i64 0)]))))))) (.ret (.tup [.agg [.row [.int .i64, .int .i64, .int .i64] (nat_lit 1) fun x => (lk xtLow (f (U.toNat (Int.ofNat 0))).1 (f (U.toNat (Int.ofNat 0))).2.1 (f
      (U.toNat (Int.ofNat 0))).2.2.1 (e (U.toNat (Int.ofNat 0))).1, lk xtHigh (f (U.toNat (Int.ofNat 0))).1 (f (U.toNat (Int.ofNat 0))).2.1 (f (U.toNat (Int.ofNat 0))).2.2.1 (e (U.toNat
      (Int.ofNat 0))).1, lk xtStr (f (U.toNat (Int.ofNat 0))).1 (f (U.toNat (Int.ofNat 0))).2.1 (f (U.toNat (Int.ofNat 0))).2.2.1 (e (U.toNat (Int.ofNat 0))).1, PUnit.unit), .lit (.int
      .i64 k), .lit (.int .i64 s), .lit (.int .i64 h)], .lit (.int .i64 0)]))))))) (.ask ((1 : Nat) * nat_lit 24 ≤ nat_lit 140737488351232) (.br (U.lt (1 : Int) (Int.ofNat m)) (.ask ((0 :
      Int) ≤ (1 : Int) ∧ (1 : Int) < ↑n) (.ask ((0 : Int) ≤ (1 : Int) ∧ (1 : Int) < ↑m) (.br (U.ne (e (U.toNat (Int.ofNat 1))).1 (0 : Int)) (.ask ((0 : Int) ≤ (1 : Int) ∧ (1 : Int) < ↑m)
      (.ask (I64 (f (U.toNat (Int.ofNat 1))).1 ∧ I64 (f (U.toNat (Int.ofNat 1))).2.1 ∧ I64 (f (U.toNat (Int.ofNat 1))).2.2.1 ∧ I64 (e (U.toNat (Int.ofNat 1))).1) (.br (U.ne (lk xtE (f
      (U.toNat (Int.ofNat 1))).1 (f (U.toNat (Int.ofNat 1))).2.1 (f (U.toNat (Int.ofNat 1))).2.2.1 (e (U.toNat (Int.ofNat 1))).1) (0 : Int)) (.ret (.tup [.agg [.lit (.slice none (nat_lit
      0) (nat_lit 0)), .lit (.int .i64 0), .lit (.int .i64 0), .lit (.int .i64 0)], .lit (.int .i64 (lk xtE (f (U.toNat (Int.ofNat 1))).1 (f (U.toNat (Int.ofNat 1))).2.1 (f (U.toNat
      (Int.ofNat 1))).2.2.1 (e (U.toNat (Int.ofNat 1))).1))])) (.ask (((1 : Nat) + (1 : Nat)) * nat_lit 24 ≤ nat_lit 140737488351232) (.br (U.lt (2 : Int) (Int.ofNat m)) (.ask ((0 : Int)
      ≤ (2 : Int) ∧ (2 : Int) < ↑n) (.ask ((0 : Int) ≤ (2 : Int) ∧ (2 : Int) < ↑m) (.br (U.ne (e (U.toNat (Int.ofNat 2))).1 (0 : Int)) (.ask ((0 : Int) ≤ (2 : Int) ∧ (2 : Int) < ↑m) (.ask
      (I64 (f (U.toNat (Int.ofNat 2))).1 ∧ I64 (f (U.toNat (Int.ofNat 2))).2.1 ∧ I64 (f (U.toNat (Int.ofNat 2))).2.2.1 ∧ I64 (e (U.toNat (Int.ofNat 2))).1) (.br (U.ne (lk xtE (f (U.toNat
      (Int.ofNat 2))).1 (f (U.toNat (Int.ofNat 2))).2.1 (f (U.toNat (Int.ofNat 2))).2.2.1 (e (U.toNat (Int.ofNat 2))).1) (0 : Int)) (.ret (.tup [.agg [.lit (.slice none (nat_lit 0)
      (nat_lit 0)), .lit (.int .i64 0), .lit (.int .i64 0), .lit (.int .i64 0)], .lit (.int .i64 (lk xtE (f (U.toNat (Int.ofNat 2))).1 (f (U.toNat (Int.ofNat 2))).2.1 (f (U.toNat
      (Int.ofNat 2))).2.2.1 (e (U.toNat (Int.ofNat 2))).1))])) (.ask (((1 : Nat) + (1 : Nat) + (1 : Nat)) * nat_lit 24 ≤ nat_lit 140737488351232) (.stuck (nat_lit 105)))))) (.ask (((1 :
      Nat) + (1 : Nat) + (1 : Nat)) * nat_lit 24 ≤ nat_lit 140737488351232) (.stuck (nat_lit 105)))))) (.ret (.tup [.agg [.row [.int .i64, .int .i64, .int .i64] (nat_lit 2) (U.cat
      (nat_lit 1) (fun x => ((f (U.toNat (Int.ofNat 0))).1, (f (U.toNat (Int.ofNat 0))).2.1, (f (U.toNat (Int.ofNat 0))).2.2.1, PUnit.unit)) fun x => (lk xtLow (f (U.toNat (Int.ofNat
      1))).1 (f (U.toNat (Int.ofNat 1))).2.1 (f (U.toNat (Int.ofNat 1))).2.2.1 (e (U.toNat (Int.ofNat 1))).1, lk xtHigh (f (U.toNat (Int.ofNat 1))).1 (f (U.toNat (Int.ofNat 1))).2.1 (f
      (U.toNat (Int.ofNat 1))).2.2.1 (e (U.toNat (Int.ofNat 1))).1, lk xtStr (f (U.toNat (Int.ofNat 1))).1 (f (U.toNat (Int.ofNat 1))).2.1 (f (U.toNat (Int.ofNat 1))).2.2.1 (e (U.toNat
      (Int.ofNat 1))).1, PUnit.unit)), .lit (.int .i64 k), .lit (.int .i64 s), .lit (.int .i64 h)], .lit (.int .i64 0)]))))))) (.ask (((1 : Nat) + (1 : Nat)) * nat_lit 24 ≤ nat_lit
      140737488351232) (.br (U.lt (2 : Int) (Int.ofNat m)) (.ask ((0 : Int) ≤ (2 : Int) ∧ (2 : Int) < ↑n) (.ask ((0 : Int) ≤ (2 : Int) ∧ (2 : Int) < ↑m) (.br (U.ne (e (U.toNat (Int.ofNat
      2))).1 (0 : Int)) (.ask ((0 : Int) ≤ (2 : Int) ∧ (2 : Int) < ↑m) (.ask (I64 (f (U.toNat (Int.ofNat 2))).1 ∧ I64 (f (U.toNat (Int.ofNat 2))).2.1 ∧ I64 (f (U.toNat (Int.ofNat
      2))).2.2.1 ∧ I64 (e (U.toNat (Int.ofNat 2))).1) (.br (U.ne (lk xtE (f (U.toNat (Int.ofNat 2))).1 (f (U.toNat (Int.ofNat 2))).2.1 (f (U.toNat (Int.ofNat 2))).2.2.1 (e (U.toNat
      (Int.ofNat 2))).1) (0 : Int)) (.ret (.tup [.agg [.lit (.slice none (nat_lit 0) (nat_lit 0)), .lit (.int .i64 0), .lit (.int .i64 0), .lit (.int .i64 0)], .lit (.int .i64 (lk xtE (f
      (U.toNat (Int.ofNat 2))).1 (f (U.toNat (Int.ofNat 2))).2.1 (f (U.toNat (Int.ofNat 2))).2.2.1 (e (U.toNat (Int.ofNat 2))).1))])) (.ask (((1 : Nat) + (1 : Nat) + (1 : Nat)) * nat_lit
      24 ≤ nat_lit 140737488351232) (.stuck (nat_lit 105)))))) (.ask (((1 : Nat) + (1 : Nat) + (1 : Nat)) * nat_lit 24 ≤ nat_lit 140737488351232) (.stuck (nat_lit 105)))))) (.ret (.tup
      [.agg [.row [.int .i64, .int .i64, .int .i64] (nat_lit 2) (U.cat (nat_lit 1) (fun x => ((f (U.toNat (Int.ofNat 0))).1, (f (U.toNat (Int.ofNat 0))).2.1, (f (U.toNat (Int.ofNat
      0))).2.2.1, PUnit.unit)) fun x => ((f (U.toNat (Int.ofNat 1))).1, (f (U.toNat (Int.ofNat 1))).2.1, (f (U.toNat (Int.ofNat 1))).2.2.1, PUnit.unit)), .lit (.int .i64 k), .lit (.int
      .i64 s), .lit (.int .i64 h)], .lit (.int .i64 0)]))))))) (.ret (.tup [.agg [.row [.int .i64, .int .i64, .int .i64] (nat_lit 1) fun x => ((f (U.toNat (Int.ofNat 0))).1, (f (U.toNat
      (Int.ofNat 0))).2.1, (f (U.toNat (Int.ofNat 0))).2.2.1, PUnit.unit), .lit (.int .i64 k), .lit (.int .i64 s), .lit (.int .i64 h)], .lit (.int .i64 0)]))))))) (.ret (.tup [.agg [.lit
      (.slice none (nat_lit 0) (nat_lit 0)), .lit (.int .i64 k), .lit (.int .i64 s), .lit (.int .i64 h)], .lit (.int .i64 0)]))))) := by kernel_rfl
theorem qDExterior_ok (h12 : ∀ p ∈ d12, ConOK P p.1 p.2) (hl : ∀ p ∈ lqCh, LoopsOK P p.2 (bodyOf P p.1)) : ConOK P 97 (c_chg 3) := con_cl (allOKL mixed h12 hl) 10 97 fun args r h => by
  unfold c_chg at h
  split at h
  · rename_i n f k s h' m e
    obtain ⟨hp, hq⟩ := (T.is_ask h).1
    have h := (T.is_ask h).2
    obtain rfl := T.is_ret h
    rw [t_qDExterior]
    simp only [tn, lk_eq]
    simp only [Int.ofNat_eq_natCast]
    by_cases c : chD n f k s h' = 0
    · by_cases q : m = n
      · subst q
        have hn := (chD_zero.1 c).1.1
        have hI : ∀ i, i < m → I64 (f i).1 ∧ I64 (f i).2.1 ∧ I64 (f i).2.2.1 ∧ I64 (e i).1 := fun i hi => ⟨(hp i hi).1, (hp i hi).2.1, (hp i hi).2.2, hq i hi⟩
        have hI0 := hI 0 (by omega)
        rcases hn with rfl | rfl
        · by_cases Z0 : @Eq Int (e 0).1 0
          · simp [T.All, U.ne_eq, U.eq_eq, U.lt_eq, hp, hI0, hI0, c, Z0, eqT Z0, neF Z0]
            refine chg_ok (chgE_4 (w := 3) c (opEz3 (f 0) Z0)) rfl fun i hi => ?_
            obtain rfl := one_of hi
            exact (opFz3 (f 0) Z0).symm
          · by_cases E0 : xtE (f 0).1 (f 0).2.1 (f 0).2.2.1 (e 0).1 = 0
            · simp [T.All, U.ne_eq, U.eq_eq, U.lt_eq, hp, hI0, hI0, c, Z0, E0, eqF Z0, neT Z0]
              refine chg_ok (chgE_4 (w := 3) c ((opEn3 (f 0) Z0).trans E0)) rfl fun i hi => ?_
              obtain rfl := one_of hi
              exact (opFn3 (f 0) Z0).symm
            · simp [T.All, U.ne_eq, U.eq_eq, U.lt_eq, hp, hI0, hI0, c, Z0, E0, eqF Z0, neT Z0]
              exact chg_err (chgE_3 (w := 3) c (opEn3 (f 0) Z0) E0) E0
        · have hI1 := hI 1 (by omega)
          by_cases Z0 : @Eq Int (e 0).1 0
          · by_cases Z1 : @Eq Int (e 1).1 0
            · simp [T.All, U.ne_eq, U.eq_eq, U.lt_eq, hp, hI0, hI1, c, Z0, eqT Z0, neF Z0, Z1, eqT Z1, neF Z1]
              refine chg_ok (chgE_5 (w := 3) c (opEz3 (f 0) Z0) (opEz3 (f 1) Z1)) rfl fun i hi => ?_
              rcases two_of hi with rfl | rfl
              · exact (cat_l (by omega)).trans (opFz3 (f 0) Z0).symm
              · exact (cat_r (by omega)).trans (opFz3 (f 1) Z1).symm
            · by_cases E1 : xtE (f 1).1 (f 1).2.1 (f 1).2.2.1 (e 1).1 = 0
              · simp [T.All, U.ne_eq, U.eq_eq, U.lt_eq, hp, hI0, hI1, c, Z0, eqT Z0, neF Z0, Z1, E1, eqF Z1, neT Z1]
                refine chg_ok (chgE_5 (w := 3) c (opEz3 (f 0) Z0) ((opEn3 (f 1) Z1).trans E1)) rfl fun i hi => ?_
                rcases two_of hi with rfl | rfl
                · exact (cat_l (by omega)).trans (opFz3 (f 0) Z0).symm
                · exact (cat_r (by omega)).trans (opFn3 (f 1) Z1).symm
              · simp [T.All, U.ne_eq, U.eq_eq, U.lt_eq, hp, hI0, hI1, c, Z0, eqT Z0, neF Z0, Z1, E1, eqF Z1, neT Z1]
                exact chg_err (chgE_5 (w := 3) c (opEz3 (f 0) Z0) (opEn3 (f 1) Z1)) E1
          · by_cases E0 : xtE (f 0).1 (f 0).2.1 (f 0).2.2.1 (e 0).1 = 0
            · by_cases Z1 : @Eq Int (e 1).1 0
              · simp [T.All, U.ne_eq, U.eq_eq, U.lt_eq, hp, hI0, hI1, c, Z0, E0, eqF Z0, neT Z0, Z1, eqT Z1, neF Z1]
                refine chg_ok (chgE_5 (w := 3) c ((opEn3 (f 0) Z0).trans E0) (opEz3 (f 1) Z1)) rfl fun i hi => ?_
                rcases two_of hi with rfl | rfl
                · exact (cat_l (by omega)).trans (opFn3 (f 0) Z0).symm
                · exact (cat_r (by omega)).trans (opFz3 (f 1) Z1).symm
              · by_cases E1 : xtE (f 1).1 (f 1).2.1 (f 1).2.2.1 (e 1).1 = 0
                · simp [T.All, U.ne_eq, U.eq_eq, U.lt_eq, hp, hI0, hI1, c, Z0, E0, eqF Z0, neT Z0, Z1, E1, eqF Z1, neT Z1]
                  refine chg_ok (chgE_5 (w := 3) c ((opEn3 (f 0) Z0).trans E0) ((opEn3 (f 1) Z1).trans E1)) rfl fun i hi => ?_
                  rcases two_of hi with rfl | rfl
                  · exact (cat_l (by omega)).trans (opFn3 (f 0) Z0).symm
                  · exact (cat_r (by omega)).trans (opFn3 (f 1) Z1).symm
                · simp [T.All, U.ne_eq, U.eq_eq, U.lt_eq, hp, hI0, hI1, c, Z0, E0, eqF Z0, neT Z0, Z1, E1, eqF Z1, neT Z1]
                  exact chg_err (chgE_5 (w := 3) c ((opEn3 (f 0) Z0).trans E0) (opEn3 (f 1) Z1)) E1
            · simp [T.All, U.ne_eq, U.eq_eq, U.lt_eq, hp, hI0, hI1, c, Z0, E0, eqF Z0, neT Z0]
              exact chg_err (chgE_3 (w := 3) c (opEn3 (f 0) Z0) E0) E0
      · have q' : ¬ ((m : Int) = (n : Int)) := by omega
        simp [T.All, U.ne_eq, hp, c, q']
        exact chg_err (chgE_2 (w := 3) c q) (by omega)
    · simp [T.All, U.ne_eq, hp, c]
      exact chg_err (chgE_1 (w := 3) c) c
  · exact h.elim
end Go.RX.Span

/- Domains: what the law of changes returns. -/
set_option linter.unusedVariables false
set_option linter.unusedSimpArgs false
set_option maxRecDepth 100000
namespace Go.RX.Span
open Go Go.RX
attribute [local irreducible] sx conB

theorem d12_ok : ∀ p ∈ d12, ConOK P p.1 p.2 := by
  intro p hp
  simp only [d12, List.mem_cons] at hp
  rcases hp with rfl | rfl | rfl | rfl | rfl | rfl | rfl | rfl | hp
  · exact Translate_ok
  · exact rTranslate_ok
  · exact Expand_ok
  · exact rExpand_ok
  · exact Interior_ok
  · exact rInterior_ok
  · exact Exterior_ok
  · exact rExterior_ok
  · exact d11_ok p (by simpa [d11] using hp)
theorem lCh_ok : ∀ p ∈ lCh, LoopsOK P p.2 (bodyOf P p.1) := by
  intro p hp
  simp only [lCh, List.mem_singleton] at hp
  subst hp
  exact loopsOK_un fun q hq => by simp only [List.mem_singleton] at hq; subst hq; exact ⟨3, rfl⟩
theorem lqCh_ok : ∀ p ∈ lqCh, LoopsOK P p.2 (bodyOf P p.1) := by
  intro p hp
  simp only [lqCh, List.mem_singleton] at hp
  subst hp
  exact loopsOK_un fun q hq => by simp only [List.mem_singleton] at hq; subst hq; exact ⟨3, rfl⟩
noncomputable abbrev d13 : List (Nat × Con) := (90, c_chg 0) :: (91, c_chg 0) :: (92, c_chg 1) :: (93, c_chg 1) :: (94, c_chg 2) :: (95, c_chg 2) :: (96, c_chg 3) :: (97, c_chg 3) :: d11 --%K
theorem d13_ok : ∀ p ∈ d13, ConOK P p.1 p.2 := by
  intro p hp
  simp only [d13, List.mem_cons] at hp
  rcases hp with rfl | rfl | rfl | rfl | rfl | rfl | rfl | rfl | hp
  · exact DTranslate_ok d12_ok lCh_ok
  · exact qDTranslate_ok d12_ok lqCh_ok
  · exact DExpand_ok d12_ok lCh_ok
  · exact qDExpand_ok d12_ok lqCh_ok
  · exact DInterior_ok d12_ok lCh_ok
  · exact qDInterior_ok d12_ok lqCh_ok
  · exact DExterior_ok d12_ok lCh_ok
  · exact qDExterior_ok d12_ok lqCh_ok
  · exact d11_ok p (by simpa [d11] using hp)
noncomputable abbrev lDC2 : List (Nat × Loops) := [(16, [(2, .un 5)])] --%K
theorem lDC2_ok : ∀ p ∈ lDC2, LoopsOK P p.2 (bodyOf P p.1) := by
  intro p hp
  simp only [lDC2, List.mem_singleton] at hp
  subst hp
  exact loopsOK_un fun q hq => by simp only [List.mem_singleton] at hq; subst hq; exact ⟨5, rfl⟩
noncomputable def c_DomainChanges : Con := fun args => match args with
  | [.agg [.row [.int .i64, .int .i64, .int .i64] n f, .lit (.int .i64 k), .lit (.int .i64 s), .lit (.int .i64 h)], .row [.int .i64] m e] =>
    .ask (Row64 n f ∧ ∀ i, i < m → I64 (e i).1) (.ret (.lit (.bool true)))
  | _ => .stuck 1
set_option maxRecDepth 100000 in
theorem t_DomainChanges (n : Nat) (f : Nat → R3) (k s h : Int) (m : Nat) (e : Nat → R1) : conB Go.Proofs.Try.prog (conOf d13) (loopsOf lDC2) 10 16 [.agg [.row [.int .i64, .int .i64, .int .i64] n f, .lit (.int .i64 k), .lit (.int .i64 s), .lit (.int .i64 h)], .row [.int .i64] m e] =
    T.ask (Row64 n f ∧ ∀ (i : Nat), i < m → I64 (e i).1) (.ask (Row64 n f ∧ ∀ (i : Nat), i < m → I64 (e i).1) (.ask (lk chgN (nat_lit 0) n f k s h m e ≤ nat_lit 9223372036854775807)
      (.br (U.not (lk eqD (lk chgN (nat_lit 0) n f k s h m e) (lk chgF (nat_lit 0) f e) (lk chgX (nat_lit 0) n f k s h m e k) (lk chgX (nat_lit 0) n f k s h m e s) (lk chgX (nat_lit 0) n
      f k s h m e h) (lk chgN (nat_lit 0) n f k s h m e) (lk chgF (nat_lit 0) f e) (lk chgX (nat_lit 0) n f k s h m e k) (lk chgX (nat_lit 0) n f k s h m e s) (lk chgX (nat_lit 0) n f k s
      h m e h))) (.ret (.lit (.bool false))) (.br (U.ne (lk chgE (nat_lit 0) n f k s h m e) (lk chgE (nat_lit 0) n f k s h m e)) (.ret (.lit (.bool false))) (.ask (Row64 n f ∧ ∀ (i :
      Nat), i < m → I64 (e i).1) (.ask (Row64 n f ∧ ∀ (i : Nat), i < m → I64 (e i).1) (.ask (lk chgN (nat_lit 1) n f k s h m e ≤ nat_lit 9223372036854775807) (.br (U.not (lk eqD (lk chgN
      (nat_lit 1) n f k s h m e) (lk chgF (nat_lit 1) f e) (lk chgX (nat_lit 1) n f k s h m e k) (lk chgX (nat_lit 1) n f k s h m e s) (lk chgX (nat_lit 1) n f k s h m e h) (lk chgN
      (nat_lit 1) n f k s h m e) (lk chgF (nat_lit 1) f e) (lk chgX (nat_lit 1) n f k s h m e k) (lk chgX (nat_lit 1) n f k s h m e s) (lk chgX (nat_lit 1) n f k s h m e h))) (.ret (.lit
      (.bool false))) (.br (U.ne (lk chgE (nat_lit 1) n f k s h m e) (lk chgE (nat_lit 1) n f k s h m e)) (.ret (.lit (.bool false))) (.ask (Row64 n f ∧ ∀ (i : Nat), i < m → I64 (e i).1)
      (.ask (Row64 n f ∧ ∀ (i : Nat), i < m → I64 (e i).1) (.ask (lk chgN (nat_lit 2) n f k s h m e ≤ nat_lit 9223372036854775807) (.br (U.not (lk eqD (lk chgN (nat_lit 2) n f k s h m e)
      (lk chgF (nat_lit 2) f e) (lk chgX (nat_lit 2) n f k s h m e k) (lk chgX (nat_lit 2) n f k s h m e s) (lk chgX (nat_lit 2) n f k s h m e h) (lk chgN (nat_lit 2) n f k s h m e) (lk
      chgF (nat_lit 2) f e) (lk chgX (nat_lit 2) n f k s h m e k) (lk chgX (nat_lit 2) n f k s h m e s) (lk chgX (nat_lit 2) n f k s h m e h))) (.ret (.lit (.bool false))) (.br (U.ne (lk
      chgE (nat_lit 2) n f k s h m e) (lk chgE (nat_lit 2) n f k s h m e)) (.ret (.lit (.bool false))) (.ask (Row64 n f ∧ ∀ (i : Nat), i < m → I64 (e i).1) (.ask (Row64 n f ∧ ∀ (i : Nat),
      i < m → I64 (e i).1) (.ask (lk chgN (nat_lit 3) n f k s h m e ≤ nat_lit 9223372036854775807) (.br (U.not (lk eqD (lk chgN (nat_lit 3) n f k s h m e) (lk chgF (nat_lit 3) f e) (lk
      chgX (nat_lit 3) n f k s h m e k) (lk chgX (nat_lit 3) n f k s h m e s) (lk chgX (nat_lit 3) n f k s h m e h) (lk chgN (nat_lit 3) n f k s h m e) (lk chgF (nat_lit 3) f e) (lk chgX
      (nat_lit 3) n f k s h m e k) (lk chgX (nat_lit 3) n f k s h m e s) (lk chgX (nat_lit 3) n f k s h m e h))) (.ret (.lit (.bool false))) (.br (U.ne (lk chgE (nat_lit 3) n f k s h m e)
      (lk chgE (nat_lit 3) n f k s h m e)) (.ret (.lit (.bool false))) (.ret (.lit (.bool true)))))))))))))))))))))) := by kernel_rfl
theorem chgN_le (w n : Nat) (f : Nat → R3) (k s h : Int) (m : Nat) (e : Nat → R1) : chgN w n f k s h m e ≤ 2 := by
  unfold chgN
  split
  · rename_i hc
    unfold chgE at hc
    split at hc
    · rename_i hd
      exact absurd hc hd
    · rename_i hd
      have := (chD_zero.1 (Classical.byContradiction hd)).1.1
      omega
  · omega
theorem DomainChanges_ok : ConOK P 16 c_DomainChanges := con_of (allOKL mixed d13_ok lDC2_ok) 10 16 fun args r h => by
  unfold c_DomainChanges at h
  split at h
  · rename_i n f k s h' m e
    obtain ⟨p1, p2⟩ := (T.is_ask h).1
    have h := (T.is_ask h).2
    obtain rfl := T.is_ret h
    rw [t_DomainChanges]
    have a : ∀ w, chgN w n f k s h' m e ≤ 9223372036854775807 := fun w => by have := chgN_le w n f k s h' m e; omega
    simp only [lk_eq, eqD_self]
    simp [T.All, p1, p2, a, U.eq_eq, U.ne_eq, U.beq_eq, U.not_eq]
    try exact p2
  · exact h.elim
end Go.RX.Span

