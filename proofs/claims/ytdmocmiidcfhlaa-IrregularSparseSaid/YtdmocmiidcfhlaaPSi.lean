/- Sparse domains: short, few, same. -/
import Derived.Test.YtdmocmiidcfhlaaPSh
set_option linter.unusedVariables false
set_option linter.unusedSimpArgs false
set_option maxRecDepth 100000
namespace Go.RX.Span
open Go Go.RX
attribute [local irreducible] sx conB

theorem anyB_t {n : Nat} {f : Nat → R3} : anyB n f = true ↔ ∃ i, i < n ∧ longB (f i) = true := by
  unfold anyB
  rw [List.any_eq_true]
  exact ⟨fun ⟨i, h1, h2⟩ => ⟨i, List.mem_range.1 h1, h2⟩, fun ⟨i, h1, h2⟩ => ⟨i, List.mem_range.2 h1, h2⟩⟩
structure XIx where
  (n : Nat) (f : Nat → R3) (i : Nat)
noncomputable abbrev VIx (q : XIx) : Few := (slIx q.n q.f q.i, [])
noncomputable def O1Ix (q : XIx) : Ex × Few := (.ret, ([.any, .any, .lit (.int .i64 ((fstI q.n q.f : Nat) : Int)), .any, .any], []))
noncomputable def O2Ix : Ex × Few := (.exit 0, ([.any, .any, .any, .any, .any], []))
def PhiIx (n0 : Nat) (q : XIx) : Prop := PreIx n0 q.n q.f ∧ q.i ≤ q.n ∧ ∀ j, j < q.i → longB (q.f j) = false
def ZIx (q : XIx) (o : Ex × Few) : Prop := (anyB q.n q.f = true → o = O1Ix q) ∧ (anyB q.n q.f = false → o = O2Ix)
theorem wIx {vs vs' : List SV} {m : Mem} (h : RlL (idR 0) vs vs') : Wk 19 [0,1,4,7,8] 0 (vs, m) (vs', []) := wk_of (idR 0) rfl (Nat.zero_le _) (fun b hb => by omega) h trivial
theorem roundIx (n0 : Nat) (q : XIx) (hq : PhiIx n0 q) : ((sx ESh [] n0 (loopOf P 136 2) (mkS 19 [0,1,4,7,8] (VIx q).1, (VIx q).2)).bind (proj 19 [0,1,4,7,8])).All fun r => match r.1 with
      | .normal => ∃ q', PhiIx n0 q' ∧ q'.n - q'.i < q.n - q.i ∧ Wk 19 [0,1,4,7,8] n0 r.2 (VIx q') ∧ ∀ o, ZIx q' o → ZIx q o
      | e => ∃ s, ZIx q (e, s) ∧ Wk 19 [0,1,4,7,8] n0 r.2 s := by
  obtain ⟨n, f, i⟩ := q
  obtain ⟨hp, hi, hall⟩ := hq
  have hp : PreIx n0 n f := hp
  have hi : i ≤ n := hi
  have hall : ∀ j, j < i → longB (f j) = false := hall
  have hp' := hp
  obtain ⟨h0, hn, hr⟩ := hp'
  subst h0
  refine T.all_of_eq (t_Ix n f (i : Int)) ?_
  have st : ∀ (v : SV), RlL (idR 0) [.row [.int .i64, .int .i64, .int .i64] n f, .fn (.func 106) [] [], v, .lit (.int .i64 (n : Int)), .lit (.int .i64 ((i + 1 : Nat) : Int))] (slIx n f ((i + 1 : Nat) : Int)) := fun v => ⟨⟨rfl, sameRow_refl _ _⟩, ⟨rfl, trivial, trivial⟩, rl_any _, rfl, rfl, trivial⟩
  by_cases hlt : i < n
  · rw [add1p (j := i) (by omega), tnH]
    simp only [lk_eq]
    have next : longB (f i) = false → ∀ (v : SV) (m : Mem), ∃ q', PhiIx 0 q' ∧ q'.n - q'.i < n - i ∧ Wk 19 [0,1,4,7,8] 0 ([.row [.int .i64, .int .i64, .int .i64] n f, .fn (.func 106) [] [], v, .lit (.int .i64 (n : Int)), .lit (.int .i64 ((i + 1 : Nat) : Int))], m) (VIx q') ∧ ∀ o, ZIx q' o → ZIx ⟨n, f, i⟩ o := fun hb v m =>
      ⟨⟨n, f, i + 1⟩, ⟨hp, hlt, fun j hj => by
        have hj : j < i + 1 := hj
        by_cases ej : j = i
        · subst ej; exact hb
        · exact hall j (by omega)⟩, (show n - (i + 1) < n - i by omega), wIx (st v), fun o ho => ho⟩
    refine ⟨fun _ => ⟨⟨by omega, by omega⟩, hr i hlt, fun g => ⟨hr i hlt, fun g2 => ?_, fun g2 => ?_⟩, fun g => ?_⟩, fun g => absurd (U.lt_f.mp g) (by simp only [Int.ofNat_eq_natCast]; omega)⟩
    · have hl : longB (f i) = true := decide_eq_true ⟨U.eq_t.mp g, by have := U.gt_t.mp g2; exact this⟩
      have ha : anyB n f = true := anyB_t.2 ⟨i, hlt, hl⟩
      have hf := fstI_eq hlt hl hall
      refine ⟨(O1Ix ⟨n, f, i⟩).2, ⟨fun _ => rfl, fun h => by have h : anyB n f = false := h; rw [ha] at h; cases h⟩, wIx ⟨rl_any _, rl_any _, ?_, rl_any _, rl_any _, trivial⟩⟩
      show Value.int .i64 (i : Int) = Value.int .i64 ((fstI n f : Nat) : Int)
      rw [hf]
    · have hl : longB (f i) = false := decide_eq_false fun h => by have := U.gt_f.mp g2; omega
      exact next hl _ _
    · have hl : longB (f i) = false := decide_eq_false fun h => U.eq_f.mp g h.1
      exact next hl _ _
  · obtain rfl : i = n := by omega
    have ha : anyB i f = false := by
      cases hb : anyB i f
      · rfl
      · obtain ⟨j, h1, h2⟩ := anyB_t.1 hb
        rw [hall j h1] at h2; cases h2
    refine ⟨fun g => absurd (U.lt_t.mp g) (by simp only [Int.ofNat_eq_natCast]; omega), fun _ => ⟨O2Ix.2, ⟨(fun h => by have h : anyB i f = true := h; rw [ha] at h; cases h), fun _ => rfl⟩, wIx ⟨rl_any _, rl_any _, rl_any _, rl_any _, rl_any _, trivial⟩⟩⟩
theorem loopIx : LoopOK P (loopOf P 136 2) (few 19 [0,1,4,7,8] gIx) :=
  loop_few (E := ESh) mixed ESh_ok loopsOK_none 19 [0,1,4,7,8] (X := XIx) gIx (fun _ x => VIx x) PhiIx (fun q => q.n - q.i) (fun _ x o => ZIx x o)
    (fun n0 st r hh => by
      unfold gIx at hh
      split at hh
      · rename_i n0 n f g s2 N z
        obtain ⟨hp, rfl, rfl, rfl⟩ := (T.is_ask hh).1
        have hb := (T.is_ask hh).2
        rw [lk_eq] at hp
        have h0 := hp.1
        subst h0
        refine ⟨⟨n, f, 0⟩, ⟨hp, Nat.zero_le _, fun j hj => absurd hj (Nat.not_lt_zero j)⟩, wIx ⟨⟨rfl, sameRow_refl _ _⟩, ⟨rfl, trivial, trivial⟩, rl_any _, rfl, rfl, trivial⟩, fun o ho => ?_⟩
        rcases hb with ⟨he, hb⟩ | ⟨he, hb⟩
        · rw [lk_eq] at he
          obtain rfl := T.is_ret hb
          rw [ho.1 he]; simp only [lk_eq]; rfl
        · rw [lk_eq] at he
          obtain rfl := T.is_ret hb
          exact ho.2 he
      · exact hh.elim)
    roundIx
theorem lIx_ok : ∀ p ∈ lIx, LoopsOK P p.2 (bodyOf P p.1) := by
  intro p hp
  simp only [lIx, List.mem_singleton] at hp
  subst hp
  refine loopsOK_of (by kernel_rfl) fun k g hk => ?_
  simp only [List.mem_singleton, Prod.mk.injEq, LoopC.sum.injEq] at hk
  obtain ⟨rfl, rfl⟩ := hk
  exact loopIx
theorem lb_eq {x y : Bool} (h : x = y) : SV.lit (.bool x) = SV.lit (.bool y) := by rw [h]
theorem CF_ok : ConOK P 105 c_CF := con_of (allOKL mixed kSh_ok lIx_ok) 10 105 fun args r hh => by
  unfold c_CF at hh
  split at hh
  · rename_i n f g
    obtain ⟨hp, rfl⟩ := (T.is_ask hh).1
    obtain rfl := T.is_ret (T.is_ask hh).2
    rw [lk_eq] at hp
    refine T.all_of_eq (t_CF n f) ?_
    simp only [lk_eq]
    exact ⟨⟨hp, trivial, trivial, trivial⟩, fun g => lb_eq ((U.ge_t.mpr (Int.natCast_nonneg _)).trans g.symm), fun g => lb_eq g.symm⟩
  · exact hh.elim
theorem kS2_ok : ∀ p ∈ kS2, ConOK P p.1 p.2 := by
  intro p hp
  rcases List.mem_cons.1 hp with rfl | hp
  · exact CF_ok
  · exact kSh_ok p hp
theorem short_ok : ConOK P 57 c_short := con_of (allOK mixed kS2_ok) 10 57 fun args r hh => by
  unfold c_short at hh
  split at hh
  · rename_i n f k s h
    have hp := (T.is_ask hh).1
    obtain rfl := T.is_ret (T.is_ask hh).2
    refine T.all_of_eq (t_short n f k s h) ?_
    simp only [lk_eq, Int.ofNat_eq_natCast]
    refine ⟨fun g => ⟨⟨⟨rfl, by have := U.le_t.mp g; omega, hp⟩, trivial⟩, lb_eq ?_⟩, fun g => lb_eq ?_⟩
    · have g := U.le_t.mp g
      unfold shB
      rw [decide_eq_true (show n ≤ 10 by omega), U.not_eq]; rfl
    · have g := U.le_f.mp g
      unfold shB
      rw [decide_eq_false (show ¬ n ≤ 10 by omega)]; rfl
  · exact hh.elim
theorem kS3_ok : ∀ p ∈ kS3, ConOK P p.1 p.2 := by
  intro p hp
  rcases List.mem_cons.1 hp with rfl | hp
  · exact short_ok
  · exact kS2_ok p hp
theorem few_ok : ConOK P 9 c_few := con_of (allOK mixed kS3_ok) 10 9 fun args r hh => by
  unfold c_few at hh
  split at hh
  · rename_i n f k s h m e
    have hp := (T.is_ask hh).1
    obtain rfl := T.is_ret (T.is_ask hh).2
    refine T.all_of_eq (t_few n f k s h m e) ?_
    simp only [lk_eq, Int.ofNat_eq_natCast]
    refine ⟨hp, fun g => lb_eq ?_, fun g => lb_eq ?_⟩
    · unfold fwB
      rw [g, U.le_eq, Bool.true_and]
      exact decide_eq_decide.2 (by omega)
    · unfold fwB; rw [g]; rfl
  · exact hh.elim
theorem same_ok : ConOK P 19 c_same := con_of (allOK mixed kS3_ok) 10 19 fun args r hh => by
  unfold c_same at hh
  split at hh
  · rename_i n f k s h m e n1 f1 k1 s1 h1 m1 e1
    obtain ⟨p1, p2⟩ := (T.is_ask hh).1
    obtain rfl := T.is_ret (T.is_ask hh).2
    refine T.all_of_eq (t_same n f k s h m e n1 f1 k1 s1 h1 m1 e1) ?_
    simp only [lk_eq]
    refine ⟨p1, fun g => ⟨fun g2 => ⟨p2, lb_eq ?_⟩, fun g2 => lb_eq ?_⟩, fun g => lb_eq ?_⟩
    · have g2 := U.andb_t.mp g2
      have g3 := U.andb_t.mp g2.2
      unfold smB
      rw [g, decide_eq_true (show k = k1 ∧ s = s1 ∧ h = h1 from ⟨U.eq_t.mp g2.1, U.eq_t.mp g3.1, U.eq_t.mp g3.2⟩)]; rfl
    · unfold smB
      rw [decide_eq_false (fun hx => by
        have : U.andb (U.eq k k1) (U.andb (U.eq s s1) (U.eq h h1)) = true := U.andb_t.mpr ⟨U.eq_t.mpr hx.1, U.andb_t.mpr ⟨U.eq_t.mpr hx.2.1, U.eq_t.mpr hx.2.2⟩⟩
        rw [this] at g2; cases g2)]
      cases eqR3 n f n1 f1 <;> rfl
    · unfold smB; rw [g]; rfl
  · exact hh.elim
end Go.RX.Span

/- Sparse domains: the law of rows: what it calls. -/
set_option linter.unusedVariables false
set_option linter.unusedSimpArgs false
set_option maxRecDepth 100000
namespace Go.RX.Span
open Go Go.RX
attribute [local irreducible] sx conB

end Go.RX.Span

/- Sparse domains: the law of rows: the walk. -/
set_option linter.unusedVariables false
set_option linter.unusedSimpArgs false
set_option maxRecDepth 100000
namespace Go.RX.Span
open Go Go.RX
attribute [local irreducible] sx conB

end Go.RX.Span

/- Sparse domains: the law of rows. -/
set_option linter.unusedVariables false
set_option linter.unusedSimpArgs false
set_option maxRecDepth 100000
namespace Go.RX.Span
open Go Go.RX
attribute [local irreducible] sx conB

theorem eqR_self (n : Nat) (f : Nat → R1) : eqR n f n f = true := eqR_t.2 ⟨rfl, fun _ _ => rfl⟩
theorem eqR3_self (n : Nat) (f : Nat → R3) : eqR3 n f n f = true := eqR3_t.2 ⟨rfl, fun _ _ => ⟨rfl, rfl, rfl⟩⟩
theorem smB_self (n : Nat) (f : Nat → R3) (k s h : Int) (m : Nat) (e : Nat → R1) : smB n f k s h m e n f k s h m e = true := by
  unfold smB
  rw [eqR3_self, eqR_self, decide_eq_true (show k = k ∧ s = s ∧ h = h from ⟨rfl, rfl, rfl⟩)]; rfl
theorem zn_le {E : Int} {N : Nat} {B : Nat} (h : E = 0 → N ≤ B) : zn E N ≤ B := by
  unfold zn
  by_cases g : E = 0
  · rw [if_pos g]; exact h g
  · rw [if_neg g]; exact Nat.zero_le _
theorem fw_is {n : Nat} {f : Nat → R3} {m : Nat} (h : fwB n f m = true) : n ≤ 10 ∧ m ≤ 100 ∧ anyB n f = false := by
  unfold fwB shB at h
  simp only [Bool.and_eq_true, decide_eq_true_eq, Bool.not_eq_true'] at h
  exact ⟨h.1.1, h.2, h.1.2⟩
end Go.RX.Span

/- Sparse domains: Indices, Position: the states. -/
set_option linter.unusedVariables false
set_option linter.unusedSimpArgs false
set_option maxRecDepth 100000
namespace Go.RX.Span
open Go Go.RX
attribute [local irreducible] sx conB

section
variable (n : Nat) (f : Nat → R3) (k s h : Int) (m : Nat) (e : Nat → R1)
/-- The indices of a sparse domain. -/
def ixF (i : Nat) : RL := ((dnN n f k s h (nv e i), dnF n f (nv e i)), ())
end
def PreIn (n0 : Nat) (n : Nat) (f : Nat → R3) (m : Nat) (e : Nat → R1) : Prop := n0 = 0 ∧ Row64 n f ∧ m ≤ 5000 ∧ ∀ i, i < m → I64 (nv e i)
noncomputable abbrev bxIn (n : Nat) (f : Nat → R3) (k s h : Int) (m : Nat) (e : Nat → R1) (t : TypeId) : Blk := .cells [.row [.int .i64, .int .i64, .int .i64] n f, .lit (.int .i64 k), .lit (.int .i64 s), .lit (.int .i64 h), .row [.int .i64] m e] t
noncomputable abbrev slI1 (u : Bool) (N : Nat) (m : Nat) (e : Nat → R1) (i : Int) : List SV := [.ptr 0 0, .own u 1 N, .any, .any, .row [.int .i64] m e, .lit (.int .i64 (m : Int)), .lit (.int .i64 i)]
noncomputable abbrev memI1 (n : Nat) (f : Nat → R3) (k s h : Int) (m : Nat) (e : Nat → R1) (u : Bool) (N : Nat) (G : Nat → RL) : Mem := [(0, some (bxIn n f k s h m e 38)), (0, some (.row u N [.sl [.int .i64]] G 27))]
noncomputable def gI1 : Nat → Few → T (Ex × Few)
  | n0, ([.ptr p q, .lit (.slice none 0 0), _, _, .row [.int .i64] m' e', .lit (.int .i64 M'), .ki .i64 z], [(_, some (.cells [.row [.int .i64, .int .i64, .int .i64] n f, .lit (.int .i64 k), .lit (.int .i64 s), .lit (.int .i64 h), .row [.int .i64] m e] t))]) =>
    .ask (lk PreIn n0 n f m e ∧ p = 0 ∧ q = 0 ∧ m' = m ∧ e' = e ∧ M' = (m : Int) ∧ z = 0 ∧ t = 38)
      (.ret (.exit 0, ([.ptr 0 0, .own (U.isz m) 1 m, .any, .any, .any, .any, .any], memI1 n f k s h m e (U.isz m) m (lk ixF n f k s h e))))
  | _, _ => .stuck 1
noncomputable abbrev slI2 (b N : Nat) (i : Int) : List SV := [.ptr 0 0, .own false b N, .any, .any, .lit (.int .i64 i)]
noncomputable abbrev memI2 (n : Nat) (f : Nat → R3) (k s h : Int) (m : Nat) (e : Nat → R1) (N : Nat) (G : Nat → RL) : Mem := [(0, some (bxIn n f k s h m e 29)), (0, some (.row false N [.sl [.int .i64]] G 27))]
noncomputable def gI2 : Nat → Few → T (Ex × Few)
  | n0, ([.ptr p q, .own false b 0, _, _, .ki .i64 z], [(_, some (.cells [.row [.int .i64, .int .i64, .int .i64] n f, .lit (.int .i64 k), .lit (.int .i64 s), .lit (.int .i64 h), .row [.int .i64] m e] t)), (_, some (.row false 0 [.sl [.int .i64]] G t'))]) =>
    .ask (lk PreIn n0 n f m e ∧ p = 0 ∧ q = 0 ∧ b = 1 ∧ z = 0 ∧ t = 29 ∧ t' = 27)
      (.ret (.exit 0, ([.ptr 0 0, .own false 1 m, .any, .any, .any], memI2 n f k s h m e m (lk ixF n f k s h e))))
  | _, _ => .stuck 1
noncomputable abbrev lIn : List (Nat × Loops) := [(22, [(6, .sum (few 35 [1,5,8,9,16,17,18] gI1))]), (23, [(6, .sum (few 38 [1,5,7,8,6] gI2))])] --%K
noncomputable abbrev kIn : List (Nat × Con) := [(28, c_SpCheck), (29, c_SpCheck), (68, c_DNth), (69, c_DNth), (31, c_DPosition), (71, c_DPosition), (73, c_BS)] --%K
theorem kIn_ok : ∀ p ∈ kIn, ConOK P p.1 p.2 := by
  intro p hp
  simp only [kIn, List.mem_cons, List.not_mem_nil, or_false] at hp
  rcases hp with rfl | rfl | rfl | rfl | rfl | rfl | rfl
  · exact SpCheck_ok
  · exact SpQCheck_ok
  · exact DNth_ok
  · exact qNth_ok
  · exact DPosition_ok
  · exact qPos_ok
  · exact BS_ok
noncomputable abbrev EIn : Env := ⟨P, conOf kIn, scall P (conOf kIn) noLoops 10⟩
theorem EIn_ok : EnvOK EIn := envOK (allOK mixed kIn_ok) 10
noncomputable def c_Indices : Con := fun args => match args with
  | [.agg [.row [.int .i64, .int .i64, .int .i64] n f, .lit (.int .i64 k), .lit (.int .i64 s), .lit (.int .i64 h), .row [.int .i64] m e]] => .ask (Row64 n f)
    (.ret (.tup [.row [.sl [.int .i64]] (lk zn (lk spE n f k s h m e) m) (lk ixF n f k s h e), .lit (.int .i64 (lk spE n f k s h m e))]))
  | _ => .stuck 1
/-! Position. -/
section
variable (n : Nat) (f : Nat → R3) (k s h : Int) (m : Nat) (e : Nat → R1) (M : Nat) (x : Nat → R1)
noncomputable def spH : Bool := open Classical in decide (spE n f k s h m e = 0 ∧ hasD n f k s h M x = true ∧ bsB m e (posD n f k s h M x) = true)
noncomputable def spP : Int := if spH n f k s h m e M x = true then ((bsI m e (posD n f k s h M x) : Nat) : Int) else 0
end
noncomputable def c_SpPos : Con := fun args => match args with
  | [.agg [.row [.int .i64, .int .i64, .int .i64] n f, .lit (.int .i64 k), .lit (.int .i64 s), .lit (.int .i64 h), .row [.int .i64] m e], .row [.int .i64] M x] => .ask (Row64 n f)
    (.ret (.tup [.lit (.int .i64 (lk spP n f k s h m e M x)), .lit (.bool (lk spH n f k s h m e M x))]))
  | _ => .stuck 1
noncomputable abbrev slQp (p : Int) (ok : Bool) (i : Int) : List SV := [.ptr 0 0, .any, .any, .lit (.int .i64 p), .lit (.bool ok), .lit (.int .i64 i)]
noncomputable abbrev memQp (n : Nat) (f : Nat → R3) (k s h : Int) (m : Nat) (e : Nat → R1) : Mem := [(0, some (bxIn n f k s h m e 29))]
noncomputable def inB (m : Nat) (e : Nat → R1) (p : Int) (ok : Bool) : Bool := ok && bsB m e p
def PreQp (n0 : Nat) (m : Nat) (e : Nat → R1) : Prop := n0 = 0 ∧ m ≤ 5000 ∧ BsAsk m e
noncomputable def gQp : Nat → Few → T (Ex × Few)
  | n0, ([.ptr p0 q0, _, _, .lit (.int .i64 p), .lit (.bool ok), .ki .i64 z], [(_, some (.cells [.row [.int .i64, .int .i64, .int .i64] n f, .lit (.int .i64 k), .lit (.int .i64 s), .lit (.int .i64 h), .row [.int .i64] m e] t))]) =>
    .ask (lk PreQp n0 m e ∧ p0 = 0 ∧ q0 = 0 ∧ z = 0 ∧ t = 29)
      (.br (lk inB m e p ok) (.ret (.ret, ([.any, .lit (.int .i64 ((lk bsI m e p : Nat) : Int)), .kb true, .any, .any, .any], [(0, none)]))) (.ret (.exit 0, ([.any, .any, .any, .any, .any, .any], [(0, none)]))))
  | _, _ => .stuck 1
noncomputable abbrev lQp : List (Nat × Loops) := [(27, [(5, .sum (few 37 [2,4,5,6,7,8] gQp))])] --%K
/-! Long indices. -/
def lgB (x : RL) : Bool := decide (10 < x.1.1)
def anyL (M : Nat) (F : Nat → RL) : Bool := (List.range M).any fun i => lgB (F i)
open Classical in
noncomputable def fstL (M : Nat) (F : Nat → RL) : Nat := if h : ∃ i, i < M ∧ lgB (F i) = true ∧ ∀ j, j < i → lgB (F j) = false then h.choose else 0
noncomputable abbrev slIl (M : Nat) (F : Nat → RL) (i : Int) : List SV := [.row [.sl [.int .i64]] M F, .fn (.func 21) [] [], .any, .lit (.int .i64 (M : Int)), .lit (.int .i64 i)]
noncomputable def gIl : Nat → Few → T (Ex × Few)
  | n0, ([.row [.sl [.int .i64]] M F, .fn (.func g) [] [], _, .lit (.int .i64 N), .ki .i64 z], []) =>
    .ask (n0 = 0 ∧ M ≤ 100 ∧ g = 21 ∧ N = (M : Int) ∧ z = 0) (.br (lk anyL M F) (.ret (.ret, ([.any, .any, .lit (.int .i64 ((lk fstL M F : Nat) : Int)), .any, .any], []))) (.ret (.exit 0, ([.any, .any, .any, .any, .any], []))))
  | _, _ => .stuck 1
noncomputable abbrev lIl : List (Nat × Loops) := [(67, [(2, .sum (few 19 [0,1,4,7,8] gIl))])] --%K
noncomputable def c_CFl : Con := fun args => match args with
  | [.row [.sl [.int .i64]] M F, .fn (.func g) [] []] => .ask (M ≤ 100 ∧ g = 21) (.ret (.lit (.bool (lk anyL M F))))
  | _ => .stuck 1
/-! Lists of lists compared. -/
def SameL (M : Nat) (F G : Nat → RL) : Prop := M ≤ 100000 ∧ ∀ i, i < M → F i = G i ∧ (F i).1.1 ≤ 100000
noncomputable abbrev slEl (M : Nat) (F G : Nat → RL) (i : Int) : List SV := [.row [.sl [.int .i64]] M G, .fn (.func 14) [] [], .row [.sl [.int .i64]] M F, .lit (.int .i64 (M : Int)), .lit (.int .i64 i)]
noncomputable def gEl : Nat → Few → T (Ex × Few)
  | n0, ([.row [.sl [.int .i64]] m G, .fn (.func g) [] [], .row [.sl [.int .i64]] M F, .lit (.int .i64 N), .ki .i64 z], []) =>
    .ask (n0 = 0 ∧ m = M ∧ lk SameL M F G ∧ g = 14 ∧ N = (M : Int) ∧ z = 0) (.ret (.exit 0, ([.any, .any, .any, .any, .any], [])))
  | _, _ => .stuck 1
noncomputable abbrev lEl : List (Nat × Loops) := [(77, [(4, .sum (few 32 [1,2,15,16,17] gEl))])] --%K
noncomputable abbrev kEq1 : List (Nat × Con) := [(14, c_Equal)] --%K
theorem kEq1_ok : ∀ p ∈ kEq1, ConOK P p.1 p.2 := by
  intro p hp
  simp only [kEq1, List.mem_singleton] at hp
  subst hp
  exact Equal_ok
noncomputable abbrev EEq1 : Env := ⟨P, conOf kEq1, scall P (conOf kEq1) noLoops 10⟩
theorem EEq1_ok : EnvOK EEq1 := envOK (allOK mixed kEq1_ok) 10
noncomputable def c_lists : Con := fun args => match args with
  | [.row [.sl [.int .i64]] M F, .row [.sl [.int .i64]] M' F'] => .ask (M' = M ∧ lk SameL M F F') (.ret (.lit (.bool true)))
  | _ => .stuck 1
end Go.RX.Span

/- Sparse domains: Indices, Position: the walks. -/
set_option linter.unusedVariables false
set_option linter.unusedSimpArgs false
set_option maxRecDepth 100000
namespace Go.RX.Span
open Go Go.RX
attribute [local irreducible] sx conB

--%R < ↑(\w+)\b => < ((\1 : Nat) : Int)
--%R ↑(\w+) (=|≤) => ((\1 : Nat) : Int) \2
set_option maxRecDepth 100000 in
theorem t_I1 (n : Nat) (f : Nat → R3) (k s h : Int) (m : Nat) (e : Nat → R1) (u : Bool) (N : Nat) (G : Nat → RL) (i : Int) : (sx EIn [] 0 (loopOf P 22 6) (mkS 35 [1,5,8,9,16,17,18] (slI1 u N m e i), memI1 n f k s h m e u N G)).bind (proj 35 [1,5,8,9,16,17,18]) =
    T.br (U.lt i (Int.ofNat m)) (.ask ((0 : Int) ≤ i ∧ i < ((m : Nat) : Int)) (.ask (Row64 n f ∧ I64 (e (U.toNat i)).1) (.ask ((N + (1 : Nat)) * nat_lit 24 ≤ nat_lit 140737488351232)
      (.ret (Ex.normal, [SV.ptr (nat_lit 0) (nat_lit 0), SV.own false (nat_lit 3) (N.add (nat_lit 1)), .row [.int .i64] (lk dnN n f k s h (e (U.toNat i)).1) (lk dnF n f (e (U.toNat
      i)).1), .lit (.int .i64 (lk dnE n f k s h (e (U.toNat i)).1)), .row [.int .i64] m e, .lit (.int .i64 (Int.ofNat m)), .lit (.int .i64 (U.add .i64 i (1 : Int)))], [(nat_lit 0, some
      (Blk.cells [.row [.int .i64, .int .i64, .int .i64] n f, .lit (.int .i64 k), .lit (.int .i64 s), .lit (.int .i64 h), .row [.int .i64] m e] (nat_lit 38))), (nat_lit 1, none), (nat_lit
      0, some (Blk.cells [.row [.int .i64] (lk dnN n f k s h (e (U.toNat i)).1) (lk dnF n f (e (U.toNat i)).1)] (nat_lit 27))), (nat_lit 0, some (Blk.row false (N.add (nat_lit 1)) [.sl
      [.int .i64]] (U.cat N G fun x => ((lk dnN n f k s h (e (U.toNat i)).1, lk dnF n f (e (U.toNat i)).1), PUnit.unit)) (nat_lit 27)))]))))) (.ret (Ex.exit (nat_lit 0), [SV.ptr (nat_lit
      0) (nat_lit 0), SV.own u (nat_lit 1) N, SV.any, SV.any, .row [.int .i64] m e, .lit (.int .i64 (Int.ofNat m)), .lit (.int .i64 i)], [(nat_lit 0, some (Blk.cells [.row [.int .i64,
      .int .i64, .int .i64] n f, .lit (.int .i64 k), .lit (.int .i64 s), .lit (.int .i64 h), .row [.int .i64] m e] (nat_lit 38))), (nat_lit 0, some (Blk.row u N [.sl [.int .i64]] G
      (nat_lit 27)))])) := by kernel_rfl
set_option maxRecDepth 100000 in
theorem t_I2 (n : Nat) (f : Nat → R3) (k s h : Int) (m : Nat) (e : Nat → R1) (N : Nat) (G : Nat → RL) (i : Int) : (sx EIn [] 0 (loopOf P 23 6) (mkS 38 [1,5,7,8,6] (slI2 1 N i), memI2 n f k s h m e N G)).bind (proj 38 [1,5,7,8,6]) =
    T.br (U.lt i (Int.ofNat m)) (.ask ((0 : Int) ≤ i ∧ i < ((m : Nat) : Int)) (.ask (Row64 n f ∧ I64 (e (U.toNat i)).1) (.ask ((N + (1 : Nat)) * nat_lit 24 ≤ nat_lit 140737488351232)
      (.ret (Ex.normal, [SV.ptr (nat_lit 0) (nat_lit 0), SV.own false (nat_lit 3) (N.add (nat_lit 1)), .row [.int .i64] (lk dnN n f k s h (e (U.toNat i)).1) (lk dnF n f (e (U.toNat
      i)).1), .lit (.int .i64 (lk dnE n f k s h (e (U.toNat i)).1)), .lit (.int .i64 (U.add .i64 i (1 : Int)))], [(nat_lit 0, some (Blk.cells [.row [.int .i64, .int .i64, .int .i64] n f,
      .lit (.int .i64 k), .lit (.int .i64 s), .lit (.int .i64 h), .row [.int .i64] m e] (nat_lit 29))), (nat_lit 1, none), (nat_lit 0, some (Blk.cells [.row [.int .i64] (lk dnN n f k s h
      (e (U.toNat i)).1) (lk dnF n f (e (U.toNat i)).1)] (nat_lit 27))), (nat_lit 0, some (Blk.row false (N.add (nat_lit 1)) [.sl [.int .i64]] (U.cat N G fun x => ((lk dnN n f k s h (e
      (U.toNat i)).1, lk dnF n f (e (U.toNat i)).1), PUnit.unit)) (nat_lit 27)))]))))) (.ret (Ex.exit (nat_lit 0), [SV.ptr (nat_lit 0) (nat_lit 0), SV.own false (nat_lit 1) N, SV.any,
      SV.any, .lit (.int .i64 i)], [(nat_lit 0, some (Blk.cells [.row [.int .i64, .int .i64, .int .i64] n f, .lit (.int .i64 k), .lit (.int .i64 s), .lit (.int .i64 h), .row [.int .i64] m
      e] (nat_lit 29))), (nat_lit 0, some (Blk.row false N [.sl [.int .i64]] G (nat_lit 27)))])) := by kernel_rfl
set_option maxRecDepth 100000 in
theorem t_Qp (p : Int) (ok : Bool) (n : Nat) (f : Nat → R3) (k s h : Int) (m : Nat) (e : Nat → R1) (i : Int) : (sx EIn [] 0 (loopOf P 27 5) (mkS 37 [2,4,5,6,7,8] (slQp p ok i), memQp n f k s h m e)).bind (proj 37 [2,4,5,6,7,8]) =
    T.br (U.lt i (Int.ofNat m)) (.br ok (.ask ((0 : Int) ≤ i ∧ i < ((m : Nat) : Int)) (.br (U.eq (e (U.toNat i)).1 p) (.ret (Ex.ret, [SV.ptr (nat_lit 0) (nat_lit 0), .lit (.int .i64 i),
      SV.kb true, .lit (.int .i64 p), .lit (.bool ok), .lit (.int .i64 i)], [(nat_lit 0, some (Blk.cells [.row [.int .i64, .int .i64, .int .i64] n f, .lit (.int .i64 k), .lit (.int .i64
      s), .lit (.int .i64 h), .row [.int .i64] m e] (nat_lit 29)))])) (.ret (Ex.normal, [SV.ptr (nat_lit 0) (nat_lit 0), SV.any, SV.any, .lit (.int .i64 p), .lit (.bool ok), .lit (.int
      .i64 (U.add .i64 i (1 : Int)))], [(nat_lit 0, some (Blk.cells [.row [.int .i64, .int .i64, .int .i64] n f, .lit (.int .i64 k), .lit (.int .i64 s), .lit (.int .i64 h), .row [.int
      .i64] m e] (nat_lit 29)))])))) (.ret (Ex.exit (nat_lit 0), [SV.ptr (nat_lit 0) (nat_lit 0), SV.any, SV.any, .lit (.int .i64 p), .lit (.bool ok), .lit (.int .i64 i)], [(nat_lit 0,
      some (Blk.cells [.row [.int .i64, .int .i64, .int .i64] n f, .lit (.int .i64 k), .lit (.int .i64 s), .lit (.int .i64 h), .row [.int .i64] m e] (nat_lit 29)))]))) (.ret (Ex.exit
      (nat_lit 0), [SV.ptr (nat_lit 0) (nat_lit 0), SV.any, SV.any, .lit (.int .i64 p), .lit (.bool ok), .lit (.int .i64 i)], [(nat_lit 0, some (Blk.cells [.row [.int .i64, .int .i64,
      .int .i64] n f, .lit (.int .i64 k), .lit (.int .i64 s), .lit (.int .i64 h), .row [.int .i64] m e] (nat_lit 29)))])) := by kernel_rfl
set_option maxRecDepth 100000 in
theorem t_Il (M : Nat) (F : Nat → RL) (i : Int) : (sx E0 [] 0 (loopOf P 67 2) (mkS 19 [0,1,4,7,8] (slIl M F i), [])).bind (proj 19 [0,1,4,7,8]) =
    T.br (U.lt i (Int.ofNat M)) (.ask ((0 : Int) ≤ i ∧ i < ((M : Nat) : Int)) (.br (U.gt (Int.ofNat (F (U.toNat i)).fst.1) (10 : Int)) (.ret (Ex.ret, [.row [.sl [.int .i64]] M F, SV.fn
      (Fn.func (nat_lit 21)) [] [], .lit (.int .i64 i), .lit (.int .i64 (Int.ofNat M)), .lit (.int .i64 i)], [])) (.ret (Ex.normal, [.row [.sl [.int .i64]] M F, SV.fn (Fn.func (nat_lit
      21)) [] [], SV.any, .lit (.int .i64 (Int.ofNat M)), .lit (.int .i64 (U.add .i64 i (1 : Int)))], [])))) (.ret (Ex.exit (nat_lit 0), [.row [.sl [.int .i64]] M F, SV.fn (Fn.func
      (nat_lit 21)) [] [], SV.any, .lit (.int .i64 (Int.ofNat M)), .lit (.int .i64 i)], [])) := by kernel_rfl
set_option maxRecDepth 100000 in
theorem t_El (M : Nat) (F G : Nat → RL) (i : Int) : (sx EEq1 [] 0 (loopOf P 77 4) (mkS 32 [1,2,15,16,17] (slEl M F G i), [])).bind (proj 32 [1,2,15,16,17]) =
    T.br (U.lt i (Int.ofNat M)) (.ask ((0 : Int) ≤ i ∧ i < ((M : Nat) : Int)) (.ask ((0 : Int) ≤ i ∧ i < ((M : Nat) : Int)) (.ask ((F (U.toNat i)).fst.1 ≤ nat_lit 9223372036854775807)
      (.br (U.not (lk eqR (F (U.toNat i)).fst.1 (F (U.toNat i)).fst.2 (G (U.toNat i)).fst.1 (G (U.toNat i)).fst.2)) (.ret (Ex.ret, [.row [.sl [.int .i64]] M G, SV.fn (Fn.func (nat_lit
      14)) [] [], .row [.sl [.int .i64]] M F, .lit (.int .i64 (Int.ofNat M)), .lit (.int .i64 i)], [])) (.ret (Ex.normal, [.row [.sl [.int .i64]] M G, SV.fn (Fn.func (nat_lit 14)) [] [],
      .row [.sl [.int .i64]] M F, .lit (.int .i64 (Int.ofNat M)), .lit (.int .i64 (U.add .i64 i (1 : Int)))], [])))))) (.ret (Ex.exit (nat_lit 0), [.row [.sl [.int .i64]] M G, SV.fn
      (Fn.func (nat_lit 14)) [] [], .row [.sl [.int .i64]] M F, .lit (.int .i64 (Int.ofNat M)), .lit (.int .i64 i)], [])) := by kernel_rfl
set_option maxRecDepth 100000 in
theorem t_Ind (n : Nat) (f : Nat → R3) (k s h : Int) (m : Nat) (e : Nat → R1) : conB Go.Proofs.Try.prog (conOf kIn) (loopsOf lIn) 10 22 [.agg [.row [.int .i64, .int .i64, .int .i64] n f, .lit (.int .i64 k), .lit (.int .i64 s), .lit (.int .i64 h), .row [.int .i64] m e]] =
    T.ask (Row64 n f) (.br (U.ne (lk spE n f k s h m e) (0 : Int)) (.ret (.tup [.lit (.slice none (nat_lit 0) (nat_lit 0)), .lit (.int .i64 (lk spE n f k s h m e))])) (.ask (lk PreIn
      (nat_lit 0) n f m e ∧ (0 : Nat) = (0 : Nat) ∧ (0 : Nat) = (0 : Nat) ∧ m = m ∧ e = e ∧ ((m : Nat) : Int) = ↑m ∧ (0 : Int) = (0 : Int) ∧ (38 : Nat) = (38 : TypeId)) (.ret (.tup [.row
      [.sl [.int .i64]] m (lk ixF n f k s h e), .lit (.int .i64 0)])))) := by kernel_rfl
set_option maxRecDepth 100000 in
theorem t_QInd (n : Nat) (f : Nat → R3) (k s h : Int) (m : Nat) (e : Nat → R1) : conB Go.Proofs.Try.prog (conOf kIn) (loopsOf lIn) 10 23 [.agg [.row [.int .i64, .int .i64, .int .i64] n f, .lit (.int .i64 k), .lit (.int .i64 s), .lit (.int .i64 h), .row [.int .i64] m e]] =
    T.ask (Row64 n f) (.br (U.ne (lk spE n f k s h m e) (0 : Int)) (.ret (.tup [.lit (.slice none (nat_lit 0) (nat_lit 0)), .lit (.int .i64 (lk spE n f k s h m e))])) (.ask (lk PreIn
      (nat_lit 0) n f m e ∧ (0 : Nat) = (0 : Nat) ∧ (0 : Nat) = (0 : Nat) ∧ (1 : Nat) = (1 : Nat) ∧ (0 : Int) = (0 : Int) ∧ (29 : Nat) = (29 : TypeId) ∧ (27 : Nat) = (27 : TypeId)) (.ret
      (.tup [.row [.sl [.int .i64]] m (lk ixF n f k s h e), .lit (.int .i64 0)])))) := by kernel_rfl
set_option maxRecDepth 100000 in
theorem t_Pos (n : Nat) (f : Nat → R3) (k s h : Int) (m : Nat) (e : Nat → R1) (M : Nat) (x : Nat → R1) : conB Go.Proofs.Try.prog (conOf kIn) noLoops 10 26 [.agg [.row [.int .i64, .int .i64, .int .i64] n f, .lit (.int .i64 k), .lit (.int .i64 s), .lit (.int .i64 h), .row [.int .i64] m e], .row [.int .i64] M x] =
    T.ask (Row64 n f) (.br (U.ne (lk spE n f k s h m e) (0 : Int)) (.ret (.tup [.lit (.int .i64 0), .lit (.bool false)])) (.ask (Row64 n f) (.br (U.not (lk hasD n f k s h M x)) (.ret
      (.tup [.lit (.int .i64 0), .lit (.bool false)])) (.ask (lk BsAsk m e) (.br (U.not (lk bsB m e (lk posD n f k s h M x))) (.ret (.tup [.lit (.int .i64 0), .lit (.bool false)])) (.ret
      (.tup [.lit (.int .i64 (Int.ofNat (lk bsI m e (lk posD n f k s h M x)))), .lit (.bool true)]))))))) := by kernel_rfl
set_option maxRecDepth 100000 in
theorem t_QPos (n : Nat) (f : Nat → R3) (k s h : Int) (m : Nat) (e : Nat → R1) (M : Nat) (x : Nat → R1) : conB Go.Proofs.Try.prog (conOf kIn) (loopsOf lQp) 10 27 [.agg [.row [.int .i64, .int .i64, .int .i64] n f, .lit (.int .i64 k), .lit (.int .i64 s), .lit (.int .i64 h), .row [.int .i64] m e], .row [.int .i64] M x] =
    T.ask (Row64 n f) (.br (U.ne (lk spE n f k s h m e) (0 : Int)) (.ret (.tup [.lit (.int .i64 0), .lit (.bool false)])) (.ask (Row64 n f) (.ask (lk PreQp (nat_lit 0) m e ∧ (0 : Nat) =
      (0 : Nat) ∧ (0 : Nat) = (0 : Nat) ∧ (0 : Int) = (0 : Int) ∧ (29 : Nat) = (29 : TypeId)) (.br (lk inB m e (lk posD n f k s h M x) (lk hasD n f k s h M x)) (.ret (.tup [.lit (.int
      .i64 (Int.ofNat (lk bsI m e (lk posD n f k s h M x)))), .lit (.bool true)])) (.ret (.tup [.lit (.int .i64 0), .lit (.bool false)])))))) := by kernel_rfl
set_option maxRecDepth 100000 in
theorem t_CFl (M : Nat) (F : Nat → RL) : conB Go.Proofs.Try.prog (conOf []) (loopsOf lIl) 10 20 [.row [.sl [.int .i64]] M F, .fn (.func 21) [] []] =
    T.ask (nat_lit 0 = (0 : Nat) ∧ M ≤ (100 : Nat) ∧ (21 : FuncId) = (21 : FuncId) ∧ ((M : Nat) : Int) = ↑M ∧ (0 : Int) = (0 : Int)) (.br (lk anyL M F) (.ret (.lit (.bool (U.ge
      (Int.ofNat (lk fstL M F)) (0 : Int))))) (.ret (.lit (.bool false)))) := by kernel_rfl
set_option maxRecDepth 100000 in
theorem t_lists (M : Nat) (F F' : Nat → RL) : conB Go.Proofs.Try.prog (conOf kEq1) (loopsOf lEl) 10 30 [.row [.sl [.int .i64]] M F, .row [.sl [.int .i64]] M F'] =
    T.br (U.ne (Int.ofNat M) (Int.ofNat M)) (.ret (.lit (.bool false))) (.ask (nat_lit 0 = (0 : Nat) ∧ M = M ∧ lk SameL M F F' ∧ (14 : Nat) = (14 : FuncId) ∧ ((M : Nat) : Int) = ↑M ∧ (0
      : Int) = (0 : Int)) (.ret (.lit (.bool true)))) := by kernel_rfl
end Go.RX.Span

/- Sparse domains: Indices, Position. -/
set_option linter.unusedVariables false
set_option linter.unusedSimpArgs false
set_option maxRecDepth 100000
namespace Go.RX.Span
open Go Go.RX
attribute [local irreducible] sx conB

structure XI1 where
  (n : Nat) (f : Nat → R3) (k s h : Int) (m : Nat) (e : Nat → R1) (i : Nat)
noncomputable abbrev VI1 (q : XI1) : Few := (slI1 (U.isz q.i) q.i q.m q.e q.i, memI1 q.n q.f q.k q.s q.h q.m q.e (U.isz q.i) q.i (ixF q.n q.f q.k q.s q.h q.e))
noncomputable def OI1 (q : XI1) : Ex × Few := (.exit 0, ([.ptr 0 0, .own (U.isz q.m) 1 q.m, .any, .any, .any, .any, .any], memI1 q.n q.f q.k q.s q.h q.m q.e (U.isz q.m) q.m (ixF q.n q.f q.k q.s q.h q.e)))
def PhiI1 (n0 : Nat) (q : XI1) : Prop := PreIn n0 q.n q.f q.m q.e ∧ q.i ≤ q.m
theorem ix_cat {n : Nat} {f : Nat → R3} {k s h : Int} {e : Nat → R1} {i j : Nat} (hj : j < i + 1) :
    U.cat i (ixF n f k s h e) (fun _ => (((dnN n f k s h (e i).1, dnF n f (e i).1), ()) : RL)) j = ixF n f k s h e j := by
  refine (U.cat_eq _ _ _ _).trans ?_
  by_cases h1 : j < i
  · exact if_pos h1
  · obtain rfl : j = i := by omega
    exact if_neg h1
theorem roundI1 (n0 : Nat) (q : XI1) (hq : PhiI1 n0 q) : ((sx EIn [] n0 (loopOf P 22 6) (mkS 35 [1,5,8,9,16,17,18] (VI1 q).1, (VI1 q).2)).bind (proj 35 [1,5,8,9,16,17,18])).All fun r => match r.1 with
      | .normal => ∃ q', PhiI1 n0 q' ∧ q'.m - q'.i < q.m - q.i ∧ Wk 35 [1,5,8,9,16,17,18] n0 r.2 (VI1 q') ∧ ∀ o, o = OI1 q' → o = OI1 q
      | e => ∃ s, (e, s) = OI1 q ∧ Wk 35 [1,5,8,9,16,17,18] n0 r.2 s := by
  obtain ⟨n, f, k, s, h, m, e, i⟩ := q
  obtain ⟨hp, hi⟩ := hq
  have hp : PreIn n0 n f m e := hp
  have hi : i ≤ m := hi
  have hp' := hp
  obtain ⟨h0, hr, hm, hv⟩ := hp'
  subst h0
  refine T.all_of_eq (t_I1 n f k s h m e (U.isz i) i (ixF n f k s h e) (i : Int)) ?_
  by_cases hlt : i < m
  · rw [add1p (j := i) (by omega), tnH]
    simp only [lk_eq]
    refine ⟨fun _ => ⟨⟨by omega, by omega⟩, ⟨hr, hv i hlt⟩, by show (i + 1) * 24 ≤ 140737488351232; omega, ⟨n, f, k, s, h, m, e, i + 1⟩, ⟨hp, hlt⟩, (show m - (i + 1) < m - i by omega), ?_, fun o ho => ho⟩, fun g => absurd (U.lt_f.mp g) (by simp only [Int.ofNat_eq_natCast]; omega)⟩
    exact wk_of [some 0, some 3] rfl (Nat.zero_le _) (ren1z _) ⟨⟨rfl, rfl⟩, ⟨(isz_s i).symm, rfl, rfl⟩, rl_any _, rl_any _, ⟨rfl, row1H fun _ _ => rfl⟩, rfl, rfl, trivial⟩ ⟨⟨rfl, bx_rl⟩, ⟨rfl, (isz_s i).symm, rfl, rowRL fun j hj => ix_cat hj⟩, trivial⟩
  · obtain rfl : i = m := by omega
    refine ⟨fun g => absurd (U.lt_t.mp g) (by simp only [Int.ofNat_eq_natCast]; omega), fun _ => ⟨_, rfl, ?_⟩⟩
    exact wk_of [some 0, some 1] rfl (Nat.zero_le _) (ren1z _) ⟨⟨rfl, rfl⟩, ⟨rfl, rfl, rfl⟩, rl_any _, rl_any _, rl_any _, rl_any _, rl_any _, trivial⟩ ⟨⟨rfl, bx_rl⟩, ⟨rfl, rfl, rfl, rowRL fun _ _ => rfl⟩, trivial⟩
theorem loopI1 : LoopOK P (loopOf P 22 6) (few 35 [1,5,8,9,16,17,18] gI1) :=
  loop_few (E := EIn) mixed EIn_ok loopsOK_none 35 [1,5,8,9,16,17,18] (X := XI1) gI1 (fun _ x => VI1 x) PhiI1 (fun q => q.m - q.i) (fun _ x o => o = OI1 x)
    (fun n0 st r hh => by
      unfold gI1 at hh
      split at hh
      · rename_i n0 p q s1 s2 m' e' M' z w0 n f k s h m e t
        obtain ⟨hp, rfl, rfl, rfl, rfl, rfl, rfl, rfl⟩ := (T.is_ask hh).1
        obtain rfl := T.is_ret (T.is_ask hh).2
        rw [lk_eq] at hp
        have h0 := hp.1
        subst h0
        have zi : U.isz 0 = true := by rw [U.isz_eq]; rfl
        refine ⟨⟨n, f, k, s, h, m', e', 0⟩, ⟨hp, Nat.zero_le _⟩, ?_, fun o ho => ?_⟩
        · exact wk_of [some 0, none] rfl (Nat.zero_le _) (ren1z _) ⟨⟨rfl, rfl⟩, ⟨rfl, zi, rfl⟩, rl_any _, rl_any _, ⟨rfl, row1H fun _ _ => rfl⟩, rfl, rfl, trivial⟩ ⟨⟨rfl, bx_rl⟩, ⟨zi, rfl⟩, trivial⟩
        · rw [ho]; simp only [lk_eq]; rfl
      · exact hh.elim)
    roundI1
structure XI2 where
  (n : Nat) (f : Nat → R3) (k s h : Int) (m : Nat) (e : Nat → R1) (i : Nat)
noncomputable abbrev VI2 (q : XI2) : Few := (slI2 1 q.i q.i, memI2 q.n q.f q.k q.s q.h q.m q.e q.i (ixF q.n q.f q.k q.s q.h q.e))
noncomputable def OI2 (q : XI2) : Ex × Few := (.exit 0, ([.ptr 0 0, .own false 1 q.m, .any, .any, .any], memI2 q.n q.f q.k q.s q.h q.m q.e q.m (ixF q.n q.f q.k q.s q.h q.e)))
def PhiI2 (n0 : Nat) (q : XI2) : Prop := PreIn n0 q.n q.f q.m q.e ∧ q.i ≤ q.m
theorem roundI2 (n0 : Nat) (q : XI2) (hq : PhiI2 n0 q) : ((sx EIn [] n0 (loopOf P 23 6) (mkS 38 [1,5,7,8,6] (VI2 q).1, (VI2 q).2)).bind (proj 38 [1,5,7,8,6])).All fun r => match r.1 with
      | .normal => ∃ q', PhiI2 n0 q' ∧ q'.m - q'.i < q.m - q.i ∧ Wk 38 [1,5,7,8,6] n0 r.2 (VI2 q') ∧ ∀ o, o = OI2 q' → o = OI2 q
      | e => ∃ s, (e, s) = OI2 q ∧ Wk 38 [1,5,7,8,6] n0 r.2 s := by
  obtain ⟨n, f, k, s, h, m, e, i⟩ := q
  obtain ⟨hp, hi⟩ := hq
  have hp : PreIn n0 n f m e := hp
  have hi : i ≤ m := hi
  have hp' := hp
  obtain ⟨h0, hr, hm, hv⟩ := hp'
  subst h0
  refine T.all_of_eq (t_I2 n f k s h m e i (ixF n f k s h e) (i : Int)) ?_
  by_cases hlt : i < m
  · rw [add1p (j := i) (by omega), tnH]
    simp only [lk_eq]
    refine ⟨fun _ => ⟨⟨by omega, by omega⟩, ⟨hr, hv i hlt⟩, by show (i + 1) * 24 ≤ 140737488351232; omega, ⟨n, f, k, s, h, m, e, i + 1⟩, ⟨hp, hlt⟩, (show m - (i + 1) < m - i by omega), ?_, fun o ho => ho⟩, fun g => absurd (U.lt_f.mp g) (by simp only [Int.ofNat_eq_natCast]; omega)⟩
    exact wk_of [some 0, some 3] rfl (Nat.zero_le _) (ren1z _) ⟨⟨rfl, rfl⟩, ⟨rfl, rfl, rfl⟩, rl_any _, rl_any _, rfl, trivial⟩ ⟨⟨rfl, bx_rl⟩, ⟨rfl, rfl, rfl, rowRL fun j hj => ix_cat hj⟩, trivial⟩
  · obtain rfl : i = m := by omega
    refine ⟨fun g => absurd (U.lt_t.mp g) (by simp only [Int.ofNat_eq_natCast]; omega), fun _ => ⟨_, rfl, ?_⟩⟩
    exact wk_of [some 0, some 1] rfl (Nat.zero_le _) (ren1z _) ⟨⟨rfl, rfl⟩, ⟨rfl, rfl, rfl⟩, rl_any _, rl_any _, rl_any _, trivial⟩ ⟨⟨rfl, bx_rl⟩, ⟨rfl, rfl, rfl, rowRL fun _ _ => rfl⟩, trivial⟩
theorem loopI2 : LoopOK P (loopOf P 23 6) (few 38 [1,5,7,8,6] gI2) :=
  loop_few (E := EIn) mixed EIn_ok loopsOK_none 38 [1,5,7,8,6] (X := XI2) gI2 (fun _ x => VI2 x) PhiI2 (fun q => q.m - q.i) (fun _ x o => o = OI2 x)
    (fun n0 st r hh => by
      unfold gI2 at hh
      split at hh
      · rename_i n0 p q b s1 s2 z w0 n f k s h m e t w1 G t'
        obtain ⟨hp, rfl, rfl, rfl, rfl, rfl, rfl⟩ := (T.is_ask hh).1
        obtain rfl := T.is_ret (T.is_ask hh).2
        rw [lk_eq] at hp
        have h0 := hp.1
        subst h0
        refine ⟨⟨n, f, k, s, h, m, e, 0⟩, ⟨hp, Nat.zero_le _⟩, ?_, fun o ho => ?_⟩
        · exact wk_of [some 0, some 1] rfl (Nat.zero_le _) (ren1z _) ⟨⟨rfl, rfl⟩, ⟨rfl, rfl, rfl⟩, rl_any _, rl_any _, rfl, trivial⟩ ⟨⟨rfl, bx_rl⟩, ⟨rfl, rfl, rfl, rowRL fun j hj => absurd hj (Nat.not_lt_zero j)⟩, trivial⟩
        · rw [ho]; simp only [lk_eq]; rfl
      · exact hh.elim)
    roundI2
theorem lIn_ok : ∀ p ∈ lIn, LoopsOK P p.2 (bodyOf P p.1) := by
  intro p hp
  simp only [lIn, List.mem_cons, List.not_mem_nil, or_false] at hp
  rcases hp with rfl | rfl
  · refine loopsOK_of (by kernel_rfl) fun k g hk => ?_
    simp only [List.mem_singleton, Prod.mk.injEq, LoopC.sum.injEq] at hk
    obtain ⟨rfl, rfl⟩ := hk
    exact loopI1
  · refine loopsOK_of (by kernel_rfl) fun k g hk => ?_
    simp only [List.mem_singleton, Prod.mk.injEq, LoopC.sum.injEq] at hk
    obtain ⟨rfl, rfl⟩ := hk
    exact loopI2
theorem sp_i64 {n : Nat} {f : Nat → R3} {k s h : Int} {m : Nat} {e : Nat → R1} (g : spE n f k s h m e = 0) : m ≤ 5000 ∧ ∀ i, i < m → I64 (nv e i) := by
  obtain ⟨_, h1, _, h2, h3⟩ := sp_bs g
  refine ⟨h1, fun i hi => ?_⟩
  have := h3 i hi
  unfold I64; omega
theorem cl_errL {E E' : Int} (hE : E = E') (h0 : E ≠ 0) {N : Nat} {G : Nat → RL} :
    Cl (SV.tup [.lit (.slice none 0 0), .lit (.int .i64 E)]) (.tup [.row [.sl [.int .i64]] (zn E' N) G, .lit (.int .i64 E')]) := by
  subst hE
  rw [zn_e h0]
  exact ⟨cl_nil, .inl rfl, rfl⟩
theorem Indices_ok : ConOK P 22 c_Indices := con_cl (allOKL mixed kIn_ok lIn_ok) 10 22 fun args r hh => by
  unfold c_Indices at hh
  split at hh
  · rename_i n f k s h m e
    have hp := (T.is_ask hh).1
    obtain rfl := T.is_ret (T.is_ask hh).2
    refine T.all_of_eq (t_Ind n f k s h m e) ?_
    simp only [lk_eq]
    refine ⟨hp, fun g => cl_errL rfl (U.ne_t.mp g), fun g => ?_⟩
    have g := U.ne_f.mp g
    obtain ⟨h1, h2⟩ := sp_i64 g
    refine ⟨⟨⟨rfl, hp, h1, h2⟩, trivial, trivial, trivial, trivial, trivial, trivial, trivial⟩, ?_⟩
    rw [g]
    exact ⟨⟨rfl, sameRow_refl _ _⟩, .inl rfl, rfl⟩
  · exact hh.elim
theorem QIndices_ok : ConOK P 23 c_Indices := con_cl (allOKL mixed kIn_ok lIn_ok) 10 23 fun args r hh => by
  unfold c_Indices at hh
  split at hh
  · rename_i n f k s h m e
    have hp := (T.is_ask hh).1
    obtain rfl := T.is_ret (T.is_ask hh).2
    refine T.all_of_eq (t_QInd n f k s h m e) ?_
    simp only [lk_eq]
    refine ⟨hp, fun g => cl_errL rfl (U.ne_t.mp g), fun g => ?_⟩
    have g := U.ne_f.mp g
    obtain ⟨h1, h2⟩ := sp_i64 g
    refine ⟨⟨⟨rfl, hp, h1, h2⟩, trivial, trivial, trivial, trivial, trivial, trivial⟩, ?_⟩
    rw [g]
    exact ⟨⟨rfl, sameRow_refl _ _⟩, .inl rfl, rfl⟩
  · exact hh.elim
/-! Position. -/
theorem bsB_t {m : Nat} {e : Nat → R1} {p : Int} : bsB m e p = true ↔ ∃ i, i < m ∧ nv e i = p := by unfold bsB; exact decide_eq_true_iff
theorem bsI_at {m : Nat} {e : Nat → R1} {i : Nat} (h : BsAsk m e) (hi : i < m) : bsI m e (nv e i) = i :=
  bsI_of (by omega) (fun j hj => h.2 j i hj hi) (fun j hj hm => by
    by_cases g : i = j
    · subst g; exact Int.le_refl _
    · have := h.2 i j (by omega) hm; omega)
structure XQp where
  (p : Int) (ok : Bool) (n : Nat) (f : Nat → R3) (k s h : Int) (m : Nat) (e : Nat → R1) (i : Nat)
noncomputable abbrev VQp (q : XQp) : Few := (slQp q.p q.ok q.i, memQp q.n q.f q.k q.s q.h q.m q.e)
noncomputable def O1Qp (q : XQp) : Ex × Few := (.ret, ([.any, .lit (.int .i64 ((bsI q.m q.e q.p : Nat) : Int)), .kb true, .any, .any, .any], [(0, none)]))
noncomputable def O2Qp : Ex × Few := (.exit 0, ([.any, .any, .any, .any, .any, .any], [(0, none)]))
def PhiQp (n0 : Nat) (q : XQp) : Prop := PreQp n0 q.m q.e ∧ q.i ≤ q.m ∧ ∀ j, j < q.i → nv q.e j ≠ q.p
def ZQp (q : XQp) (o : Ex × Few) : Prop := (inB q.m q.e q.p q.ok = true → o = O1Qp q) ∧ (inB q.m q.e q.p q.ok = false → o = O2Qp)
theorem wQp {vs vs' : List SV} {m : Mem} (h : RlL [none] vs vs') : Wk 37 [2,4,5,6,7,8] 0 (vs, m) (vs', [(0, none)]) := wk_of [none] rfl (Nat.zero_le _) (ren1z _) h trivial
theorem roundQp (n0 : Nat) (q : XQp) (hq : PhiQp n0 q) : ((sx EIn [] n0 (loopOf P 27 5) (mkS 37 [2,4,5,6,7,8] (VQp q).1, (VQp q).2)).bind (proj 37 [2,4,5,6,7,8])).All fun r => match r.1 with
      | .normal => ∃ q', PhiQp n0 q' ∧ q'.m - q'.i < q.m - q.i ∧ Wk 37 [2,4,5,6,7,8] n0 r.2 (VQp q') ∧ ∀ o, ZQp q' o → ZQp q o
      | e => ∃ s, ZQp q (e, s) ∧ Wk 37 [2,4,5,6,7,8] n0 r.2 s := by
  obtain ⟨p, ok, n, f, k, s, h, m, e, i⟩ := q
  obtain ⟨hp, hi, hall⟩ := hq
  have hp : PreQp n0 m e := hp
  have hi : i ≤ m := hi
  have hall : ∀ j, j < i → nv e j ≠ p := hall
  have hp' := hp
  obtain ⟨h0, hm, ha⟩ := hp'
  subst h0
  refine T.all_of_eq (t_Qp p ok n f k s h m e (i : Int)) ?_
  by_cases hlt : i < m
  · rw [add1p (j := i) (by omega), tnH]
    refine ⟨fun _ => ⟨fun ho => ⟨⟨by omega, by omega⟩, fun g => ?_, fun g => ?_⟩, fun ho => ?_⟩, fun g => absurd (U.lt_f.mp g) (by simp only [Int.ofNat_eq_natCast]; omega)⟩
    · have g : nv e i = p := U.eq_t.mp g
      have ho : ok = true := ho
      subst ho
      have hb : inB m e p true = true := by unfold inB; rw [bsB_t.2 ⟨i, hlt, g⟩]; rfl
      refine ⟨(O1Qp ⟨p, true, n, f, k, s, h, m, e, i⟩).2, ⟨fun _ => rfl, fun hx => by have hx : inB m e p true = false := hx; rw [hb] at hx; cases hx⟩, wQp ⟨rl_any _, ?_, rfl, rl_any _, rl_any _, rl_any _, trivial⟩⟩
      show Value.int .i64 (i : Int) = Value.int .i64 ((bsI m e p : Nat) : Int)
      rw [← g, bsI_at ha hlt]
    · have g : nv e i ≠ p := U.eq_f.mp g
      refine ⟨⟨p, ok, n, f, k, s, h, m, e, i + 1⟩, ⟨hp, hlt, fun j hj => ?_⟩, (show m - (i + 1) < m - i by omega), ?_, fun o ho => ho⟩
      · have hj : j < i + 1 := hj
        by_cases ej : j = i
        · subst ej; exact g
        · exact hall j (by omega)
      · exact wk_of [some 0] rfl (Nat.zero_le _) (ren1z _) ⟨⟨rfl, rfl⟩, rl_any _, rl_any _, rfl, rfl, rfl, trivial⟩ ⟨⟨rfl, bx_rl⟩, trivial⟩
    · have ho : ok = false := ho
      subst ho
      exact ⟨O2Qp.2, ⟨fun hx => Bool.noConfusion hx, fun _ => rfl⟩, wQp ⟨rl_any _, rl_any _, rl_any _, rl_any _, rl_any _, rl_any _, trivial⟩⟩
  · obtain rfl : i = m := by omega
    refine ⟨fun g => absurd (U.lt_t.mp g) (by simp only [Int.ofNat_eq_natCast]; omega), fun _ => ⟨O2Qp.2, ⟨fun hx => ?_, fun _ => rfl⟩, wQp ⟨rl_any _, rl_any _, rl_any _, rl_any _, rl_any _, rl_any _, trivial⟩⟩⟩
    have hx : (ok && bsB i e p) = true := hx
    rw [Bool.and_eq_true] at hx
    obtain ⟨j, hj, ej⟩ := bsB_t.1 hx.2
    exact absurd ej (hall j hj)
theorem loopQp : LoopOK P (loopOf P 27 5) (few 37 [2,4,5,6,7,8] gQp) :=
  loop_few (E := EIn) mixed EIn_ok loopsOK_none 37 [2,4,5,6,7,8] (X := XQp) gQp (fun _ x => VQp x) PhiQp (fun q => q.m - q.i) (fun _ x o => ZQp x o)
    (fun n0 st r hh => by
      unfold gQp at hh
      split at hh
      · rename_i n0 p0 q0 s1 s2 p ok z w0 n f k s h m e t
        obtain ⟨hp, rfl, rfl, rfl, rfl⟩ := (T.is_ask hh).1
        have hb := (T.is_ask hh).2
        rw [lk_eq] at hp
        have h0 := hp.1
        subst h0
        refine ⟨⟨p, ok, n, f, k, s, h, m, e, 0⟩, ⟨hp, Nat.zero_le _, fun j hj => absurd hj (Nat.not_lt_zero j)⟩, wk_of [some 0] rfl (Nat.zero_le _) (ren1z _) ⟨⟨rfl, rfl⟩, rl_any _, rl_any _, rfl, rfl, rfl, trivial⟩ ⟨⟨rfl, bx_rl⟩, trivial⟩, fun o ho => ?_⟩
        rcases hb with ⟨he, hb⟩ | ⟨he, hb⟩
        · rw [lk_eq] at he
          obtain rfl := T.is_ret hb
          rw [ho.1 he]; simp only [lk_eq]; rfl
        · rw [lk_eq] at he
          obtain rfl := T.is_ret hb
          exact ho.2 he
      · exact hh.elim)
    roundQp
theorem lQp_ok : ∀ p ∈ lQp, LoopsOK P p.2 (bodyOf P p.1) := by
  intro p hp
  simp only [lQp, List.mem_singleton] at hp
  subst hp
  refine loopsOK_of (by kernel_rfl) fun k g hk => ?_
  simp only [List.mem_singleton, Prod.mk.injEq, LoopC.sum.injEq] at hk
  obtain ⟨rfl, rfl⟩ := hk
  exact loopQp
section
variable {n : Nat} {f : Nat → R3} {k s h : Int} {m : Nat} {e : Nat → R1} {M : Nat} {x : Nat → R1}
theorem spH_t : spH n f k s h m e M x = true ↔ spE n f k s h m e = 0 ∧ hasD n f k s h M x = true ∧ bsB m e (posD n f k s h M x) = true := by unfold spH; exact decide_eq_true_iff
theorem sp_no (g : ¬ (spE n f k s h m e = 0 ∧ hasD n f k s h M x = true ∧ bsB m e (posD n f k s h M x) = true)) : (SV.tup [.lit (.int .i64 0), .lit (.bool false)]) = .tup [.lit (.int .i64 (spP n f k s h m e M x)), .lit (.bool (spH n f k s h m e M x))] := by
  have hf : spH n f k s h m e M x = false := by
    cases hb : spH n f k s h m e M x
    · rfl
    · exact absurd (spH_t.1 hb) g
  unfold spP
  rw [hf, if_neg (by decide)]
theorem sp_yes (g : spE n f k s h m e = 0 ∧ hasD n f k s h M x = true ∧ bsB m e (posD n f k s h M x) = true) : (SV.tup [.lit (.int .i64 ((bsI m e (posD n f k s h M x) : Nat) : Int)), .lit (.bool true)]) = .tup [.lit (.int .i64 (spP n f k s h m e M x)), .lit (.bool (spH n f k s h m e M x))] := by
  have hf := spH_t.2 g
  unfold spP
  rw [hf, if_pos rfl]
end
theorem Pos_ok : ConOK P 26 c_SpPos := con_of (allOK mixed kIn_ok) 10 26 fun args r hh => by
  unfold c_SpPos at hh
  split at hh
  · rename_i n f k s h m e M x
    have hp := (T.is_ask hh).1
    obtain rfl := T.is_ret (T.is_ask hh).2
    refine T.all_of_eq (t_Pos n f k s h m e M x) ?_
    simp only [lk_eq, Int.ofNat_eq_natCast]
    refine ⟨hp, fun g => sp_no fun q => U.ne_t.mp g q.1, fun g => ⟨hp, fun g2 => sp_no fun q => ?_, fun g2 => ⟨(sp_bs (U.ne_f.mp g)).1, fun g3 => sp_no fun q => ?_, fun g3 => sp_yes ⟨U.ne_f.mp g, U.not_f.mp g2, U.not_f.mp g3⟩⟩⟩⟩
    · have := U.not_t.mp g2; rw [q.2.1] at this; cases this
    · have := U.not_t.mp g3; rw [q.2.2] at this; cases this
  · exact hh.elim
theorem QPos_ok : ConOK P 27 c_SpPos := con_of (allOKL mixed kIn_ok lQp_ok) 10 27 fun args r hh => by
  unfold c_SpPos at hh
  split at hh
  · rename_i n f k s h m e M x
    have hp := (T.is_ask hh).1
    obtain rfl := T.is_ret (T.is_ask hh).2
    refine T.all_of_eq (t_QPos n f k s h m e M x) ?_
    simp only [lk_eq, Int.ofNat_eq_natCast]
    refine ⟨hp, fun g => sp_no fun q => U.ne_t.mp g q.1, fun g => ⟨hp, ⟨⟨rfl, (sp_i64 (U.ne_f.mp g)).1, (sp_bs (U.ne_f.mp g)).1⟩, trivial, trivial, trivial, trivial⟩, fun g2 => ?_, fun g2 => sp_no fun q => ?_⟩⟩
    · unfold inB at g2
      rw [Bool.and_eq_true] at g2
      exact sp_yes ⟨U.ne_f.mp g, g2.1, g2.2⟩
    · unfold inB at g2
      rw [q.2.1, q.2.2] at g2; cases g2
  · exact hh.elim
/-! Long indices. -/
theorem anyL_t {M : Nat} {F : Nat → RL} : anyL M F = true ↔ ∃ i, i < M ∧ lgB (F i) = true := by
  unfold anyL
  rw [List.any_eq_true]
  exact ⟨fun ⟨i, h1, h2⟩ => ⟨i, List.mem_range.1 h1, h2⟩, fun ⟨i, h1, h2⟩ => ⟨i, List.mem_range.2 h1, h2⟩⟩
theorem fstL_eq {M : Nat} {F : Nat → RL} {i : Nat} (h1 : i < M) (h2 : lgB (F i) = true) (h3 : ∀ j, j < i → lgB (F j) = false) : fstL M F = i := by
  have h : ∃ i, i < M ∧ lgB (F i) = true ∧ ∀ j, j < i → lgB (F j) = false := ⟨i, h1, h2, h3⟩
  unfold fstL
  rw [dif_pos h]
  obtain ⟨g1, g2, g3⟩ := h.choose_spec
  rcases Nat.lt_trichotomy h.choose i with g | g | g
  · rw [h3 _ g] at g2; cases g2
  · exact g
  · rw [g3 _ g] at h2; cases h2
structure XIl where
  (M : Nat) (F : Nat → RL) (i : Nat)
noncomputable abbrev VIl (q : XIl) : Few := (slIl q.M q.F q.i, [])
noncomputable def O1Il (q : XIl) : Ex × Few := (.ret, ([.any, .any, .lit (.int .i64 ((fstL q.M q.F : Nat) : Int)), .any, .any], []))
noncomputable def O2Il : Ex × Few := (.exit 0, ([.any, .any, .any, .any, .any], []))
def PhiIl (n0 : Nat) (q : XIl) : Prop := (n0 = 0 ∧ q.M ≤ 100) ∧ q.i ≤ q.M ∧ ∀ j, j < q.i → lgB (q.F j) = false
def ZIl (q : XIl) (o : Ex × Few) : Prop := (anyL q.M q.F = true → o = O1Il q) ∧ (anyL q.M q.F = false → o = O2Il)
theorem roundIl (n0 : Nat) (q : XIl) (hq : PhiIl n0 q) : ((sx E0 [] n0 (loopOf P 67 2) (mkS 19 [0,1,4,7,8] (VIl q).1, (VIl q).2)).bind (proj 19 [0,1,4,7,8])).All fun r => match r.1 with
      | .normal => ∃ q', PhiIl n0 q' ∧ q'.M - q'.i < q.M - q.i ∧ Wk 19 [0,1,4,7,8] n0 r.2 (VIl q') ∧ ∀ o, ZIl q' o → ZIl q o
      | e => ∃ s, ZIl q (e, s) ∧ Wk 19 [0,1,4,7,8] n0 r.2 s := by
  obtain ⟨M, F, i⟩ := q
  obtain ⟨⟨h0, hM⟩, hi, hall⟩ := hq
  have hM : M ≤ 100 := hM
  have hi : i ≤ M := hi
  have hall : ∀ j, j < i → lgB (F j) = false := hall
  have h0 : n0 = 0 := h0
  subst h0
  refine T.all_of_eq (t_Il M F (i : Int)) ?_
  by_cases hlt : i < M
  · rw [add1p (j := i) (by omega), tnH]
    refine ⟨fun _ => ⟨⟨by omega, by omega⟩, fun g => ?_, fun g => ?_⟩, fun g => absurd (U.lt_f.mp g) (by simp only [Int.ofNat_eq_natCast]; omega)⟩
    · have hl : lgB (F i) = true := decide_eq_true (by have := U.gt_t.mp g; simp only [Int.ofNat_eq_natCast] at this; omega)
      have ha : anyL M F = true := anyL_t.2 ⟨i, hlt, hl⟩
      refine ⟨(O1Il ⟨M, F, i⟩).2, ⟨fun _ => rfl, fun h => by have h : anyL M F = false := h; rw [ha] at h; cases h⟩, wIx ⟨rl_any _, rl_any _, ?_, rl_any _, rl_any _, trivial⟩⟩
      show Value.int .i64 (i : Int) = Value.int .i64 ((fstL M F : Nat) : Int)
      rw [fstL_eq hlt hl hall]
    · have hl : lgB (F i) = false := decide_eq_false (by have := U.gt_f.mp g; simp only [Int.ofNat_eq_natCast] at this; omega)
      refine ⟨⟨M, F, i + 1⟩, ⟨⟨rfl, hM⟩, hlt, fun j hj => ?_⟩, (show M - (i + 1) < M - i by omega), wIx ⟨⟨rfl, rowRL fun _ _ => rfl⟩, ⟨rfl, trivial, trivial⟩, rl_any _, rfl, rfl, trivial⟩, fun o ho => ho⟩
      have hj : j < i + 1 := hj
      by_cases ej : j = i
      · subst ej; exact hl
      · exact hall j (by omega)
  · obtain rfl : i = M := by omega
    have ha : anyL i F = false := by
      cases hb : anyL i F
      · rfl
      · obtain ⟨j, h1, h2⟩ := anyL_t.1 hb
        rw [hall j h1] at h2; cases h2
    exact ⟨fun g => absurd (U.lt_t.mp g) (by simp only [Int.ofNat_eq_natCast]; omega), fun _ => ⟨O2Il.2, ⟨(fun h => by have h : anyL i F = true := h; rw [ha] at h; cases h), fun _ => rfl⟩, wIx ⟨rl_any _, rl_any _, rl_any _, rl_any _, rl_any _, trivial⟩⟩⟩
theorem loopIl : LoopOK P (loopOf P 67 2) (few 19 [0,1,4,7,8] gIl) :=
  loop_few (E := E0) mixed E0_ok loopsOK_none 19 [0,1,4,7,8] (X := XIl) gIl (fun _ x => VIl x) PhiIl (fun q => q.M - q.i) (fun _ x o => ZIl x o)
    (fun n0 st r hh => by
      unfold gIl at hh
      split at hh
      · rename_i n0 M F g s2 N z
        obtain ⟨h0, hM, rfl, rfl, rfl⟩ := (T.is_ask hh).1
        have hb := (T.is_ask hh).2
        subst h0
        refine ⟨⟨M, F, 0⟩, ⟨⟨rfl, hM⟩, Nat.zero_le _, fun j hj => absurd hj (Nat.not_lt_zero j)⟩, wIx ⟨⟨rfl, rowRL fun _ _ => rfl⟩, ⟨rfl, trivial, trivial⟩, rl_any _, rfl, rfl, trivial⟩, fun o ho => ?_⟩
        rcases hb with ⟨he, hb⟩ | ⟨he, hb⟩
        · rw [lk_eq] at he
          obtain rfl := T.is_ret hb
          rw [ho.1 he]; simp only [lk_eq]; rfl
        · rw [lk_eq] at he
          obtain rfl := T.is_ret hb
          exact ho.2 he
      · exact hh.elim)
    roundIl
theorem lIl_ok : ∀ p ∈ lIl, LoopsOK P p.2 (bodyOf P p.1) := by
  intro p hp
  simp only [lIl, List.mem_singleton] at hp
  subst hp
  refine loopsOK_of (by kernel_rfl) fun k g hk => ?_
  simp only [List.mem_singleton, Prod.mk.injEq, LoopC.sum.injEq] at hk
  obtain ⟨rfl, rfl⟩ := hk
  exact loopIl
theorem CFl_ok : ConOK P 20 c_CFl := con_of (allOKL mixed none_ok lIl_ok) 10 20 fun args r hh => by
  unfold c_CFl at hh
  split at hh
  · rename_i M F g
    obtain ⟨hp, rfl⟩ := (T.is_ask hh).1
    obtain rfl := T.is_ret (T.is_ask hh).2
    refine T.all_of_eq (t_CFl M F) ?_
    simp only [lk_eq]
    exact ⟨⟨trivial, hp, trivial, trivial, trivial⟩, fun g => lb_eq ((U.ge_t.mpr (Int.natCast_nonneg _)).trans g.symm), fun g => lb_eq g.symm⟩
  · exact hh.elim
/-! Lists of lists compared. -/
structure XEl where
  (M : Nat) (F G : Nat → RL) (i : Nat)
noncomputable abbrev VEl (q : XEl) : Few := (slEl q.M q.F q.G q.i, [])
noncomputable def OEl : Ex × Few := (.exit 0, ([.any, .any, .any, .any, .any], []))
def PhiEl (n0 : Nat) (q : XEl) : Prop := n0 = 0 ∧ SameL q.M q.F q.G ∧ q.i ≤ q.M
theorem wEl {vs vs' : List SV} {m : Mem} (h : RlL (idR 0) vs vs') : Wk 32 [1,2,15,16,17] 0 (vs, m) (vs', []) := wk_of (idR 0) rfl (Nat.zero_le _) (fun b hb => by omega) h trivial
theorem roundEl (n0 : Nat) (q : XEl) (hq : PhiEl n0 q) : ((sx EEq1 [] n0 (loopOf P 77 4) (mkS 32 [1,2,15,16,17] (VEl q).1, (VEl q).2)).bind (proj 32 [1,2,15,16,17])).All fun r => match r.1 with
      | .normal => ∃ q', PhiEl n0 q' ∧ q'.M - q'.i < q.M - q.i ∧ Wk 32 [1,2,15,16,17] n0 r.2 (VEl q') ∧ ∀ o, o = OEl → o = OEl
      | e => ∃ s, (e, s) = OEl ∧ Wk 32 [1,2,15,16,17] n0 r.2 s := by
  obtain ⟨M, F, G, i⟩ := q
  obtain ⟨h0, hs, hi⟩ := hq
  have hs : SameL M F G := hs
  have hi : i ≤ M := hi
  have h0 : n0 = 0 := h0
  subst h0
  have hM := hs.1
  refine T.all_of_eq (t_El M F G (i : Int)) ?_
  by_cases hlt : i < M
  · rw [add1p (j := i) (by omega), tnH]
    obtain ⟨e1, e2⟩ := hs.2 i hlt
    simp only [lk_eq]
    refine ⟨fun _ => ⟨⟨by omega, by omega⟩, ⟨by omega, by omega⟩, by omega, fun g => ?_, fun g => ⟨⟨M, F, G, i + 1⟩, ⟨rfl, hs, hlt⟩, (show M - (i + 1) < M - i by omega), wEl ⟨⟨rfl, rowRL fun _ _ => rfl⟩, ⟨rfl, trivial, trivial⟩, ⟨rfl, rowRL fun _ _ => rfl⟩, rfl, rfl, trivial⟩, fun o ho => ho⟩⟩, fun g => absurd (U.lt_f.mp g) (by simp only [Int.ofNat_eq_natCast]; omega)⟩
    have g := U.not_t.mp g
    rw [← e1, eqR_self] at g; cases g
  · obtain rfl : i = M := by omega
    exact ⟨fun g => absurd (U.lt_t.mp g) (by simp only [Int.ofNat_eq_natCast]; omega), fun _ => ⟨_, rfl, wEl ⟨rl_any _, rl_any _, rl_any _, rl_any _, rl_any _, trivial⟩⟩⟩
theorem loopEl : LoopOK P (loopOf P 77 4) (few 32 [1,2,15,16,17] gEl) :=
  loop_few (E := EEq1) mixed EEq1_ok loopsOK_none 32 [1,2,15,16,17] (X := XEl) gEl (fun _ x => VEl x) PhiEl (fun q => q.M - q.i) (fun _ x o => o = OEl)
    (fun n0 st r hh => by
      unfold gEl at hh
      split at hh
      · rename_i n0 m G g M F N z
        obtain ⟨h0, rfl, hs, rfl, rfl, rfl⟩ := (T.is_ask hh).1
        obtain rfl := T.is_ret (T.is_ask hh).2
        subst h0
        rw [lk_eq] at hs
        exact ⟨⟨m, F, G, 0⟩, ⟨rfl, hs, Nat.zero_le _⟩, wEl ⟨⟨rfl, rowRL fun _ _ => rfl⟩, ⟨rfl, trivial, trivial⟩, ⟨rfl, rowRL fun _ _ => rfl⟩, rfl, rfl, trivial⟩, fun o ho => ho⟩
      · exact hh.elim)
    roundEl
theorem lEl_ok : ∀ p ∈ lEl, LoopsOK P p.2 (bodyOf P p.1) := by
  intro p hp
  simp only [lEl, List.mem_singleton] at hp
  subst hp
  refine loopsOK_of (by kernel_rfl) fun k g hk => ?_
  simp only [List.mem_singleton, Prod.mk.injEq, LoopC.sum.injEq] at hk
  obtain ⟨rfl, rfl⟩ := hk
  exact loopEl
theorem lists_ok : ConOK P 30 c_lists := con_of (allOKL mixed kEq1_ok lEl_ok) 10 30 fun args r hh => by
  unfold c_lists at hh
  split at hh
  · rename_i M F M' F'
    obtain ⟨rfl, hs⟩ := (T.is_ask hh).1
    obtain rfl := T.is_ret (T.is_ask hh).2
    refine T.all_of_eq (t_lists _ F F') ?_
    exact ⟨fun g => absurd rfl (U.ne_t.mp g), fun g => ⟨⟨rfl, rfl, hs, rfl, rfl, rfl⟩, rfl⟩⟩
  · exact hh.elim
end Go.RX.Span

/- Sparse domains: the reference's Of: the states. -/
set_option linter.unusedVariables false
set_option linter.unusedSimpArgs false
set_option maxRecDepth 100000
namespace Go.RX.Span
open Go Go.RX
attribute [local irreducible] sx conB

noncomputable abbrev doB (n : Nat) (f : Nat → R3) (k s h : Int) : Blk := .cells [.row [.int .i64, .int .i64, .int .i64] n f, .lit (.int .i64 k), .lit (.int .i64 s), .lit (.int .i64 h)] 26
noncomputable abbrev slO0 (M : Nat) (F : Nat → RL) (i : Int) : List SV := [.row [.sl [.int .i64]] M F, .ptr 0 0, .ptr 1 0, .any, .own false 2 0, .lit (.int .i64 i), .any, .any]
noncomputable abbrev memO0 (n : Nat) (f : Nat → R3) (k s h : Int) (G : Nat → R1) : Mem := [(0, some (doB n f k s h)), (0, some (.cells zeV 29)), (0, some (.row false 0 [.int .i64] G 3))]
noncomputable abbrev slO1 (M : Nat) (F : Nat → RL) (N : Nat) (G : Nat → R1) (i : Int) : List SV := [.row [.sl [.int .i64]] M F, .ptr 0 0, .ptr 1 0, .any, .row [.int .i64] N G, .lit (.int .i64 i), .any, .any]
noncomputable abbrev memO1 (n : Nat) (f : Nat → R3) (k s h : Int) : Mem := [(0, some (doB n f k s h)), (0, some (.cells zeV 29)), (0, none)]
noncomputable def gRo : Nat → Few → T (Ex × Few)
  | n0, ([.row [.sl [.int .i64]] M F, .ptr p0 q0, .ptr p1 q1, _, .own false b 0, .ki .i64 z, _, _], [(_, some (.cells [.row [.int .i64, .int .i64, .int .i64] n f, .lit (.int .i64 k), .lit (.int .i64 s), .lit (.int .i64 h)] t0)), (_, some (.cells zs t1)), (_, some (.row false 0 [.int .i64] G t2))]) =>
    .ask (n0 = 0 ∧ lk PreOf n f k s h M ∧ p0 = 0 ∧ q0 = 0 ∧ p1 = 1 ∧ q1 = 0 ∧ b = 2 ∧ z = 0 ∧ t0 = 26 ∧ zs = zeV ∧ t1 = 29 ∧ t2 = 3)
      (.br (lk ofOk n f k s h M F)
        (.br (U.isz M) (.ret (.exit 0, (slO0 M F 0, memO0 n f k s h G))) (.ret (.exit 0, (slO1 M F (lk osN n f k s h M F) (lk osF n f k s h M F) (M : Int), memO1 n f k s h))))
        (.ret (.ret, ([.any, .any, .ptr 1 0, .ki .i64 22, .any, .any, .any, .any], [(0, none), (0, some (.cells zeV 29)), (0, none)]))))
  | _, _ => .stuck 1
noncomputable abbrev lRo : List (Nat × Loops) := [(25, [(8, .sum (few 49 [1,2,4,5,7,8,9,10] gRo))])] --%K
noncomputable abbrev kRo : List (Nat × Con) := [(29, c_SpCheckN), (71, c_DPosition), (62, c_put)] --%K
theorem kRo_ok : ∀ p ∈ kRo, ConOK P p.1 p.2 := by
  intro p hp
  simp only [kRo, List.mem_cons, List.not_mem_nil, or_false] at hp
  rcases hp with rfl | rfl | rfl
  · exact SpQCheckN_ok
  · exact qPos_ok
  · exact put_ok
noncomputable abbrev ERo : Env := ⟨P, conOf kRo, scall P (conOf kRo) noLoops 10⟩
theorem ERo_ok : EnvOK ERo := envOK (allOK mixed kRo_ok) 10
end Go.RX.Span

/- Sparse domains: the reference's Of: the walks. -/
set_option linter.unusedVariables false
set_option linter.unusedSimpArgs false
set_option maxRecDepth 100000
namespace Go.RX.Span
open Go Go.RX
attribute [local irreducible] sx conB

--%R < ↑(\w+)\b => < ((\1 : Nat) : Int)
--%R ↑(\w+) (=|≤) => ((\1 : Nat) : Int) \2
set_option maxRecDepth 100000 in
theorem t_O0 (n : Nat) (f : Nat → R3) (k s h : Int) (M : Nat) (F : Nat → RL) (G : Nat → R1) (i : Int) : (sx ERo [] 0 (loopOf P 25 8) (mkS 49 [1,2,4,5,7,8,9,10] (slO0 M F i), memO0 n f k s h G)).bind (proj 49 [1,2,4,5,7,8,9,10]) =
    T.br (U.lt i (Int.ofNat M)) (.ask ((0 : Int) ≤ i ∧ i < ((M : Nat) : Int)) (.ask (Row64 n f) (.br (U.not (lk hasD n f k s h (F (U.toNat i)).fst.1 (F (U.toNat i)).fst.2)) (.ret
      (Ex.ret, [.row [.sl [.int .i64]] M F, SV.ptr (nat_lit 0) (nat_lit 0), SV.ptr (nat_lit 1) (nat_lit 0), SV.ki .i64 22, SV.own false (nat_lit 2) (nat_lit 0), .lit (.int .i64 i), .lit
      (.int .i64 (lk posD n f k s h (F (U.toNat i)).fst.1 (F (U.toNat i)).fst.2)), .lit (.bool (lk hasD n f k s h (F (U.toNat i)).fst.1 (F (U.toNat i)).fst.2))], [(nat_lit 0, some
      (Blk.cells [.row [.int .i64, .int .i64, .int .i64] n f, .lit (.int .i64 k), .lit (.int .i64 s), .lit (.int .i64 h)] (nat_lit 26))), (nat_lit 1, some (Blk.cells [.lit (.slice none
      (nat_lit 0) (nat_lit 0)), .lit (.int .i64 0), .lit (.int .i64 0), .lit (.int .i64 0), .lit (.slice none (nat_lit 0) (nat_lit 0))] (nat_lit 29))), (nat_lit 0, some (Blk.row false
      (nat_lit 0) [.int .i64] G (nat_lit 3)))])) (.ask (lk Sm (0 : Nat)) (.ret (Ex.normal, [.row [.sl [.int .i64]] M F, SV.ptr (nat_lit 0) (nat_lit 0), SV.ptr (nat_lit 1) (nat_lit 0),
      SV.any, .row [.int .i64] (lk puN (nat_lit 0) G (lk posD n f k s h (F (U.toNat i)).fst.1 (F (U.toNat i)).fst.2)) (lk puF (nat_lit 0) G (lk posD n f k s h (F (U.toNat i)).fst.1 (F
      (U.toNat i)).fst.2)), .lit (.int .i64 (U.add .i64 i (1 : Int))), .lit (.int .i64 (lk posD n f k s h (F (U.toNat i)).fst.1 (F (U.toNat i)).fst.2)), .lit (.bool (lk hasD n f k s h (F
      (U.toNat i)).fst.1 (F (U.toNat i)).fst.2))], [(nat_lit 0, some (Blk.cells [.row [.int .i64, .int .i64, .int .i64] n f, .lit (.int .i64 k), .lit (.int .i64 s), .lit (.int .i64 h)]
      (nat_lit 26))), (nat_lit 0, some (Blk.cells [.lit (.slice none (nat_lit 0) (nat_lit 0)), .lit (.int .i64 0), .lit (.int .i64 0), .lit (.int .i64 0), .lit (.slice none (nat_lit 0)
      (nat_lit 0))] (nat_lit 29))), (nat_lit 1, none)])))))) (.ret (Ex.exit (nat_lit 0), [.row [.sl [.int .i64]] M F, SV.ptr (nat_lit 0) (nat_lit 0), SV.ptr (nat_lit 1) (nat_lit 0),
      SV.any, SV.own false (nat_lit 2) (nat_lit 0), .lit (.int .i64 i), SV.any, SV.any], [(nat_lit 0, some (Blk.cells [.row [.int .i64, .int .i64, .int .i64] n f, .lit (.int .i64 k), .lit
      (.int .i64 s), .lit (.int .i64 h)] (nat_lit 26))), (nat_lit 0, some (Blk.cells [.lit (.slice none (nat_lit 0) (nat_lit 0)), .lit (.int .i64 0), .lit (.int .i64 0), .lit (.int .i64
      0), .lit (.slice none (nat_lit 0) (nat_lit 0))] (nat_lit 29))), (nat_lit 0, some (Blk.row false (nat_lit 0) [.int .i64] G (nat_lit 3)))])) := by kernel_rfl
set_option maxRecDepth 100000 in
theorem t_O1 (n : Nat) (f : Nat → R3) (k s h : Int) (M : Nat) (F : Nat → RL) (N : Nat) (G : Nat → R1) (i : Int) : (sx ERo [] 0 (loopOf P 25 8) (mkS 49 [1,2,4,5,7,8,9,10] (slO1 M F N G i), memO1 n f k s h)).bind (proj 49 [1,2,4,5,7,8,9,10]) =
    T.br (U.lt i (Int.ofNat M)) (.ask ((0 : Int) ≤ i ∧ i < ((M : Nat) : Int)) (.ask (Row64 n f) (.br (U.not (lk hasD n f k s h (F (U.toNat i)).fst.1 (F (U.toNat i)).fst.2)) (.ret
      (Ex.ret, [.row [.sl [.int .i64]] M F, SV.ptr (nat_lit 0) (nat_lit 0), SV.ptr (nat_lit 1) (nat_lit 0), SV.ki .i64 22, .row [.int .i64] N G, .lit (.int .i64 i), .lit (.int .i64 (lk
      posD n f k s h (F (U.toNat i)).fst.1 (F (U.toNat i)).fst.2)), .lit (.bool (lk hasD n f k s h (F (U.toNat i)).fst.1 (F (U.toNat i)).fst.2))], [(nat_lit 0, some (Blk.cells [.row [.int
      .i64, .int .i64, .int .i64] n f, .lit (.int .i64 k), .lit (.int .i64 s), .lit (.int .i64 h)] (nat_lit 26))), (nat_lit 1, some (Blk.cells [.lit (.slice none (nat_lit 0) (nat_lit 0)),
      .lit (.int .i64 0), .lit (.int .i64 0), .lit (.int .i64 0), .lit (.slice none (nat_lit 0) (nat_lit 0))] (nat_lit 29))), (nat_lit 0, none)])) (.ask (lk Sm N) (.ret (Ex.normal, [.row
      [.sl [.int .i64]] M F, SV.ptr (nat_lit 0) (nat_lit 0), SV.ptr (nat_lit 1) (nat_lit 0), SV.any, .row [.int .i64] (lk puN N G (lk posD n f k s h (F (U.toNat i)).fst.1 (F (U.toNat
      i)).fst.2)) (lk puF N G (lk posD n f k s h (F (U.toNat i)).fst.1 (F (U.toNat i)).fst.2)), .lit (.int .i64 (U.add .i64 i (1 : Int))), .lit (.int .i64 (lk posD n f k s h (F (U.toNat
      i)).fst.1 (F (U.toNat i)).fst.2)), .lit (.bool (lk hasD n f k s h (F (U.toNat i)).fst.1 (F (U.toNat i)).fst.2))], [(nat_lit 0, some (Blk.cells [.row [.int .i64, .int .i64, .int
      .i64] n f, .lit (.int .i64 k), .lit (.int .i64 s), .lit (.int .i64 h)] (nat_lit 26))), (nat_lit 0, some (Blk.cells [.lit (.slice none (nat_lit 0) (nat_lit 0)), .lit (.int .i64 0),
      .lit (.int .i64 0), .lit (.int .i64 0), .lit (.slice none (nat_lit 0) (nat_lit 0))] (nat_lit 29))), (nat_lit 0, none)])))))) (.ret (Ex.exit (nat_lit 0), [.row [.sl [.int .i64]] M F,
      SV.ptr (nat_lit 0) (nat_lit 0), SV.ptr (nat_lit 1) (nat_lit 0), SV.any, .row [.int .i64] N G, .lit (.int .i64 i), SV.any, SV.any], [(nat_lit 0, some (Blk.cells [.row [.int .i64,
      .int .i64, .int .i64] n f, .lit (.int .i64 k), .lit (.int .i64 s), .lit (.int .i64 h)] (nat_lit 26))), (nat_lit 0, some (Blk.cells [.lit (.slice none (nat_lit 0) (nat_lit 0)), .lit
      (.int .i64 0), .lit (.int .i64 0), .lit (.int .i64 0), .lit (.slice none (nat_lit 0) (nat_lit 0))] (nat_lit 29))), (nat_lit 0, none)])) := by kernel_rfl
set_option maxRecDepth 100000 in
theorem t_QOf (n : Nat) (f : Nat → R3) (k s h : Int) (M : Nat) (F : Nat → RL) : conB Go.Proofs.Try.prog (conOf kRo) (loopsOf lRo) 10 25 [.agg [.row [.int .i64, .int .i64, .int .i64] n f, .lit (.int .i64 k), .lit (.int .i64 s), .lit (.int .i64 h)], .row [.sl [.int .i64]] M F] =
    T.ask (Row64 n f) (.br (U.ne (lk pdE n f k s h) (0 : Int)) (.ret (.tup [.agg [.lit (.slice none (nat_lit 0) (nat_lit 0)), .lit (.int .i64 0), .lit (.int .i64 0), .lit (.int .i64 0),
      .lit (.slice none (nat_lit 0) (nat_lit 0))], .lit (.int .i64 (lk pdE n f k s h))])) (.br (U.gt (Int.ofNat M) (20000 : Int)) (.ret (.tup [.agg [.lit (.slice none (nat_lit 0) (nat_lit
      0)), .lit (.int .i64 0), .lit (.int .i64 0), .lit (.int .i64 0), .lit (.slice none (nat_lit 0) (nat_lit 0))], .lit (.int .i64 5)])) (.ask (nat_lit 0 = (0 : Nat) ∧ lk PreOf n f k s h
      M ∧ (0 : Nat) = (0 : Nat) ∧ (0 : Nat) = (0 : Nat) ∧ (1 : Nat) = (1 : Nat) ∧ (0 : Nat) = (0 : Nat) ∧ (2 : Nat) = (2 : Nat) ∧ (0 : Int) = (0 : Int) ∧ (26 : Nat) = (26 : TypeId) ∧
      [.lit (.slice none (0 : Nat) (0 : Nat)), .lit (.int .i64 0), .lit (.int .i64 0), .lit (.int .i64 0), .lit (.slice none (0 : Nat) (0 : Nat))] = zeV ∧ (29 : Nat) = (29 : TypeId) ∧ (3
      : Nat) = (3 : TypeId)) (.br (lk ofOk n f k s h M F) (.br (U.isz M) (.br (U.gt (0 : Int) (5000 : Int)) (.ret (.tup [.agg [.lit (.slice none (nat_lit 0) (nat_lit 0)), .lit (.int .i64
      0), .lit (.int .i64 0), .lit (.int .i64 0), .lit (.slice none (nat_lit 0) (nat_lit 0))], .lit (.int .i64 5)])) (.ret (.tup [.agg [.row [.int .i64, .int .i64, .int .i64] n f, .lit
      (.int .i64 k), .lit (.int .i64 s), .lit (.int .i64 h), .row [.int .i64] (nat_lit 0) fun x => ((0 : Int), PUnit.unit)], .lit (.int .i64 0)]))) (.br (U.gt (Int.ofNat (lk osN n f k s h
      M F)) (5000 : Int)) (.ret (.tup [.agg [.lit (.slice none (nat_lit 0) (nat_lit 0)), .lit (.int .i64 0), .lit (.int .i64 0), .lit (.int .i64 0), .lit (.slice none (nat_lit 0) (nat_lit
      0))], .lit (.int .i64 5)])) (.ret (.tup [.agg [.row [.int .i64, .int .i64, .int .i64] n f, .lit (.int .i64 k), .lit (.int .i64 s), .lit (.int .i64 h), .row [.int .i64] (lk osN n f k
      s h M F) (lk osF n f k s h M F)], .lit (.int .i64 0)])))) (.ret (.tup [.agg [.lit (.slice none (nat_lit 0) (nat_lit 0)), .lit (.int .i64 0), .lit (.int .i64 0), .lit (.int .i64 0),
      .lit (.slice none (nat_lit 0) (nat_lit 0))], .lit (.int .i64 22)])))))) := by kernel_rfl
end Go.RX.Span

/- Sparse domains: the reference's Of. -/
set_option linter.unusedVariables false
set_option linter.unusedSimpArgs false
set_option maxRecDepth 100000
namespace Go.RX.Span
open Go Go.RX
attribute [local irreducible] sx conB

theorem os_put {n : Nat} {f : Nat → R3} {k s h : Int} {F : Nat → RL} (i : Nat) : puN (osN n f k s h i F) (osF n f k s h i F) (posD n f k s h (F i).1.1 (F i).1.2) = osN n f k s h (i + 1) F ∧ puF (osN n f k s h i F) (osF n f k s h i F) (posD n f k s h (F i).1.1 (F i).1.2) = osF n f k s h (i + 1) F := by
  have e : puL (osN n f k s h i F) (osF n f k s h i F) (posD n f k s h (F i).1.1 (F i).1.2) = ofL (psL n f k s h (i + 1) F) := by
    unfold puL osN osF
    rw [nl_lF, psL_s, ofL_s]; rfl
  exact ⟨by unfold puN; rw [e]; rfl, by unfold puF; rw [e]; rfl⟩
theorem os_le (n : Nat) (f : Nat → R3) (k s h : Int) (M : Nat) (F : Nat → RL) : osN n f k s h M F ≤ M := by
  have := ofL_le (psL n f k s h M F)
  unfold osN
  unfold psL at this ⊢
  simpa using this
structure XRo where
  (n : Nat) (f : Nat → R3) (k s h : Int) (M : Nat) (F : Nat → RL) (G : Nat → R1) (i : Nat)
noncomputable abbrev VRo (q : XRo) : Few := match q.i with
  | 0 => (slO0 q.M q.F 0, memO0 q.n q.f q.k q.s q.h q.G)
  | i + 1 => (slO1 q.M q.F (osN q.n q.f q.k q.s q.h (i + 1) q.F) (osF q.n q.f q.k q.s q.h (i + 1) q.F) ((i + 1 : Nat) : Int), memO1 q.n q.f q.k q.s q.h)
noncomputable def O1Ro (q : XRo) : Ex × Few := (.exit 0, ((VRo { q with i := q.M }).1, (VRo { q with i := q.M }).2))
noncomputable def O2Ro : Ex × Few := (.ret, ([.any, .any, .ptr 1 0, .ki .i64 22, .any, .any, .any, .any], [(0, none), (0, some (.cells zeV 29)), (0, none)]))
def PhiRo (n0 : Nat) (q : XRo) : Prop := n0 = 0 ∧ PreOf q.n q.f q.k q.s q.h q.M ∧ q.i ≤ q.M ∧ ∀ j, j < q.i → ofH q.n q.f q.k q.s q.h q.F j = true
def ZRo (q : XRo) (o : Ex × Few) : Prop := (ofOk q.n q.f q.k q.s q.h q.M q.F = true → o = O1Ro q) ∧ (ofOk q.n q.f q.k q.s q.h q.M q.F = false → o = O2Ro)
theorem roundRo (n0 : Nat) (q : XRo) (hq : PhiRo n0 q) : ((sx ERo [] n0 (loopOf P 25 8) (mkS 49 [1,2,4,5,7,8,9,10] (VRo q).1, (VRo q).2)).bind (proj 49 [1,2,4,5,7,8,9,10])).All fun r => match r.1 with
      | .normal => ∃ q', PhiRo n0 q' ∧ q'.M - q'.i < q.M - q.i ∧ Wk 49 [1,2,4,5,7,8,9,10] n0 r.2 (VRo q') ∧ ∀ o, ZRo q' o → ZRo q o
      | e => ∃ s, ZRo q (e, s) ∧ Wk 49 [1,2,4,5,7,8,9,10] n0 r.2 s := by
  obtain ⟨n, f, k, s, h, M, F, G, i⟩ := q
  obtain ⟨h0, ⟨hr, hc, hM⟩, hi, hall⟩ := hq
  have h0 : n0 = 0 := h0
  have hr : Row64 n f := hr
  have hc : chD n f k s h = 0 := hc
  have hM : M ≤ 20000 := hM
  have hi : i ≤ M := hi
  have hall : ∀ j, j < i → ofH n f k s h F j = true := hall
  subst h0
  have next : i < M → hasD n f k s h (F i).1.1 (F i).1.2 = true → ∀ j, j < i + 1 → ofH n f k s h F j = true := fun _ g j hj => by
    by_cases e : j = i
    · subst e; exact g
    · exact hall j (by omega)
  have bad : i < M → hasD n f k s h (F i).1.1 (F i).1.2 = false → ∀ (G' : Nat → R1) (i' : Nat), ZRo ⟨n, f, k, s, h, M, F, G', i'⟩ (Ex.ret, O2Ro.2) := fun hlt g G' i' => ⟨(fun hk => by
    have := ofOk_t.1 hk i hlt
    rw [g] at this; cases this), fun _ => rfl⟩
  cases i with
  | zero =>
    refine T.all_of_eq (t_O0 n f k s h M F G 0) ?_
    by_cases hlt : 0 < M
    · rw [show U.add .i64 (0 : Int) 1 = ((1 : Nat) : Int) from add1p (j := 0) (by omega), tn0]
      simp only [lk_eq]
      refine ⟨fun _ => ⟨⟨by omega, by omega⟩, hr, fun g => ⟨O2Ro.2, bad hlt (U.not_t.mp g) _ _, ?_⟩, fun g => ⟨by unfold Sm; omega, ⟨n, f, k, s, h, M, F, G, 1⟩, ⟨rfl, ⟨hr, hc, hM⟩, hlt, next hlt (U.not_f.mp g)⟩, (show M - 1 < M - 0 by omega), ?_, fun o ho => ho⟩⟩, fun g => absurd (U.lt_f.mp g) (by simp only [Int.ofNat_eq_natCast]; omega)⟩
      · exact wk_of [none, some 1, none] rfl (Nat.zero_le _) (ren1z _) ⟨rl_any _, rl_any _, ⟨rfl, rfl⟩, ⟨rfl, rfl⟩, rl_any _, rl_any _, rl_any _, rl_any _, trivial⟩ ⟨⟨rfl, zeV_rl⟩, trivial⟩
      · exact wk_of [some 0, some 1, none] rfl (Nat.zero_le _) (ren1z _) ⟨⟨rfl, rowRL fun _ _ => rfl⟩, ⟨rfl, rfl⟩, ⟨rfl, rfl⟩, rl_any _, ⟨rfl, row1H fun _ _ => rfl⟩, rfl, rl_any _, rl_any _, trivial⟩ ⟨⟨rfl, par_rl⟩, ⟨rfl, zeV_rl⟩, trivial⟩
    · obtain rfl : M = 0 := by omega
      refine ⟨fun g => absurd (U.lt_t.mp g) (by simp only [Int.ofNat_eq_natCast]; omega), fun _ => ⟨(O1Ro ⟨n, f, k, s, h, 0, F, G, 0⟩).2, ⟨fun _ => rfl, fun hk => absurd hall (ofOk_f.1 hk)⟩, ?_⟩⟩
      exact wk_of [some 0, some 1, some 2] rfl (Nat.zero_le _) (ren1z _) ⟨⟨rfl, rowRL fun _ _ => rfl⟩, ⟨rfl, rfl⟩, ⟨rfl, rfl⟩, rl_any _, ⟨rfl, rfl, rfl⟩, rfl, rl_any _, rl_any _, trivial⟩ ⟨⟨rfl, par_rl⟩, ⟨rfl, zeV_rl⟩, ⟨rfl, rfl, rfl, row1H fun _ _ => rfl⟩, trivial⟩
  | succ i =>
    refine T.all_of_eq (t_O1 n f k s h M F (osN n f k s h (i + 1) F) (osF n f k s h (i + 1) F) ((i + 1 : Nat) : Int)) ?_
    by_cases hlt : i + 1 < M
    · rw [add1p (j := i + 1) (by omega), tnH]
      obtain ⟨y1, y2⟩ := os_put (n := n) (f := f) (k := k) (s := s) (h := h) (F := F) (i + 1)
      have hs := os_le n f k s h (i + 1) F
      simp only [lk_eq]
      rw [y1, y2]
      refine ⟨fun _ => ⟨⟨by omega, by omega⟩, hr, fun g => ⟨O2Ro.2, bad hlt (U.not_t.mp g) _ _, ?_⟩, fun g => ⟨by unfold Sm; omega, ⟨n, f, k, s, h, M, F, G, i + 1 + 1⟩, ⟨rfl, ⟨hr, hc, hM⟩, hlt, next hlt (U.not_f.mp g)⟩, (show M - (i + 1 + 1) < M - (i + 1) by omega), ?_, fun o ho => ho⟩⟩, fun g => absurd (U.lt_f.mp g) (by simp only [Int.ofNat_eq_natCast]; omega)⟩
      · exact wk_of [none, some 1, none] rfl (Nat.zero_le _) (ren1z _) ⟨rl_any _, rl_any _, ⟨rfl, rfl⟩, ⟨rfl, rfl⟩, rl_any _, rl_any _, rl_any _, rl_any _, trivial⟩ ⟨⟨rfl, zeV_rl⟩, trivial⟩
      · exact wk_of [some 0, some 1, none] rfl (Nat.zero_le _) (ren1z _) ⟨⟨rfl, rowRL fun _ _ => rfl⟩, ⟨rfl, rfl⟩, ⟨rfl, rfl⟩, rl_any _, ⟨rfl, row1H fun _ _ => rfl⟩, rfl, rl_any _, rl_any _, trivial⟩ ⟨⟨rfl, par_rl⟩, ⟨rfl, zeV_rl⟩, trivial⟩
    · obtain rfl : M = i + 1 := by omega
      refine ⟨fun g => absurd (U.lt_t.mp g) (by simp only [Int.ofNat_eq_natCast]; omega), fun _ => ⟨(O1Ro ⟨n, f, k, s, h, i + 1, F, G, i + 1⟩).2, ⟨fun _ => rfl, fun hk => absurd hall (ofOk_f.1 hk)⟩, ?_⟩⟩
      exact wk_of [some 0, some 1, none] rfl (Nat.zero_le _) (ren1z _) ⟨⟨rfl, rowRL fun _ _ => rfl⟩, ⟨rfl, rfl⟩, ⟨rfl, rfl⟩, rl_any _, ⟨rfl, row1H fun _ _ => rfl⟩, rfl, rl_any _, rl_any _, trivial⟩ ⟨⟨rfl, par_rl⟩, ⟨rfl, zeV_rl⟩, trivial⟩
theorem loopRo : LoopOK P (loopOf P 25 8) (few 49 [1,2,4,5,7,8,9,10] gRo) :=
  loop_few (E := ERo) mixed ERo_ok loopsOK_none 49 [1,2,4,5,7,8,9,10] (X := XRo) gRo (fun _ x => VRo x) PhiRo (fun q => q.M - q.i) (fun _ x o => ZRo x o)
    (fun n0 st r hh => by
      unfold gRo at hh
      split at hh
      · rename_i n0 M F p0 q0 p1 q1 s5 b z s6 s7 w0 n f k s h t0 w1 zs t1 w2 G t2
        obtain ⟨h0, hp, rfl, rfl, rfl, rfl, rfl, rfl, rfl, rfl, rfl, rfl⟩ := (T.is_ask hh).1
        have hb := (T.is_ask hh).2
        subst h0
        rw [lk_eq] at hp
        refine ⟨⟨n, f, k, s, h, M, F, G, 0⟩, ⟨rfl, hp, Nat.zero_le _, fun j hj => absurd hj (Nat.not_lt_zero j)⟩, ?_, fun o ho => ?_⟩
        · exact wk_of [some 0, some 1, some 2] rfl (Nat.zero_le _) (ren1z _) ⟨⟨rfl, rowRL fun _ _ => rfl⟩, ⟨rfl, rfl⟩, ⟨rfl, rfl⟩, rl_any _, ⟨rfl, rfl, rfl⟩, rfl, rl_any _, rl_any _, trivial⟩ ⟨⟨rfl, par_rl⟩, ⟨rfl, zeV_rl⟩, ⟨rfl, rfl, rfl, row1H fun _ _ => rfl⟩, trivial⟩
        · rcases hb with ⟨he, hb⟩ | ⟨he, hb⟩
          · rw [lk_eq] at he
            rw [ho.1 he]
            rcases hb with ⟨hz, hb⟩ | ⟨hz, hb⟩ <;> obtain rfl := T.is_ret hb
            · rw [U.isz_eq] at hz
              obtain rfl : M = 0 := by simpa using hz
              rfl
            · rw [U.isz_eq] at hz
              obtain ⟨c, rfl⟩ : ∃ c, M = c + 1 := ⟨M - 1, by have hne : M ≠ 0 := of_decide_eq_false hz; omega⟩
              simp only [lk_eq]; rfl
          · rw [lk_eq] at he
            obtain rfl := T.is_ret hb
            exact ho.2 he
      · exact hh.elim)
    roundRo
theorem lRo_ok : ∀ p ∈ lRo, LoopsOK P p.2 (bodyOf P p.1) := by
  intro p hp
  simp only [lRo, List.mem_singleton] at hp
  subst hp
  refine loopsOK_of (by kernel_rfl) fun k g hk => ?_
  simp only [List.mem_singleton, Prod.mk.injEq, LoopC.sum.injEq] at hk
  obtain ⟨rfl, rfl⟩ := hk
  exact loopRo
theorem QOf_ok : ConOK P 25 c_Of := con_cl (allOKL mixed kRo_ok lRo_ok) 10 25 fun args r hh => by
  unfold c_Of at hh
  split at hh
  · rename_i n f k s h M F
    have hp := (T.is_ask hh).1
    obtain rfl := T.is_ret (T.is_ask hh).2
    refine T.all_of_eq (t_QOf n f k s h M F) ?_
    simp only [lk_eq, Int.ofNat_eq_natCast]
    refine ⟨hp, fun g => ?_, fun g => ⟨fun g2 => ?_, fun g2 => ?_⟩⟩
    · have g := U.ne_t.mp g
      exact cl_err (by unfold ofE; rw [if_pos g]) g
    · have g := U.ne_f.mp g
      have g2 := U.gt_t.mp g2
      exact cl_err (by unfold ofE; rw [if_neg (fun x => x g), if_pos (by omega)]) (by decide)
    · have g := U.ne_f.mp g
      have g2 := U.gt_f.mp g2
      have hc := (pdE_zero.1 g).1
      refine ⟨⟨trivial, ⟨hp, hc, by omega⟩, trivial, trivial, trivial, trivial, trivial, trivial, trivial, trivial, trivial, trivial⟩, fun g3 => ⟨fun g4 => ⟨fun g5 => absurd (U.gt_t.mp g5) (by decide), fun g5 => ?_⟩, fun g4 => ⟨fun g5 => ?_, fun g5 => ?_⟩⟩, fun g3 => ?_⟩
      · rw [U.isz_eq] at g4
        obtain rfl : M = 0 := of_decide_eq_true g4
        have e0 : ofE n f k s h 0 F = 0 := by unfold ofE; rw [if_neg (fun x => x g), if_neg (by omega), if_neg (by rw [g3]; decide), if_neg (by show ¬ 5000 < osN n f k s h 0 F; have := os_le n f k s h 0 F; omega)]
        rw [e0]
        exact ⟨⟨⟨rfl, sameRow_refl _ _⟩, .inl rfl, .inl rfl, .inl rfl, ⟨rfl, row1H fun t ht => absurd ht (Nat.not_lt_zero t)⟩, rfl⟩, .inl rfl, rfl⟩
      · have g5 := U.gt_t.mp g5
        exact cl_err (by unfold ofE; rw [if_neg (fun x => x g), if_neg (by omega), if_neg (by rw [g3]; decide), if_pos (by show 5000 < osN n f k s h M F; omega)]) (by decide)
      · have g5 := U.gt_f.mp g5
        have e0 : ofE n f k s h M F = 0 := by unfold ofE; rw [if_neg (fun x => x g), if_neg (by omega), if_neg (by rw [g3]; decide), if_neg (by show ¬ 5000 < osN n f k s h M F; omega)]
        rw [e0]
        exact ⟨⟨⟨rfl, sameRow_refl _ _⟩, .inl rfl, .inl rfl, .inl rfl, ⟨rfl, sameRow_refl _ _⟩, rfl⟩, .inl rfl, rfl⟩
      · exact cl_err (by unfold ofE; rw [if_neg (fun x => x g), if_neg (by omega), if_pos g3]) (by decide)
  · exact hh.elim
end Go.RX.Span

/- Sparse domains: the law of sparse domains: what it calls. -/
set_option linter.unusedVariables false
set_option linter.unusedSimpArgs false
set_option maxRecDepth 100000
namespace Go.RX.Span
open Go Go.RX
attribute [local irreducible] sx conB

noncomputable abbrev kIs : List (Nat × Con) := [(9, c_few), (10, c_awake), (19, c_same), (20, c_CFl), (22, c_Indices), (23, c_Indices), (24, c_Of), (25, c_Of), (26, c_SpPos), (27, c_SpPos), (28, c_SpCheck), (29, c_SpCheck), (30, c_lists)] --%K
theorem kIs_ok : ∀ p ∈ kIs, ConOK P p.1 p.2 := by
  intro p hp
  simp only [kIs, List.mem_cons, List.not_mem_nil, or_false] at hp
  rcases hp with rfl | rfl | rfl | rfl | rfl | rfl | rfl | rfl | rfl | rfl | rfl | rfl | rfl
  · exact few_ok
  · exact awake_ok
  · exact same_ok
  · exact CFl_ok
  · exact Indices_ok
  · exact QIndices_ok
  · exact Of_ok
  · exact QOf_ok
  · exact Pos_ok
  · exact QPos_ok
  · exact SpCheck_ok
  · exact SpQCheck_ok
  · exact lists_ok
noncomputable def c_IrregularSparse : Con := fun args => match args with
  | [.agg [.row [.int .i64, .int .i64, .int .i64] n f, .lit (.int .i64 k), .lit (.int .i64 s), .lit (.int .i64 h), .row [.int .i64] m e], .row [.sl [.int .i64]] M F, .row [.int .i64] L x] => .ask (Row64 n f) (.ret (.lit (.bool true)))
  | _ => .stuck 1
end Go.RX.Span

/- Sparse domains: the law of sparse domains: the walk. -/
set_option linter.unusedVariables false
set_option linter.unusedSimpArgs false
set_option maxRecDepth 100000
namespace Go.RX.Span
open Go Go.RX
attribute [local irreducible] sx conB

set_option maxRecDepth 100000 in
theorem t_ISparse (n : Nat) (f : Nat → R3) (k s h : Int) (m : Nat) (e : Nat → R1) (M : Nat) (F : Nat → RL) (L : Nat) (x : Nat → R1) : conB Go.Proofs.Try.prog (conOf kIs) noLoops 10 4 [.agg [.row [.int .i64, .int .i64, .int .i64] n f, .lit (.int .i64 k), .lit (.int .i64 s), .lit (.int .i64 h), .row [.int .i64] m e], .row [.sl [.int .i64]] M F, .row [.int .i64] L x] =
    T.ask (Row64 n f) (.br (U.not (lk fwB n f m)) (.ret (.lit (.bool true))) (.br (U.gt (Int.ofNat M) (100 : Int)) (.ret (.lit (.bool true))) (.br (U.gt (Int.ofNat L) (10 : Int)) (.ret
      (.lit (.bool true))) (.ask (M ≤ (100 : Nat) ∧ (21 : Nat) = (21 : FuncId)) (.br (lk anyL M F) (.ret (.lit (.bool true))) (.ask (Row64 n f) (.ask (Row64 n f) (.ask (Row64 n f) (.ask
      (Row64 n f) (.ask (Row64 n f) (.ask (Row64 n f) (.ask (Row64 n f) (.ask (Row64 n f) (.br (U.eq (lk spE n f k s h m e) (lk spE n f k s h m e)) (.ask (lk zn (lk spE n f k s h m e) m =
      lk zn (lk spE n f k s h m e) m ∧ lk SameL (lk zn (lk spE n f k s h m e) m) (lk ixF n f k s h e) (lk ixF n f k s h e)) (.br true (.br (U.eq (lk spE n f k s h m e) (lk spE n f k s h m
      e)) (.ask (lk zn (lk ofE n f k s h M F) n ≤ nat_lit 9223372036854775807 ∧ lk zn (lk ofE n f k s h M F) (lk osN n f k s h M F) ≤ nat_lit 9223372036854775807) (.br (lk smB (lk zn (lk
      ofE n f k s h M F) n) f (lk zi (lk ofE n f k s h M F) k) (lk zi (lk ofE n f k s h M F) s) (lk zi (lk ofE n f k s h M F) h) (lk zn (lk ofE n f k s h M F) (lk osN n f k s h M F)) (lk
      osF n f k s h M F) (lk zn (lk ofE n f k s h M F) n) f (lk zi (lk ofE n f k s h M F) k) (lk zi (lk ofE n f k s h M F) s) (lk zi (lk ofE n f k s h M F) h) (lk zn (lk ofE n f k s h M
      F) (lk osN n f k s h M F)) (lk osF n f k s h M F)) (.br (U.eq (lk ofE n f k s h M F) (lk ofE n f k s h M F)) (.br (U.eq (lk spP n f k s h m e L x) (lk spP n f k s h m e L x)) (.br
      (U.beq (lk spH n f k s h m e L x) (lk spH n f k s h m e L x)) (.ret (.lit (.bool true))) (.ret (.lit (.bool false)))) (.ret (.lit (.bool false)))) (.ret (.lit (.bool false)))) (.ret
      (.lit (.bool false))))) (.ret (.lit (.bool false)))) (.ret (.lit (.bool false))))) (.ret (.lit (.bool false))))))))))))))))) := by kernel_rfl
end Go.RX.Span

/- Sparse domains: the law of sparse domains. -/
set_option linter.unusedVariables false
set_option linter.unusedSimpArgs false
set_option maxRecDepth 100000
namespace Go.RX.Span
open Go Go.RX
attribute [local irreducible] sx conB

theorem dn_le {n : Nat} {f : Nat → R3} {k s h q : Int} : dnN n f k s h q ≤ n := by
  unfold dnN
  by_cases g : dnE n f k s h q ≠ 0
  · rw [if_pos g]; exact Nat.zero_le _
  · rw [if_neg g]; exact Nat.le_refl _
theorem ix_same {n : Nat} {f : Nat → R3} {k s h : Int} {e : Nat → R1} {m : Nat} (hn : n ≤ 10) (hm : m ≤ 100000) : SameL m (ixF n f k s h e) (ixF n f k s h e) :=
  ⟨hm, fun i _ => ⟨rfl, by have := dn_le (n := n) (f := f) (k := k) (s := s) (h := h) (q := nv e i); show dnN n f k s h (nv e i) ≤ 100000; omega⟩⟩
theorem zn_le' {E : Int} {N B : Nat} (h : N ≤ B) : zn E N ≤ B := zn_le fun _ => h
theorem IrregularSparse_ok : ConOK P 4 c_IrregularSparse := con_of (allOK mixed kIs_ok) 10 4 fun args r hh => by
  unfold c_IrregularSparse at hh
  split at hh
  · rename_i n f k s h m e M F L x
    have hp := (T.is_ask hh).1
    obtain rfl := T.is_ret (T.is_ask hh).2
    refine T.all_of_eq (t_ISparse n f k s h m e M F L x) ?_
    simp only [lk_eq, Int.ofNat_eq_natCast]
    refine ⟨hp, fun g => rfl, fun g => ⟨fun g2 => rfl, fun g2 => ⟨fun g3 => rfl, fun g3 => ⟨⟨?_, trivial⟩, fun g4 => rfl, fun g4 => ⟨hp, hp, hp, hp, hp, hp, hp, hp, fun g5 => ⟨⟨trivial, ?_⟩, fun g6 => ⟨fun g7 => ⟨⟨?_, ?_⟩, fun g8 => ⟨fun g9 => ⟨fun g10 => ⟨fun g11 => rfl, fun g11 => ?_⟩, fun g10 => ?_⟩, fun g9 => ?_⟩, fun g8 => ?_⟩, fun g7 => ?_⟩, fun g6 => ?_⟩, fun g5 => ?_⟩⟩⟩⟩⟩
    all_goals obtain ⟨hn, hm, _⟩ := fw_is (U.not_f.mp g)
    all_goals have g2' := U.gt_f.mp g2
    · omega
    · exact ix_same hn (by have : zn (spE n f k s h m e) m ≤ 100 := zn_le' hm; omega)
    · exact zn_le' (by omega)
    · exact zn_le' (by have := os_le n f k s h M F; omega)
    · exact absurd rfl (U.beq_f.mp g11)
    · exact absurd rfl (U.eq_f.mp g10)
    · exact absurd rfl (U.eq_f.mp g9)
    · rw [smB_self] at g8; cases g8
    · exact absurd rfl (U.eq_f.mp g7)
    · cases g6
    · exact absurd rfl (U.eq_f.mp g5)
  · exact hh.elim
end Go.RX.Span

