/- Sparse domains: Indices, Position: the walks. -/
import Derived.Test.YtdmocmiidcfhlaaPVh
import Derived.Test.YtdmocmiidcfhlaaPVc
set_option linter.unusedVariables false
set_option linter.unusedSimpArgs false
set_option maxRecDepth 100000
namespace Go.RX.Span
open Go Go.RX
attribute [local irreducible] sx conB

--%R < ↑(\w+)\b => < ((\1 : Nat) : Int)
--%R ↑(\w+) (=|≤) => ((\1 : Nat) : Int) \2
set_option maxRecDepth 100000 in
theorem t_I1 (n : Nat) (f : Nat → R3) (k s h : Int) (m : Nat) (e : Nat → R1) (u : Bool) (N : Nat) (G : Nat → RL) (i : Int) : (sx EIn [] 0 (loopOf P 22 6) (mkS 35 [1,5,8,9,16,17,18] (slI1 u N m e i), memI1 n f k s h m e u N G)).bind (proj 35 [1,5,8,9,16,17,18]) =
    T.br (U.lt i (Int.ofNat m)) (.ask ((0 : Int) ≤ i ∧ i < ((m : Nat) : Int)) (.ask (Row64 n f ∧ I64 (e (U.toNat i)).1) (.ask ((N + (1 : Nat)) * nat_lit 24 ≤ nat_lit 140737488351232)
      (.ret (Ex.normal, [SV.ptr (nat_lit 0) (nat_lit 0), SV.own false (nat_lit 3) (N.add (nat_lit 1)), .row [.int .i64] (lk dnN n f k s h (e (U.toNat i)).1) (lk dnF n f (e (U.toNat
      i)).1), .lit (.int .i64 (lk dnE n f k s h (e (U.toNat i)).1)), .row [.int .i64] m e, .lit (.int .i64 (Int.ofNat m)), .lit (.int .i64 (U.add .i64 i (1 : Int)))], [(nat_lit 0, some
      (Blk.cells [.row [.int .i64, .int .i64, .int .i64] n f, .lit (.int .i64 k), .lit (.int .i64 s), .lit (.int .i64 h), .row [.int .i64] m e] (nat_lit 38))), (nat_lit 1, none), (nat_lit
      0, some (Blk.cells [.row [.int .i64] (lk dnN n f k s h (e (U.toNat i)).1) (lk dnF n f (e (U.toNat i)).1)] (nat_lit 27))), (nat_lit 0, some (Blk.row false (N.add (nat_lit 1)) [.sl
      [.int .i64]] (U.cat N G fun x => ((lk dnN n f k s h (e (U.toNat i)).1, lk dnF n f (e (U.toNat i)).1), PUnit.unit)) (nat_lit 27)))]))))) (.ret (Ex.exit (nat_lit 0), [SV.ptr (nat_lit
      0) (nat_lit 0), SV.own u (nat_lit 1) N, SV.any, SV.any, .row [.int .i64] m e, .lit (.int .i64 (Int.ofNat m)), .lit (.int .i64 i)], [(nat_lit 0, some (Blk.cells [.row [.int .i64,
      .int .i64, .int .i64] n f, .lit (.int .i64 k), .lit (.int .i64 s), .lit (.int .i64 h), .row [.int .i64] m e] (nat_lit 38))), (nat_lit 0, some (Blk.row u N [.sl [.int .i64]] G
      (nat_lit 27)))])) := by kernel_rfl
set_option maxRecDepth 100000 in
theorem t_I2 (n : Nat) (f : Nat → R3) (k s h : Int) (m : Nat) (e : Nat → R1) (N : Nat) (G : Nat → RL) (i : Int) : (sx EIn [] 0 (loopOf P 23 6) (mkS 38 [1,5,7,8,6] (slI2 1 N i), memI2 n f k s h m e N G)).bind (proj 38 [1,5,7,8,6]) =
    T.br (U.lt i (Int.ofNat m)) (.ask ((0 : Int) ≤ i ∧ i < ((m : Nat) : Int)) (.ask (Row64 n f ∧ I64 (e (U.toNat i)).1) (.ask ((N + (1 : Nat)) * nat_lit 24 ≤ nat_lit 140737488351232)
      (.ret (Ex.normal, [SV.ptr (nat_lit 0) (nat_lit 0), SV.own false (nat_lit 3) (N.add (nat_lit 1)), .row [.int .i64] (lk dnN n f k s h (e (U.toNat i)).1) (lk dnF n f (e (U.toNat
      i)).1), .lit (.int .i64 (lk dnE n f k s h (e (U.toNat i)).1)), .lit (.int .i64 (U.add .i64 i (1 : Int)))], [(nat_lit 0, some (Blk.cells [.row [.int .i64, .int .i64, .int .i64] n f,
      .lit (.int .i64 k), .lit (.int .i64 s), .lit (.int .i64 h), .row [.int .i64] m e] (nat_lit 29))), (nat_lit 1, none), (nat_lit 0, some (Blk.cells [.row [.int .i64] (lk dnN n f k s h
      (e (U.toNat i)).1) (lk dnF n f (e (U.toNat i)).1)] (nat_lit 27))), (nat_lit 0, some (Blk.row false (N.add (nat_lit 1)) [.sl [.int .i64]] (U.cat N G fun x => ((lk dnN n f k s h (e
      (U.toNat i)).1, lk dnF n f (e (U.toNat i)).1), PUnit.unit)) (nat_lit 27)))]))))) (.ret (Ex.exit (nat_lit 0), [SV.ptr (nat_lit 0) (nat_lit 0), SV.own false (nat_lit 1) N, SV.any,
      SV.any, .lit (.int .i64 i)], [(nat_lit 0, some (Blk.cells [.row [.int .i64, .int .i64, .int .i64] n f, .lit (.int .i64 k), .lit (.int .i64 s), .lit (.int .i64 h), .row [.int .i64] m
      e] (nat_lit 29))), (nat_lit 0, some (Blk.row false N [.sl [.int .i64]] G (nat_lit 27)))])) := by kernel_rfl
set_option maxRecDepth 100000 in
theorem t_Ind (n : Nat) (f : Nat → R3) (k s h : Int) (m : Nat) (e : Nat → R1) : conB Go.Proofs.Try.prog (conOf kIn) (loopsOf lIn) 10 22 [.agg [.row [.int .i64, .int .i64, .int .i64] n f, .lit (.int .i64 k), .lit (.int .i64 s), .lit (.int .i64 h), .row [.int .i64] m e]] =
    T.ask (Row64 n f) (.br (U.ne (lk spE n f k s h m e) (0 : Int)) (.ret (.tup [.lit (.slice none (nat_lit 0) (nat_lit 0)), .lit (.int .i64 (lk spE n f k s h m e))])) (.ask (lk PreIn
      (nat_lit 0) n f m e ∧ (0 : Nat) = (0 : Nat) ∧ (0 : Nat) = (0 : Nat) ∧ m = m ∧ e = e ∧ ((m : Nat) : Int) = ↑m ∧ (0 : Int) = (0 : Int) ∧ (38 : Nat) = (38 : TypeId)) (.ret (.tup [.row
      [.sl [.int .i64]] m (lk ixF n f k s h e), .lit (.int .i64 0)])))) := by kernel_rfl
set_option maxRecDepth 100000 in
theorem t_Pos (n : Nat) (f : Nat → R3) (k s h : Int) (m : Nat) (e : Nat → R1) (M : Nat) (x : Nat → R1) : conB Go.Proofs.Try.prog (conOf kIn) noLoops 10 26 [.agg [.row [.int .i64, .int .i64, .int .i64] n f, .lit (.int .i64 k), .lit (.int .i64 s), .lit (.int .i64 h), .row [.int .i64] m e], .row [.int .i64] M x] =
    T.ask (Row64 n f) (.br (U.ne (lk spE n f k s h m e) (0 : Int)) (.ret (.tup [.lit (.int .i64 0), .lit (.bool false)])) (.ask (Row64 n f) (.br (U.not (lk hasD n f k s h M x)) (.ret
      (.tup [.lit (.int .i64 0), .lit (.bool false)])) (.ask (lk BsAsk m e) (.br (U.not (lk bsB m e (lk posD n f k s h M x))) (.ret (.tup [.lit (.int .i64 0), .lit (.bool false)])) (.ret
      (.tup [.lit (.int .i64 (Int.ofNat (lk bsI m e (lk posD n f k s h M x)))), .lit (.bool true)]))))))) := by kernel_rfl
end Go.RX.Span

/- Sparse domains: Indices, Position. -/
set_option linter.unusedVariables false
set_option linter.unusedSimpArgs false
set_option maxRecDepth 100000
namespace Go.RX.Span
open Go Go.RX
attribute [local irreducible] sx conB

structure XI1 where
  (n : Nat) (f : Nat → R3) (k s h : Int) (m : Nat) (e : Nat → R1) (i : Nat)
noncomputable abbrev VI1 (q : XI1) : Few := (slI1 (U.isz q.i) q.i q.m q.e q.i, memI1 q.n q.f q.k q.s q.h q.m q.e (U.isz q.i) q.i (ixF q.n q.f q.k q.s q.h q.e))
noncomputable def OI1 (q : XI1) : Ex × Few := (.exit 0, ([.ptr 0 0, .own (U.isz q.m) 1 q.m, .any, .any, .any, .any, .any], memI1 q.n q.f q.k q.s q.h q.m q.e (U.isz q.m) q.m (ixF q.n q.f q.k q.s q.h q.e)))
def PhiI1 (n0 : Nat) (q : XI1) : Prop := PreIn n0 q.n q.f q.m q.e ∧ q.i ≤ q.m
theorem ix_cat {n : Nat} {f : Nat → R3} {k s h : Int} {e : Nat → R1} {i j : Nat} (hj : j < i + 1) :
    U.cat i (ixF n f k s h e) (fun _ => (((dnN n f k s h (e i).1, dnF n f (e i).1), ()) : RL)) j = ixF n f k s h e j := by
  refine (U.cat_eq _ _ _ _).trans ?_
  by_cases h1 : j < i
  · exact if_pos h1
  · obtain rfl : j = i := by omega
    exact if_neg h1
theorem roundI1 (n0 : Nat) (q : XI1) (hq : PhiI1 n0 q) : ((sx EIn [] n0 (loopOf P 22 6) (mkS 35 [1,5,8,9,16,17,18] (VI1 q).1, (VI1 q).2)).bind (proj 35 [1,5,8,9,16,17,18])).All fun r => match r.1 with
      | .normal => ∃ q', PhiI1 n0 q' ∧ q'.m - q'.i < q.m - q.i ∧ Wk 35 [1,5,8,9,16,17,18] n0 r.2 (VI1 q') ∧ ∀ o, o = OI1 q' → o = OI1 q
      | e => ∃ s, (e, s) = OI1 q ∧ Wk 35 [1,5,8,9,16,17,18] n0 r.2 s := by
  obtain ⟨n, f, k, s, h, m, e, i⟩ := q
  obtain ⟨hp, hi⟩ := hq
  have hp : PreIn n0 n f m e := hp
  have hi : i ≤ m := hi
  have hp' := hp
  obtain ⟨h0, hr, hm, hv⟩ := hp'
  subst h0
  refine T.all_of_eq (t_I1 n f k s h m e (U.isz i) i (ixF n f k s h e) (i : Int)) ?_
  by_cases hlt : i < m
  · rw [add1p (j := i) (by omega), tnH]
    simp only [lk_eq]
    refine ⟨fun _ => ⟨⟨by omega, by omega⟩, ⟨hr, hv i hlt⟩, by show (i + 1) * 24 ≤ 140737488351232; omega, ⟨n, f, k, s, h, m, e, i + 1⟩, ⟨hp, hlt⟩, (show m - (i + 1) < m - i by omega), ?_, fun o ho => ho⟩, fun g => absurd (U.lt_f.mp g) (by simp only [Int.ofNat_eq_natCast]; omega)⟩
    exact wk_of [some 0, some 3] rfl (Nat.zero_le _) (ren1z _) ⟨⟨rfl, rfl⟩, ⟨(isz_s i).symm, rfl, rfl⟩, rl_any _, rl_any _, ⟨rfl, row1H fun _ _ => rfl⟩, rfl, rfl, trivial⟩ ⟨⟨rfl, bx_rl⟩, ⟨rfl, (isz_s i).symm, rfl, rowRL fun j hj => ix_cat hj⟩, trivial⟩
  · obtain rfl : i = m := by omega
    refine ⟨fun g => absurd (U.lt_t.mp g) (by simp only [Int.ofNat_eq_natCast]; omega), fun _ => ⟨_, rfl, ?_⟩⟩
    exact wk_of [some 0, some 1] rfl (Nat.zero_le _) (ren1z _) ⟨⟨rfl, rfl⟩, ⟨rfl, rfl, rfl⟩, rl_any _, rl_any _, rl_any _, rl_any _, rl_any _, trivial⟩ ⟨⟨rfl, bx_rl⟩, ⟨rfl, rfl, rfl, rowRL fun _ _ => rfl⟩, trivial⟩
theorem loopI1 : LoopOK P (loopOf P 22 6) (few 35 [1,5,8,9,16,17,18] gI1) :=
  loop_few (E := EIn) mixed EIn_ok loopsOK_none 35 [1,5,8,9,16,17,18] (X := XI1) gI1 (fun _ x => VI1 x) PhiI1 (fun q => q.m - q.i) (fun _ x o => o = OI1 x)
    (fun n0 st r hh => by
      unfold gI1 at hh
      split at hh
      · rename_i n0 p q s1 s2 m' e' M' z w0 n f k s h m e t
        obtain ⟨hp, rfl, rfl, rfl, rfl, rfl, rfl, rfl⟩ := (T.is_ask hh).1
        obtain rfl := T.is_ret (T.is_ask hh).2
        rw [lk_eq] at hp
        have h0 := hp.1
        subst h0
        have zi : U.isz 0 = true := by rw [U.isz_eq]; rfl
        refine ⟨⟨n, f, k, s, h, m', e', 0⟩, ⟨hp, Nat.zero_le _⟩, ?_, fun o ho => ?_⟩
        · exact wk_of [some 0, none] rfl (Nat.zero_le _) (ren1z _) ⟨⟨rfl, rfl⟩, ⟨rfl, zi, rfl⟩, rl_any _, rl_any _, ⟨rfl, row1H fun _ _ => rfl⟩, rfl, rfl, trivial⟩ ⟨⟨rfl, bx_rl⟩, ⟨zi, rfl⟩, trivial⟩
        · rw [ho]; simp only [lk_eq]; rfl
      · exact hh.elim)
    roundI1
structure XI2 where
  (n : Nat) (f : Nat → R3) (k s h : Int) (m : Nat) (e : Nat → R1) (i : Nat)
noncomputable abbrev VI2 (q : XI2) : Few := (slI2 1 q.i q.i, memI2 q.n q.f q.k q.s q.h q.m q.e q.i (ixF q.n q.f q.k q.s q.h q.e))
noncomputable def OI2 (q : XI2) : Ex × Few := (.exit 0, ([.ptr 0 0, .own false 1 q.m, .any, .any, .any], memI2 q.n q.f q.k q.s q.h q.m q.e q.m (ixF q.n q.f q.k q.s q.h q.e)))
def PhiI2 (n0 : Nat) (q : XI2) : Prop := PreIn n0 q.n q.f q.m q.e ∧ q.i ≤ q.m
theorem roundI2 (n0 : Nat) (q : XI2) (hq : PhiI2 n0 q) : ((sx EIn [] n0 (loopOf P 23 6) (mkS 38 [1,5,7,8,6] (VI2 q).1, (VI2 q).2)).bind (proj 38 [1,5,7,8,6])).All fun r => match r.1 with
      | .normal => ∃ q', PhiI2 n0 q' ∧ q'.m - q'.i < q.m - q.i ∧ Wk 38 [1,5,7,8,6] n0 r.2 (VI2 q') ∧ ∀ o, o = OI2 q' → o = OI2 q
      | e => ∃ s, (e, s) = OI2 q ∧ Wk 38 [1,5,7,8,6] n0 r.2 s := by
  obtain ⟨n, f, k, s, h, m, e, i⟩ := q
  obtain ⟨hp, hi⟩ := hq
  have hp : PreIn n0 n f m e := hp
  have hi : i ≤ m := hi
  have hp' := hp
  obtain ⟨h0, hr, hm, hv⟩ := hp'
  subst h0
  refine T.all_of_eq (t_I2 n f k s h m e i (ixF n f k s h e) (i : Int)) ?_
  by_cases hlt : i < m
  · rw [add1p (j := i) (by omega), tnH]
    simp only [lk_eq]
    refine ⟨fun _ => ⟨⟨by omega, by omega⟩, ⟨hr, hv i hlt⟩, by show (i + 1) * 24 ≤ 140737488351232; omega, ⟨n, f, k, s, h, m, e, i + 1⟩, ⟨hp, hlt⟩, (show m - (i + 1) < m - i by omega), ?_, fun o ho => ho⟩, fun g => absurd (U.lt_f.mp g) (by simp only [Int.ofNat_eq_natCast]; omega)⟩
    exact wk_of [some 0, some 3] rfl (Nat.zero_le _) (ren1z _) ⟨⟨rfl, rfl⟩, ⟨rfl, rfl, rfl⟩, rl_any _, rl_any _, rfl, trivial⟩ ⟨⟨rfl, bx_rl⟩, ⟨rfl, rfl, rfl, rowRL fun j hj => ix_cat hj⟩, trivial⟩
  · obtain rfl : i = m := by omega
    refine ⟨fun g => absurd (U.lt_t.mp g) (by simp only [Int.ofNat_eq_natCast]; omega), fun _ => ⟨_, rfl, ?_⟩⟩
    exact wk_of [some 0, some 1] rfl (Nat.zero_le _) (ren1z _) ⟨⟨rfl, rfl⟩, ⟨rfl, rfl, rfl⟩, rl_any _, rl_any _, rl_any _, trivial⟩ ⟨⟨rfl, bx_rl⟩, ⟨rfl, rfl, rfl, rowRL fun _ _ => rfl⟩, trivial⟩
theorem loopI2 : LoopOK P (loopOf P 23 6) (few 38 [1,5,7,8,6] gI2) :=
  loop_few (E := EIn) mixed EIn_ok loopsOK_none 38 [1,5,7,8,6] (X := XI2) gI2 (fun _ x => VI2 x) PhiI2 (fun q => q.m - q.i) (fun _ x o => o = OI2 x)
    (fun n0 st r hh => by
      unfold gI2 at hh
      split at hh
      · rename_i n0 p q b s1 s2 z w0 n f k s h m e t w1 G t'
        obtain ⟨hp, rfl, rfl, rfl, rfl, rfl, rfl⟩ := (T.is_ask hh).1
        obtain rfl := T.is_ret (T.is_ask hh).2
        rw [lk_eq] at hp
        have h0 := hp.1
        subst h0
        refine ⟨⟨n, f, k, s, h, m, e, 0⟩, ⟨hp, Nat.zero_le _⟩, ?_, fun o ho => ?_⟩
        · exact wk_of [some 0, some 1] rfl (Nat.zero_le _) (ren1z _) ⟨⟨rfl, rfl⟩, ⟨rfl, rfl, rfl⟩, rl_any _, rl_any _, rfl, trivial⟩ ⟨⟨rfl, bx_rl⟩, ⟨rfl, rfl, rfl, rowRL fun j hj => absurd hj (Nat.not_lt_zero j)⟩, trivial⟩
        · rw [ho]; simp only [lk_eq]; rfl
      · exact hh.elim)
    roundI2
theorem lIn_ok : ∀ p ∈ lIn, LoopsOK P p.2 (bodyOf P p.1) := by
  intro p hp
  simp only [lIn, List.mem_cons, List.not_mem_nil, or_false] at hp
  rcases hp with rfl | rfl
  · refine loopsOK_of (by kernel_rfl) fun k g hk => ?_
    simp only [List.mem_singleton, Prod.mk.injEq, LoopC.sum.injEq] at hk
    obtain ⟨rfl, rfl⟩ := hk
    exact loopI1
  · refine loopsOK_of (by kernel_rfl) fun k g hk => ?_
    simp only [List.mem_singleton, Prod.mk.injEq, LoopC.sum.injEq] at hk
    obtain ⟨rfl, rfl⟩ := hk
    exact loopI2
theorem sp_i64 {n : Nat} {f : Nat → R3} {k s h : Int} {m : Nat} {e : Nat → R1} (g : spE n f k s h m e = 0) : m ≤ 5000 ∧ ∀ i, i < m → I64 (nv e i) := by
  obtain ⟨_, h1, _, h2, h3⟩ := sp_bs g
  refine ⟨h1, fun i hi => ?_⟩
  have := h3 i hi
  unfold I64; omega
theorem cl_errL {E E' : Int} (hE : E = E') (h0 : E ≠ 0) {N : Nat} {G : Nat → RL} :
    Cl (SV.tup [.lit (.slice none 0 0), .lit (.int .i64 E)]) (.tup [.row [.sl [.int .i64]] (zn E' N) G, .lit (.int .i64 E')]) := by
  subst hE
  rw [zn_e h0]
  exact ⟨cl_nil, .inl rfl, rfl⟩
theorem Indices_ok : ConOK P 22 c_Indices := con_cl (allOKL mixed kIn_ok lIn_ok) 10 22 fun args r hh => by
  unfold c_Indices at hh
  split at hh
  · rename_i n f k s h m e
    have hp := (T.is_ask hh).1
    obtain rfl := T.is_ret (T.is_ask hh).2
    refine T.all_of_eq (t_Ind n f k s h m e) ?_
    simp only [lk_eq]
    refine ⟨hp, fun g => cl_errL rfl (U.ne_t.mp g), fun g => ?_⟩
    have g := U.ne_f.mp g
    obtain ⟨h1, h2⟩ := sp_i64 g
    refine ⟨⟨⟨rfl, hp, h1, h2⟩, trivial, trivial, trivial, trivial, trivial, trivial, trivial⟩, ?_⟩
    rw [g]
    exact ⟨⟨rfl, sameRow_refl _ _⟩, .inl rfl, rfl⟩
  · exact hh.elim
/-! Position. -/
theorem bsB_t {m : Nat} {e : Nat → R1} {p : Int} : bsB m e p = true ↔ ∃ i, i < m ∧ nv e i = p := by unfold bsB; exact decide_eq_true_iff
theorem bsB_f {m : Nat} {e : Nat → R1} {p : Int} : bsB m e p = false ↔ ¬ ∃ i, i < m ∧ nv e i = p := by unfold bsB; exact decide_eq_false_iff_not
theorem bsI_at {m : Nat} {e : Nat → R1} {i : Nat} (h : BsAsk m e) (hi : i < m) : bsI m e (nv e i) = i :=
  bsI_of (by omega) (fun j hj => h.2 j i hj hi) (fun j hj hm => by
    by_cases g : i = j
    · subst g; exact Int.le_refl _
    · have := h.2 i j (by omega) hm; omega)
section
variable {n : Nat} {f : Nat → R3} {k s h : Int} {m : Nat} {e : Nat → R1} {M : Nat} {x : Nat → R1}
theorem spH_t : spH n f k s h m e M x = true ↔ spE n f k s h m e = 0 ∧ hasD n f k s h M x = true ∧ bsB m e (posD n f k s h M x) = true := by unfold spH; exact decide_eq_true_iff
theorem sp_no (g : ¬ (spE n f k s h m e = 0 ∧ hasD n f k s h M x = true ∧ bsB m e (posD n f k s h M x) = true)) : (SV.tup [.lit (.int .i64 0), .lit (.bool false)]) = .tup [.lit (.int .i64 (spP n f k s h m e M x)), .lit (.bool (spH n f k s h m e M x))] := by
  have hf : spH n f k s h m e M x = false := by
    cases hb : spH n f k s h m e M x
    · rfl
    · exact absurd (spH_t.1 hb) g
  unfold spP
  rw [hf, if_neg (by decide)]
theorem sp_yes (g : spE n f k s h m e = 0 ∧ hasD n f k s h M x = true ∧ bsB m e (posD n f k s h M x) = true) : (SV.tup [.lit (.int .i64 ((bsI m e (posD n f k s h M x) : Nat) : Int)), .lit (.bool true)]) = .tup [.lit (.int .i64 (spP n f k s h m e M x)), .lit (.bool (spH n f k s h m e M x))] := by
  have hf := spH_t.2 g
  unfold spP
  rw [hf, if_pos rfl]
end
theorem Pos_ok : ConOK P 26 c_SpPos := con_of (allOK mixed kIn_ok) 10 26 fun args r hh => by
  unfold c_SpPos at hh
  split at hh
  · rename_i n f k s h m e M x
    have hp := (T.is_ask hh).1
    obtain rfl := T.is_ret (T.is_ask hh).2
    refine T.all_of_eq (t_Pos n f k s h m e M x) ?_
    simp only [lk_eq, Int.ofNat_eq_natCast]
    refine ⟨hp, fun g => sp_no fun q => U.ne_t.mp g q.1, fun g => ⟨hp, fun g2 => sp_no fun q => ?_, fun g2 => ⟨(sp_bs (U.ne_f.mp g)).1, fun g3 => sp_no fun q => ?_, fun g3 => sp_yes ⟨U.ne_f.mp g, U.not_f.mp g2, U.not_f.mp g3⟩⟩⟩⟩
    · have := U.not_t.mp g2; rw [q.2.1] at this; cases this
    · have := U.not_t.mp g3; rw [q.2.2] at this; cases this
  · exact hh.elim
/-! Long indices. -/
/-! Lists of lists compared. -/
end Go.RX.Span

/- Sparse domains: the reference's Of: the states. -/
set_option linter.unusedVariables false
set_option linter.unusedSimpArgs false
set_option maxRecDepth 100000
namespace Go.RX.Span
open Go Go.RX
attribute [local irreducible] sx conB

end Go.RX.Span

/- Sparse domains: the reference's Of: the walks. -/
set_option linter.unusedVariables false
set_option linter.unusedSimpArgs false
set_option maxRecDepth 100000
namespace Go.RX.Span
open Go Go.RX
attribute [local irreducible] sx conB

--%R < ↑(\w+)\b => < ((\1 : Nat) : Int)
--%R ↑(\w+) (=|≤) => ((\1 : Nat) : Int) \2
end Go.RX.Span

/- Sparse domains: the reference's Of. -/
set_option linter.unusedVariables false
set_option linter.unusedSimpArgs false
set_option maxRecDepth 100000
namespace Go.RX.Span
open Go Go.RX
attribute [local irreducible] sx conB

end Go.RX.Span

/- Sparse domains: the law of sparse domains: what it calls. -/
set_option linter.unusedVariables false
set_option linter.unusedSimpArgs false
set_option maxRecDepth 100000
namespace Go.RX.Span
open Go Go.RX
attribute [local irreducible] sx conB

end Go.RX.Span

/- Sparse domains: the law of sparse domains: the walk. -/
set_option linter.unusedVariables false
set_option linter.unusedSimpArgs false
set_option maxRecDepth 100000
namespace Go.RX.Span
open Go Go.RX
attribute [local irreducible] sx conB

end Go.RX.Span

/- Sparse domains: the law of sparse domains. -/
set_option linter.unusedVariables false
set_option linter.unusedSimpArgs false
set_option maxRecDepth 100000
namespace Go.RX.Span
open Go Go.RX
attribute [local irreducible] sx conB

end Go.RX.Span

/- Sparse domains: ascending lists merged: plain; the states. -/
set_option linter.unusedVariables false
set_option linter.unusedSimpArgs false
set_option maxRecDepth 100000
namespace Go.RX.Span
open Go Go.RX
attribute [local irreducible] sx conB

theorem force_all {α : Type} {K : α → Prop} : ∀ (t : T α) (l : List Bool), (t.force l).All K → t.All K
  | .ret a, _, h => h
  | .stuck n, _, h => h
  | .ask p t, l, h => ⟨h.1, force_all t l h.2⟩
  | .br c x y, [], h => h
  | .br c x y, true :: l, h => ⟨fun _ => force_all x l h.2, fun g => absurd (h.1.symm.trans g) (by decide)⟩
  | .br c x y, false :: l, h => ⟨fun g => absurd (g.symm.trans h.1) (by decide), fun _ => force_all y l h.2⟩
/-- The numbers of two lists that are taken. -/
def mgL (tk : Bool → Bool → Bool) (a b : List Int) : List Int := (ofL (a ++ b)).filter fun x => tk (decide (x ∈ a)) (decide (x ∈ b))
/-- Which are taken: by the function's number. -/
def tkG (g : Nat) (x y : Bool) : Bool := if g = 82 then true else if g = 83 then x && y else !y
section
variable (g n : Nat) (a : Nat → R1) (m : Nat) (b : Nat → R1)
def mgN : Nat := (mgL (tkG g) (nl n a) (nl m b)).length
def mgF : Nat → R1 := lF (mgL (tkG g) (nl n a) (nl m b))
def PreMg : Prop := BsAsk n a ∧ BsAsk m b
end
noncomputable abbrev slMg (p : Nat) (a : Nat → R1) (q : Nat) (b : Nat → R1) (g : Nat) (u : Bool) (N : Nat) : List SV := [.row [.int .i64] p a, .row [.int .i64] q b, .fn (.func g) [] [], .own u 0 N, .any, .any, .any]
noncomputable abbrev memMg (u : Bool) (N : Nat) (G : Nat → R1) : Mem := [(0, some (.row u N [.int .i64] G 3))]
noncomputable def gMg : Nat → Few → T (Ex × Few)
  | n0, ([.row [.int .i64] p a, .row [.int .i64] q b, .fn (.func g) [] [], .lit (.slice none 0 0), _, _, _], []) =>
    .ask (n0 = 0 ∧ lk PreMg p a q b ∧ (g = 82 ∨ g = 83 ∨ g = 84))
      (.ret (.exit 0, ([.any, .any, .any, .own (U.isz (lk mgN g p a q b)) 0 (lk mgN g p a q b), .any, .any, .any], memMg (U.isz (lk mgN g p a q b)) (lk mgN g p a q b) (lk mgF g p a q b))))
  | _, _ => .stuck 1
noncomputable abbrev lMg : List (Nat × Loops) := [(125, [(2, .sum (few 74 [0,1,2,7,8,9,10] gMg))])] --%K
noncomputable def c_merged : Con := fun args => match args with
  | [.row [.int .i64] p a, .row [.int .i64] q b, .fn (.func g) [] []] => .ask (lk PreMg p a q b ∧ (g = 82 ∨ g = 83 ∨ g = 84)) (.ret (.row [.int .i64] (lk mgN g p a q b) (lk mgF g p a q b)))
  | _ => .stuck 1
end Go.RX.Span

/- Sparse domains: ascending lists merged: the walks. -/
set_option linter.unusedVariables false
set_option linter.unusedSimpArgs false
set_option maxRecDepth 100000
namespace Go.RX.Span
open Go Go.RX
attribute [local irreducible] sx conB

--%R < ↑(\w+)\b => < ((\1 : Nat) : Int)
--%R ↑(\w+) (=|≤) => ((\1 : Nat) : Int) \2
--%R ≤ ↑(\w+)\b => ≤ ((\1 : Nat) : Int)
set_option maxRecDepth 100000 in
theorem t_M82A (p : Nat) (a : Nat → R1) (q : Nat) (b : Nat → R1) (u : Bool) (N : Nat) (G : Nat → R1) : ((sx E0 [] 0 (loopOf P 125 2) (mkS 74 [0,1,2,7,8,9,10] (slMg p a q b 82 u N), memMg u N G)).bind (proj 74 [0,1,2,7,8,9,10])).force [true, true, true, false] =
    T.ask (U.gt (Int.ofNat p) (0 : Int) = true) (.ask (U.gt (Int.ofNat p) (0 : Int) = true) (.ask (U.eq (Int.ofNat q) (0 : Int) = true) (.ask (U.gt (Int.ofNat q) (0 : Int) = false)
      (.ask ((0 : Int) ≤ (0 : Int) ∧ (0 : Int) < ((p : Nat) : Int)) (.ask ((0 : Int) ≤ (1 : Int) ∧ (1 : Int) ≤ ((p : Nat) : Int) ∧ ((p : Nat) : Int) ≤ ((p : Nat) : Int)) (.ask ((N + (1 :
      Nat)) * nat_lit 8 ≤ nat_lit 140737488351232) (.ret (Ex.normal, [.row [.int .i64] (U.nsub p (U.toNat (1 : Int))) fun i => a (i + U.toNat (1 : Int)), .row [.int .i64] q b, SV.fn
      (Fn.func (nat_lit 82)) [] [], SV.own false (nat_lit 2) (N.add (nat_lit 1)), SV.kb true, SV.kb false, .lit (.int .i64 (a (U.toNat (0 : Int))).1)], [(nat_lit 1, none), (nat_lit 0,
      some (Blk.cells [.lit (.int .i64 (a (U.toNat (0 : Int))).1)] (nat_lit 3))), (nat_lit 0, some (Blk.row false (N.add (nat_lit 1)) [.int .i64] (U.cat N G fun x => ((a (U.toNat (0 :
      Int))).1, PUnit.unit)) (nat_lit 3)))])))))))) := by kernel_rfl
set_option maxRecDepth 100000 in
theorem t_M82B (p : Nat) (a : Nat → R1) (q : Nat) (b : Nat → R1) (u : Bool) (N : Nat) (G : Nat → R1) : ((sx E0 [] 0 (loopOf P 125 2) (mkS 74 [0,1,2,7,8,9,10] (slMg p a q b 82 u N), memMg u N G)).bind (proj 74 [0,1,2,7,8,9,10])).force [false, true, false, true, true] =
    T.ask (U.gt (Int.ofNat p) (0 : Int) = false) (.ask (U.gt (Int.ofNat q) (0 : Int) = true) (.ask (U.gt (Int.ofNat p) (0 : Int) = false) (.ask (U.gt (Int.ofNat q) (0 : Int) = true)
      (.ask (U.eq (Int.ofNat p) (0 : Int) = true) (.ask ((0 : Int) ≤ (0 : Int) ∧ (0 : Int) < ((q : Nat) : Int)) (.ask ((0 : Int) ≤ (1 : Int) ∧ (1 : Int) ≤ ((q : Nat) : Int) ∧ ((q : Nat) :
      Int) ≤ ((q : Nat) : Int)) (.ask ((N + (1 : Nat)) * nat_lit 8 ≤ nat_lit 140737488351232) (.ret (Ex.normal, [.row [.int .i64] p a, .row [.int .i64] (U.nsub q (U.toNat (1 : Int))) fun
      i => b (i + U.toNat (1 : Int)), SV.fn (Fn.func (nat_lit 82)) [] [], SV.own false (nat_lit 2) (N.add (nat_lit 1)), SV.kb false, SV.kb true, .lit (.int .i64 (b (U.toNat (0 :
      Int))).1)], [(nat_lit 1, none), (nat_lit 0, some (Blk.cells [.lit (.int .i64 (b (U.toNat (0 : Int))).1)] (nat_lit 3))), (nat_lit 0, some (Blk.row false (N.add (nat_lit 1)) [.int
      .i64] (U.cat N G fun x => ((b (U.toNat (0 : Int))).1, PUnit.unit)) (nat_lit 3)))]))))))))) := by kernel_rfl
set_option maxRecDepth 100000 in
theorem t_M82C (p : Nat) (a : Nat → R1) (q : Nat) (b : Nat → R1) (u : Bool) (N : Nat) (G : Nat → R1) : ((sx E0 [] 0 (loopOf P 125 2) (mkS 74 [0,1,2,7,8,9,10] (slMg p a q b 82 u N), memMg u N G)).bind (proj 74 [0,1,2,7,8,9,10])).force [true, true, false, true, false, true, false] =
    T.ask (U.gt (Int.ofNat p) (0 : Int) = true) (.ask (U.gt (Int.ofNat p) (0 : Int) = true) (.ask (U.eq (Int.ofNat q) (0 : Int) = false) (.ask ((0 : Int) ≤ (0 : Int) ∧ (0 : Int) < ((p :
      Nat) : Int)) (.ask ((0 : Int) ≤ (0 : Int) ∧ (0 : Int) < ((q : Nat) : Int)) (.ask (U.gt (Int.ofNat q) (0 : Int) = true) (.ask (U.eq (Int.ofNat p) (0 : Int) = false) (.ask ((0 : Int)
      ≤ (0 : Int) ∧ (0 : Int) < ((q : Nat) : Int)) (.ask ((0 : Int) ≤ (0 : Int) ∧ (0 : Int) < ((p : Nat) : Int)) (.ask (U.le (a (U.toNat (0 : Int))).1 (b (U.toNat (0 : Int))).1 = true)
      (.ask ((0 : Int) ≤ (0 : Int) ∧ (0 : Int) < ((p : Nat) : Int)) (.ask ((0 : Int) ≤ (1 : Int) ∧ (1 : Int) ≤ ((p : Nat) : Int) ∧ ((p : Nat) : Int) ≤ ((p : Nat) : Int)) (.ask (U.le (b
      (U.toNat (0 : Int))).1 (a (U.toNat (0 : Int))).1 = false) (.ask ((N + (1 : Nat)) * nat_lit 8 ≤ nat_lit 140737488351232) (.ret (Ex.normal, [.row [.int .i64] (U.nsub p (U.toNat (1 :
      Int))) fun i => a (i + U.toNat (1 : Int)), .row [.int .i64] q b, SV.fn (Fn.func (nat_lit 82)) [] [], SV.own false (nat_lit 2) (N.add (nat_lit 1)), .lit (.bool (U.le (a (U.toNat (0 :
      Int))).1 (b (U.toNat (0 : Int))).1)), .lit (.bool (U.le (b (U.toNat (0 : Int))).1 (a (U.toNat (0 : Int))).1)), .lit (.int .i64 (a (U.toNat (0 : Int))).1)], [(nat_lit 1, none),
      (nat_lit 0, some (Blk.cells [.lit (.int .i64 (a (U.toNat (0 : Int))).1)] (nat_lit 3))), (nat_lit 0, some (Blk.row false (N.add (nat_lit 1)) [.int .i64] (U.cat N G fun x => ((a
      (U.toNat (0 : Int))).1, PUnit.unit)) (nat_lit 3)))]))))))))))))))) := by kernel_rfl
set_option maxRecDepth 100000 in
theorem t_M82D (p : Nat) (a : Nat → R1) (q : Nat) (b : Nat → R1) (u : Bool) (N : Nat) (G : Nat → R1) : ((sx E0 [] 0 (loopOf P 125 2) (mkS 74 [0,1,2,7,8,9,10] (slMg p a q b 82 u N), memMg u N G)).bind (proj 74 [0,1,2,7,8,9,10])).force [true, true, false, true, false, false, true] =
    T.ask (U.gt (Int.ofNat p) (0 : Int) = true) (.ask (U.gt (Int.ofNat p) (0 : Int) = true) (.ask (U.eq (Int.ofNat q) (0 : Int) = false) (.ask ((0 : Int) ≤ (0 : Int) ∧ (0 : Int) < ((p :
      Nat) : Int)) (.ask ((0 : Int) ≤ (0 : Int) ∧ (0 : Int) < ((q : Nat) : Int)) (.ask (U.gt (Int.ofNat q) (0 : Int) = true) (.ask (U.eq (Int.ofNat p) (0 : Int) = false) (.ask ((0 : Int)
      ≤ (0 : Int) ∧ (0 : Int) < ((q : Nat) : Int)) (.ask ((0 : Int) ≤ (0 : Int) ∧ (0 : Int) < ((p : Nat) : Int)) (.ask (U.le (a (U.toNat (0 : Int))).1 (b (U.toNat (0 : Int))).1 = false)
      (.ask (U.le (b (U.toNat (0 : Int))).1 (a (U.toNat (0 : Int))).1 = true) (.ask ((0 : Int) ≤ (0 : Int) ∧ (0 : Int) < ((q : Nat) : Int)) (.ask ((0 : Int) ≤ (1 : Int) ∧ (1 : Int) ≤ ((q
      : Nat) : Int) ∧ ((q : Nat) : Int) ≤ ((q : Nat) : Int)) (.ask ((N + (1 : Nat)) * nat_lit 8 ≤ nat_lit 140737488351232) (.ret (Ex.normal, [.row [.int .i64] p a, .row [.int .i64]
      (U.nsub q (U.toNat (1 : Int))) fun i => b (i + U.toNat (1 : Int)), SV.fn (Fn.func (nat_lit 82)) [] [], SV.own false (nat_lit 2) (N.add (nat_lit 1)), .lit (.bool (U.le (a (U.toNat (0
      : Int))).1 (b (U.toNat (0 : Int))).1)), .lit (.bool (U.le (b (U.toNat (0 : Int))).1 (a (U.toNat (0 : Int))).1)), .lit (.int .i64 (b (U.toNat (0 : Int))).1)], [(nat_lit 1, none),
      (nat_lit 0, some (Blk.cells [.lit (.int .i64 (b (U.toNat (0 : Int))).1)] (nat_lit 3))), (nat_lit 0, some (Blk.row false (N.add (nat_lit 1)) [.int .i64] (U.cat N G fun x => ((b
      (U.toNat (0 : Int))).1, PUnit.unit)) (nat_lit 3)))]))))))))))))))) := by kernel_rfl
set_option maxRecDepth 100000 in
theorem t_M82E (p : Nat) (a : Nat → R1) (q : Nat) (b : Nat → R1) (u : Bool) (N : Nat) (G : Nat → R1) : ((sx E0 [] 0 (loopOf P 125 2) (mkS 74 [0,1,2,7,8,9,10] (slMg p a q b 82 u N), memMg u N G)).bind (proj 74 [0,1,2,7,8,9,10])).force [true, true, false, true, false, true, true] =
    T.ask (U.gt (Int.ofNat p) (0 : Int) = true) (.ask (U.gt (Int.ofNat p) (0 : Int) = true) (.ask (U.eq (Int.ofNat q) (0 : Int) = false) (.ask ((0 : Int) ≤ (0 : Int) ∧ (0 : Int) < ((p :
      Nat) : Int)) (.ask ((0 : Int) ≤ (0 : Int) ∧ (0 : Int) < ((q : Nat) : Int)) (.ask (U.gt (Int.ofNat q) (0 : Int) = true) (.ask (U.eq (Int.ofNat p) (0 : Int) = false) (.ask ((0 : Int)
      ≤ (0 : Int) ∧ (0 : Int) < ((q : Nat) : Int)) (.ask ((0 : Int) ≤ (0 : Int) ∧ (0 : Int) < ((p : Nat) : Int)) (.ask (U.le (a (U.toNat (0 : Int))).1 (b (U.toNat (0 : Int))).1 = true)
      (.ask ((0 : Int) ≤ (0 : Int) ∧ (0 : Int) < ((p : Nat) : Int)) (.ask ((0 : Int) ≤ (1 : Int) ∧ (1 : Int) ≤ ((p : Nat) : Int) ∧ ((p : Nat) : Int) ≤ ((p : Nat) : Int)) (.ask (U.le (b
      (U.toNat (0 : Int))).1 (a (U.toNat (0 : Int))).1 = true) (.ask ((0 : Int) ≤ (0 : Int) ∧ (0 : Int) < ((q : Nat) : Int)) (.ask ((0 : Int) ≤ (1 : Int) ∧ (1 : Int) ≤ ((q : Nat) : Int) ∧
      ((q : Nat) : Int) ≤ ((q : Nat) : Int)) (.ask ((N + (1 : Nat)) * nat_lit 8 ≤ nat_lit 140737488351232) (.ret (Ex.normal, [.row [.int .i64] (U.nsub p (U.toNat (1 : Int))) fun i => a (i
      + U.toNat (1 : Int)), .row [.int .i64] (U.nsub q (U.toNat (1 : Int))) fun i => b (i + U.toNat (1 : Int)), SV.fn (Fn.func (nat_lit 82)) [] [], SV.own false (nat_lit 2) (N.add
      (nat_lit 1)), .lit (.bool (U.le (a (U.toNat (0 : Int))).1 (b (U.toNat (0 : Int))).1)), .lit (.bool (U.le (b (U.toNat (0 : Int))).1 (a (U.toNat (0 : Int))).1)), .lit (.int .i64 (b
      (U.toNat (0 : Int))).1)], [(nat_lit 1, none), (nat_lit 0, some (Blk.cells [.lit (.int .i64 (b (U.toNat (0 : Int))).1)] (nat_lit 3))), (nat_lit 0, some (Blk.row false (N.add (nat_lit
      1)) [.int .i64] (U.cat N G fun x => ((b (U.toNat (0 : Int))).1, PUnit.unit)) (nat_lit 3)))]))))))))))))))))) := by kernel_rfl
set_option maxRecDepth 100000 in
theorem t_M83A (p : Nat) (a : Nat → R1) (q : Nat) (b : Nat → R1) (u : Bool) (N : Nat) (G : Nat → R1) : ((sx E0 [] 0 (loopOf P 125 2) (mkS 74 [0,1,2,7,8,9,10] (slMg p a q b 83 u N), memMg u N G)).bind (proj 74 [0,1,2,7,8,9,10])).force [true, true, true, false] =
    T.ask (U.gt (Int.ofNat p) (0 : Int) = true) (.ask (U.gt (Int.ofNat p) (0 : Int) = true) (.ask (U.eq (Int.ofNat q) (0 : Int) = true) (.ask (U.gt (Int.ofNat q) (0 : Int) = false)
      (.ask ((0 : Int) ≤ (0 : Int) ∧ (0 : Int) < ((p : Nat) : Int)) (.ask ((0 : Int) ≤ (1 : Int) ∧ (1 : Int) ≤ ((p : Nat) : Int) ∧ ((p : Nat) : Int) ≤ ((p : Nat) : Int)) (.ret (Ex.normal,
      [.row [.int .i64] (U.nsub p (U.toNat (1 : Int))) fun i => a (i + U.toNat (1 : Int)), .row [.int .i64] q b, SV.fn (Fn.func (nat_lit 83)) [] [], SV.own u (nat_lit 0) N, SV.kb true,
      SV.kb false, .lit (.int .i64 (a (U.toNat (0 : Int))).1)], [(nat_lit 0, some (Blk.row u N [.int .i64] G (nat_lit 3)))]))))))) := by kernel_rfl
set_option maxRecDepth 100000 in
theorem t_M83B (p : Nat) (a : Nat → R1) (q : Nat) (b : Nat → R1) (u : Bool) (N : Nat) (G : Nat → R1) : ((sx E0 [] 0 (loopOf P 125 2) (mkS 74 [0,1,2,7,8,9,10] (slMg p a q b 83 u N), memMg u N G)).bind (proj 74 [0,1,2,7,8,9,10])).force [false, true, false, true, true] =
    T.ask (U.gt (Int.ofNat p) (0 : Int) = false) (.ask (U.gt (Int.ofNat q) (0 : Int) = true) (.ask (U.gt (Int.ofNat p) (0 : Int) = false) (.ask (U.gt (Int.ofNat q) (0 : Int) = true)
      (.ask (U.eq (Int.ofNat p) (0 : Int) = true) (.ask ((0 : Int) ≤ (0 : Int) ∧ (0 : Int) < ((q : Nat) : Int)) (.ask ((0 : Int) ≤ (1 : Int) ∧ (1 : Int) ≤ ((q : Nat) : Int) ∧ ((q : Nat) :
      Int) ≤ ((q : Nat) : Int)) (.ret (Ex.normal, [.row [.int .i64] p a, .row [.int .i64] (U.nsub q (U.toNat (1 : Int))) fun i => b (i + U.toNat (1 : Int)), SV.fn (Fn.func (nat_lit 83))
      [] [], SV.own u (nat_lit 0) N, SV.kb false, SV.kb true, .lit (.int .i64 (b (U.toNat (0 : Int))).1)], [(nat_lit 0, some (Blk.row u N [.int .i64] G (nat_lit 3)))])))))))) := by kernel_rfl
set_option maxRecDepth 100000 in
theorem t_M83C (p : Nat) (a : Nat → R1) (q : Nat) (b : Nat → R1) (u : Bool) (N : Nat) (G : Nat → R1) : ((sx E0 [] 0 (loopOf P 125 2) (mkS 74 [0,1,2,7,8,9,10] (slMg p a q b 83 u N), memMg u N G)).bind (proj 74 [0,1,2,7,8,9,10])).force [true, true, false, true, false, true, false, true, false] =
    T.ask (U.gt (Int.ofNat p) (0 : Int) = true) (.ask (U.gt (Int.ofNat p) (0 : Int) = true) (.ask (U.eq (Int.ofNat q) (0 : Int) = false) (.ask ((0 : Int) ≤ (0 : Int) ∧ (0 : Int) < ((p :
      Nat) : Int)) (.ask ((0 : Int) ≤ (0 : Int) ∧ (0 : Int) < ((q : Nat) : Int)) (.ask (U.gt (Int.ofNat q) (0 : Int) = true) (.ask (U.eq (Int.ofNat p) (0 : Int) = false) (.ask ((0 : Int)
      ≤ (0 : Int) ∧ (0 : Int) < ((q : Nat) : Int)) (.ask ((0 : Int) ≤ (0 : Int) ∧ (0 : Int) < ((p : Nat) : Int)) (.ask (U.le (a (U.toNat (0 : Int))).1 (b (U.toNat (0 : Int))).1 = true)
      (.ask ((0 : Int) ≤ (0 : Int) ∧ (0 : Int) < ((p : Nat) : Int)) (.ask ((0 : Int) ≤ (1 : Int) ∧ (1 : Int) ≤ ((p : Nat) : Int) ∧ ((p : Nat) : Int) ≤ ((p : Nat) : Int)) (.ask (U.le (b
      (U.toNat (0 : Int))).1 (a (U.toNat (0 : Int))).1 = false) (.ask (U.le (a (U.toNat (0 : Int))).1 (b (U.toNat (0 : Int))).1 = true) (.ask (U.le (b (U.toNat (0 : Int))).1 (a (U.toNat
      (0 : Int))).1 = false) (.ret (Ex.normal, [.row [.int .i64] (U.nsub p (U.toNat (1 : Int))) fun i => a (i + U.toNat (1 : Int)), .row [.int .i64] q b, SV.fn (Fn.func (nat_lit 83)) []
      [], SV.own u (nat_lit 0) N, .lit (.bool (U.le (a (U.toNat (0 : Int))).1 (b (U.toNat (0 : Int))).1)), .lit (.bool (U.le (b (U.toNat (0 : Int))).1 (a (U.toNat (0 : Int))).1)), .lit
      (.int .i64 (a (U.toNat (0 : Int))).1)], [(nat_lit 0, some (Blk.row u N [.int .i64] G (nat_lit 3)))])))))))))))))))) := by kernel_rfl
set_option maxRecDepth 100000 in
theorem t_M83D (p : Nat) (a : Nat → R1) (q : Nat) (b : Nat → R1) (u : Bool) (N : Nat) (G : Nat → R1) : ((sx E0 [] 0 (loopOf P 125 2) (mkS 74 [0,1,2,7,8,9,10] (slMg p a q b 83 u N), memMg u N G)).bind (proj 74 [0,1,2,7,8,9,10])).force [true, true, false, true, false, false, true, false] =
    T.ask (U.gt (Int.ofNat p) (0 : Int) = true) (.ask (U.gt (Int.ofNat p) (0 : Int) = true) (.ask (U.eq (Int.ofNat q) (0 : Int) = false) (.ask ((0 : Int) ≤ (0 : Int) ∧ (0 : Int) < ((p :
      Nat) : Int)) (.ask ((0 : Int) ≤ (0 : Int) ∧ (0 : Int) < ((q : Nat) : Int)) (.ask (U.gt (Int.ofNat q) (0 : Int) = true) (.ask (U.eq (Int.ofNat p) (0 : Int) = false) (.ask ((0 : Int)
      ≤ (0 : Int) ∧ (0 : Int) < ((q : Nat) : Int)) (.ask ((0 : Int) ≤ (0 : Int) ∧ (0 : Int) < ((p : Nat) : Int)) (.ask (U.le (a (U.toNat (0 : Int))).1 (b (U.toNat (0 : Int))).1 = false)
      (.ask (U.le (b (U.toNat (0 : Int))).1 (a (U.toNat (0 : Int))).1 = true) (.ask ((0 : Int) ≤ (0 : Int) ∧ (0 : Int) < ((q : Nat) : Int)) (.ask ((0 : Int) ≤ (1 : Int) ∧ (1 : Int) ≤ ((q
      : Nat) : Int) ∧ ((q : Nat) : Int) ≤ ((q : Nat) : Int)) (.ask (U.le (a (U.toNat (0 : Int))).1 (b (U.toNat (0 : Int))).1 = false) (.ret (Ex.normal, [.row [.int .i64] p a, .row [.int
      .i64] (U.nsub q (U.toNat (1 : Int))) fun i => b (i + U.toNat (1 : Int)), SV.fn (Fn.func (nat_lit 83)) [] [], SV.own u (nat_lit 0) N, .lit (.bool (U.le (a (U.toNat (0 : Int))).1 (b
      (U.toNat (0 : Int))).1)), .lit (.bool (U.le (b (U.toNat (0 : Int))).1 (a (U.toNat (0 : Int))).1)), .lit (.int .i64 (b (U.toNat (0 : Int))).1)], [(nat_lit 0, some (Blk.row u N [.int
      .i64] G (nat_lit 3)))]))))))))))))))) := by kernel_rfl
set_option maxRecDepth 100000 in
theorem t_M83E (p : Nat) (a : Nat → R1) (q : Nat) (b : Nat → R1) (u : Bool) (N : Nat) (G : Nat → R1) : ((sx E0 [] 0 (loopOf P 125 2) (mkS 74 [0,1,2,7,8,9,10] (slMg p a q b 83 u N), memMg u N G)).bind (proj 74 [0,1,2,7,8,9,10])).force [true, true, false, true, false, true, true, true, true] =
    T.ask (U.gt (Int.ofNat p) (0 : Int) = true) (.ask (U.gt (Int.ofNat p) (0 : Int) = true) (.ask (U.eq (Int.ofNat q) (0 : Int) = false) (.ask ((0 : Int) ≤ (0 : Int) ∧ (0 : Int) < ((p :
      Nat) : Int)) (.ask ((0 : Int) ≤ (0 : Int) ∧ (0 : Int) < ((q : Nat) : Int)) (.ask (U.gt (Int.ofNat q) (0 : Int) = true) (.ask (U.eq (Int.ofNat p) (0 : Int) = false) (.ask ((0 : Int)
      ≤ (0 : Int) ∧ (0 : Int) < ((q : Nat) : Int)) (.ask ((0 : Int) ≤ (0 : Int) ∧ (0 : Int) < ((p : Nat) : Int)) (.ask (U.le (a (U.toNat (0 : Int))).1 (b (U.toNat (0 : Int))).1 = true)
      (.ask ((0 : Int) ≤ (0 : Int) ∧ (0 : Int) < ((p : Nat) : Int)) (.ask ((0 : Int) ≤ (1 : Int) ∧ (1 : Int) ≤ ((p : Nat) : Int) ∧ ((p : Nat) : Int) ≤ ((p : Nat) : Int)) (.ask (U.le (b
      (U.toNat (0 : Int))).1 (a (U.toNat (0 : Int))).1 = true) (.ask ((0 : Int) ≤ (0 : Int) ∧ (0 : Int) < ((q : Nat) : Int)) (.ask ((0 : Int) ≤ (1 : Int) ∧ (1 : Int) ≤ ((q : Nat) : Int) ∧
      ((q : Nat) : Int) ≤ ((q : Nat) : Int)) (.ask (U.le (a (U.toNat (0 : Int))).1 (b (U.toNat (0 : Int))).1 = true) (.ask (U.le (b (U.toNat (0 : Int))).1 (a (U.toNat (0 : Int))).1 =
      true) (.ask ((N + (1 : Nat)) * nat_lit 8 ≤ nat_lit 140737488351232) (.ret (Ex.normal, [.row [.int .i64] (U.nsub p (U.toNat (1 : Int))) fun i => a (i + U.toNat (1 : Int)), .row [.int
      .i64] (U.nsub q (U.toNat (1 : Int))) fun i => b (i + U.toNat (1 : Int)), SV.fn (Fn.func (nat_lit 83)) [] [], SV.own false (nat_lit 2) (N.add (nat_lit 1)), .lit (.bool (U.le (a
      (U.toNat (0 : Int))).1 (b (U.toNat (0 : Int))).1)), .lit (.bool (U.le (b (U.toNat (0 : Int))).1 (a (U.toNat (0 : Int))).1)), .lit (.int .i64 (b (U.toNat (0 : Int))).1)], [(nat_lit
      1, none), (nat_lit 0, some (Blk.cells [.lit (.int .i64 (b (U.toNat (0 : Int))).1)] (nat_lit 3))), (nat_lit 0, some (Blk.row false (N.add (nat_lit 1)) [.int .i64] (U.cat N G fun x =>
      ((b (U.toNat (0 : Int))).1, PUnit.unit)) (nat_lit 3)))]))))))))))))))))))) := by kernel_rfl
set_option maxRecDepth 100000 in
theorem t_M84A (p : Nat) (a : Nat → R1) (q : Nat) (b : Nat → R1) (u : Bool) (N : Nat) (G : Nat → R1) : ((sx E0 [] 0 (loopOf P 125 2) (mkS 74 [0,1,2,7,8,9,10] (slMg p a q b 84 u N), memMg u N G)).bind (proj 74 [0,1,2,7,8,9,10])).force [true, true, true, false] =
    T.ask (U.gt (Int.ofNat p) (0 : Int) = true) (.ask (U.gt (Int.ofNat p) (0 : Int) = true) (.ask (U.eq (Int.ofNat q) (0 : Int) = true) (.ask (U.gt (Int.ofNat q) (0 : Int) = false)
      (.ask ((0 : Int) ≤ (0 : Int) ∧ (0 : Int) < ((p : Nat) : Int)) (.ask ((0 : Int) ≤ (1 : Int) ∧ (1 : Int) ≤ ((p : Nat) : Int) ∧ ((p : Nat) : Int) ≤ ((p : Nat) : Int)) (.ask ((N + (1 :
      Nat)) * nat_lit 8 ≤ nat_lit 140737488351232) (.ret (Ex.normal, [.row [.int .i64] (U.nsub p (U.toNat (1 : Int))) fun i => a (i + U.toNat (1 : Int)), .row [.int .i64] q b, SV.fn
      (Fn.func (nat_lit 84)) [] [], SV.own false (nat_lit 2) (N.add (nat_lit 1)), SV.kb true, SV.kb false, .lit (.int .i64 (a (U.toNat (0 : Int))).1)], [(nat_lit 1, none), (nat_lit 0,
      some (Blk.cells [.lit (.int .i64 (a (U.toNat (0 : Int))).1)] (nat_lit 3))), (nat_lit 0, some (Blk.row false (N.add (nat_lit 1)) [.int .i64] (U.cat N G fun x => ((a (U.toNat (0 :
      Int))).1, PUnit.unit)) (nat_lit 3)))])))))))) := by kernel_rfl
set_option maxRecDepth 100000 in
theorem t_M84B (p : Nat) (a : Nat → R1) (q : Nat) (b : Nat → R1) (u : Bool) (N : Nat) (G : Nat → R1) : ((sx E0 [] 0 (loopOf P 125 2) (mkS 74 [0,1,2,7,8,9,10] (slMg p a q b 84 u N), memMg u N G)).bind (proj 74 [0,1,2,7,8,9,10])).force [false, true, false, true, true] =
    T.ask (U.gt (Int.ofNat p) (0 : Int) = false) (.ask (U.gt (Int.ofNat q) (0 : Int) = true) (.ask (U.gt (Int.ofNat p) (0 : Int) = false) (.ask (U.gt (Int.ofNat q) (0 : Int) = true)
      (.ask (U.eq (Int.ofNat p) (0 : Int) = true) (.ask ((0 : Int) ≤ (0 : Int) ∧ (0 : Int) < ((q : Nat) : Int)) (.ask ((0 : Int) ≤ (1 : Int) ∧ (1 : Int) ≤ ((q : Nat) : Int) ∧ ((q : Nat) :
      Int) ≤ ((q : Nat) : Int)) (.ret (Ex.normal, [.row [.int .i64] p a, .row [.int .i64] (U.nsub q (U.toNat (1 : Int))) fun i => b (i + U.toNat (1 : Int)), SV.fn (Fn.func (nat_lit 84))
      [] [], SV.own u (nat_lit 0) N, SV.kb false, SV.kb true, .lit (.int .i64 (b (U.toNat (0 : Int))).1)], [(nat_lit 0, some (Blk.row u N [.int .i64] G (nat_lit 3)))])))))))) := by kernel_rfl
set_option maxRecDepth 100000 in
theorem t_M84C (p : Nat) (a : Nat → R1) (q : Nat) (b : Nat → R1) (u : Bool) (N : Nat) (G : Nat → R1) : ((sx E0 [] 0 (loopOf P 125 2) (mkS 74 [0,1,2,7,8,9,10] (slMg p a q b 84 u N), memMg u N G)).bind (proj 74 [0,1,2,7,8,9,10])).force [true, true, false, true, false, true, false, true] =
    T.ask (U.gt (Int.ofNat p) (0 : Int) = true) (.ask (U.gt (Int.ofNat p) (0 : Int) = true) (.ask (U.eq (Int.ofNat q) (0 : Int) = false) (.ask ((0 : Int) ≤ (0 : Int) ∧ (0 : Int) < ((p :
      Nat) : Int)) (.ask ((0 : Int) ≤ (0 : Int) ∧ (0 : Int) < ((q : Nat) : Int)) (.ask (U.gt (Int.ofNat q) (0 : Int) = true) (.ask (U.eq (Int.ofNat p) (0 : Int) = false) (.ask ((0 : Int)
      ≤ (0 : Int) ∧ (0 : Int) < ((q : Nat) : Int)) (.ask ((0 : Int) ≤ (0 : Int) ∧ (0 : Int) < ((p : Nat) : Int)) (.ask (U.le (a (U.toNat (0 : Int))).1 (b (U.toNat (0 : Int))).1 = true)
      (.ask ((0 : Int) ≤ (0 : Int) ∧ (0 : Int) < ((p : Nat) : Int)) (.ask ((0 : Int) ≤ (1 : Int) ∧ (1 : Int) ≤ ((p : Nat) : Int) ∧ ((p : Nat) : Int) ≤ ((p : Nat) : Int)) (.ask (U.le (b
      (U.toNat (0 : Int))).1 (a (U.toNat (0 : Int))).1 = false) (.ask (U.not (U.le (b (U.toNat (0 : Int))).1 (a (U.toNat (0 : Int))).1) = true) (.ask ((N + (1 : Nat)) * nat_lit 8 ≤
      nat_lit 140737488351232) (.ret (Ex.normal, [.row [.int .i64] (U.nsub p (U.toNat (1 : Int))) fun i => a (i + U.toNat (1 : Int)), .row [.int .i64] q b, SV.fn (Fn.func (nat_lit 84)) []
      [], SV.own false (nat_lit 2) (N.add (nat_lit 1)), .lit (.bool (U.le (a (U.toNat (0 : Int))).1 (b (U.toNat (0 : Int))).1)), .lit (.bool (U.le (b (U.toNat (0 : Int))).1 (a (U.toNat (0
      : Int))).1)), .lit (.int .i64 (a (U.toNat (0 : Int))).1)], [(nat_lit 1, none), (nat_lit 0, some (Blk.cells [.lit (.int .i64 (a (U.toNat (0 : Int))).1)] (nat_lit 3))), (nat_lit 0,
      some (Blk.row false (N.add (nat_lit 1)) [.int .i64] (U.cat N G fun x => ((a (U.toNat (0 : Int))).1, PUnit.unit)) (nat_lit 3)))])))))))))))))))) := by kernel_rfl
set_option maxRecDepth 100000 in
theorem t_M84D (p : Nat) (a : Nat → R1) (q : Nat) (b : Nat → R1) (u : Bool) (N : Nat) (G : Nat → R1) : ((sx E0 [] 0 (loopOf P 125 2) (mkS 74 [0,1,2,7,8,9,10] (slMg p a q b 84 u N), memMg u N G)).bind (proj 74 [0,1,2,7,8,9,10])).force [true, true, false, true, false, false, true, false] =
    T.ask (U.gt (Int.ofNat p) (0 : Int) = true) (.ask (U.gt (Int.ofNat p) (0 : Int) = true) (.ask (U.eq (Int.ofNat q) (0 : Int) = false) (.ask ((0 : Int) ≤ (0 : Int) ∧ (0 : Int) < ((p :
      Nat) : Int)) (.ask ((0 : Int) ≤ (0 : Int) ∧ (0 : Int) < ((q : Nat) : Int)) (.ask (U.gt (Int.ofNat q) (0 : Int) = true) (.ask (U.eq (Int.ofNat p) (0 : Int) = false) (.ask ((0 : Int)
      ≤ (0 : Int) ∧ (0 : Int) < ((q : Nat) : Int)) (.ask ((0 : Int) ≤ (0 : Int) ∧ (0 : Int) < ((p : Nat) : Int)) (.ask (U.le (a (U.toNat (0 : Int))).1 (b (U.toNat (0 : Int))).1 = false)
      (.ask (U.le (b (U.toNat (0 : Int))).1 (a (U.toNat (0 : Int))).1 = true) (.ask ((0 : Int) ≤ (0 : Int) ∧ (0 : Int) < ((q : Nat) : Int)) (.ask ((0 : Int) ≤ (1 : Int) ∧ (1 : Int) ≤ ((q
      : Nat) : Int) ∧ ((q : Nat) : Int) ≤ ((q : Nat) : Int)) (.ask (U.not (U.le (b (U.toNat (0 : Int))).1 (a (U.toNat (0 : Int))).1) = false) (.ret (Ex.normal, [.row [.int .i64] p a, .row
      [.int .i64] (U.nsub q (U.toNat (1 : Int))) fun i => b (i + U.toNat (1 : Int)), SV.fn (Fn.func (nat_lit 84)) [] [], SV.own u (nat_lit 0) N, .lit (.bool (U.le (a (U.toNat (0 :
      Int))).1 (b (U.toNat (0 : Int))).1)), .lit (.bool (U.le (b (U.toNat (0 : Int))).1 (a (U.toNat (0 : Int))).1)), .lit (.int .i64 (b (U.toNat (0 : Int))).1)], [(nat_lit 0, some
      (Blk.row u N [.int .i64] G (nat_lit 3)))]))))))))))))))) := by kernel_rfl
set_option maxRecDepth 100000 in
theorem t_M84E (p : Nat) (a : Nat → R1) (q : Nat) (b : Nat → R1) (u : Bool) (N : Nat) (G : Nat → R1) : ((sx E0 [] 0 (loopOf P 125 2) (mkS 74 [0,1,2,7,8,9,10] (slMg p a q b 84 u N), memMg u N G)).bind (proj 74 [0,1,2,7,8,9,10])).force [true, true, false, true, false, true, true, false] =
    T.ask (U.gt (Int.ofNat p) (0 : Int) = true) (.ask (U.gt (Int.ofNat p) (0 : Int) = true) (.ask (U.eq (Int.ofNat q) (0 : Int) = false) (.ask ((0 : Int) ≤ (0 : Int) ∧ (0 : Int) < ((p :
      Nat) : Int)) (.ask ((0 : Int) ≤ (0 : Int) ∧ (0 : Int) < ((q : Nat) : Int)) (.ask (U.gt (Int.ofNat q) (0 : Int) = true) (.ask (U.eq (Int.ofNat p) (0 : Int) = false) (.ask ((0 : Int)
      ≤ (0 : Int) ∧ (0 : Int) < ((q : Nat) : Int)) (.ask ((0 : Int) ≤ (0 : Int) ∧ (0 : Int) < ((p : Nat) : Int)) (.ask (U.le (a (U.toNat (0 : Int))).1 (b (U.toNat (0 : Int))).1 = true)
      (.ask ((0 : Int) ≤ (0 : Int) ∧ (0 : Int) < ((p : Nat) : Int)) (.ask ((0 : Int) ≤ (1 : Int) ∧ (1 : Int) ≤ ((p : Nat) : Int) ∧ ((p : Nat) : Int) ≤ ((p : Nat) : Int)) (.ask (U.le (b
      (U.toNat (0 : Int))).1 (a (U.toNat (0 : Int))).1 = true) (.ask ((0 : Int) ≤ (0 : Int) ∧ (0 : Int) < ((q : Nat) : Int)) (.ask ((0 : Int) ≤ (1 : Int) ∧ (1 : Int) ≤ ((q : Nat) : Int) ∧
      ((q : Nat) : Int) ≤ ((q : Nat) : Int)) (.ask (U.not (U.le (b (U.toNat (0 : Int))).1 (a (U.toNat (0 : Int))).1) = false) (.ret (Ex.normal, [.row [.int .i64] (U.nsub p (U.toNat (1 :
      Int))) fun i => a (i + U.toNat (1 : Int)), .row [.int .i64] (U.nsub q (U.toNat (1 : Int))) fun i => b (i + U.toNat (1 : Int)), SV.fn (Fn.func (nat_lit 84)) [] [], SV.own u (nat_lit
      0) N, .lit (.bool (U.le (a (U.toNat (0 : Int))).1 (b (U.toNat (0 : Int))).1)), .lit (.bool (U.le (b (U.toNat (0 : Int))).1 (a (U.toNat (0 : Int))).1)), .lit (.int .i64 (b (U.toNat
      (0 : Int))).1)], [(nat_lit 0, some (Blk.row u N [.int .i64] G (nat_lit 3)))]))))))))))))))))) := by kernel_rfl
set_option maxRecDepth 100000 in
theorem t_MX (p : Nat) (a : Nat → R1) (q : Nat) (b : Nat → R1) (g : Nat) (u : Bool) (N : Nat) (G : Nat → R1) : ((sx E0 [] 0 (loopOf P 125 2) (mkS 74 [0,1,2,7,8,9,10] (slMg p a q b g u N), memMg u N G)).bind (proj 74 [0,1,2,7,8,9,10])).force [false, false] =
    T.ask (U.gt (Int.ofNat p) (0 : Int) = false) (.ask (U.gt (Int.ofNat q) (0 : Int) = false) (.ret (Ex.exit (nat_lit 0), [.row [.int .i64] p a, .row [.int .i64] q b, SV.fn (Fn.func g)
      [] [], SV.own u (nat_lit 0) N, SV.any, SV.any, SV.any], [(nat_lit 0, some (Blk.row u N [.int .i64] G (nat_lit 3)))]))) := by kernel_rfl
set_option maxRecDepth 100000 in
theorem t_merged (p : Nat) (a : Nat → R1) (q : Nat) (b : Nat → R1) (g : Nat) : conB Go.Proofs.Try.prog (conOf []) (loopsOf lMg) 10 125 [.row [.int .i64] p a, .row [.int .i64] q b, .fn (.func g) [] []] =
    T.ask (nat_lit 0 = (0 : Nat) ∧ lk PreMg p a q b ∧ (g = (82 : FuncId) ∨ g = (83 : FuncId) ∨ g = (84 : FuncId))) (.ret (.row [.int .i64] (lk mgN g p a q b) (lk mgF g p a q b))) := by kernel_rfl
end Go.RX.Span

/- Sparse domains: ascending lists merged, plain. -/
set_option linter.unusedVariables false
set_option linter.unusedSimpArgs false
set_option maxRecDepth 100000
namespace Go.RX.Span
open Go Go.RX
attribute [local irreducible] sx conB

theorem asc_filter {l : List Int} (p : Int → Bool) (h : Asc l) : Asc (l.filter p) := List.Pairwise.filter _ h
theorem mg_asc (tk : Bool → Bool → Bool) (a b : List Int) : Asc (mgL tk a b) := asc_filter _ (asc_ofL _)
theorem mem_mg {tk : Bool → Bool → Bool} {a b : List Int} {x : Int} : x ∈ mgL tk a b ↔ (x ∈ a ∨ x ∈ b) ∧ tk (decide (x ∈ a)) (decide (x ∈ b)) = true := by
  unfold mgL; rw [List.mem_filter, mem_ofL, List.mem_append]
theorem asc_snoc {l : List Int} {x : Int} (h : Asc l) (hx : ∀ y ∈ l, y < x) : Asc (l ++ [x]) := by
  unfold Asc
  rw [List.pairwise_append]
  exact ⟨h, List.pairwise_singleton _ _, fun a ha b hb => by rw [List.mem_singleton] at hb; subst hb; exact hx a ha⟩
def opt (p : Bool) (x : Int) : List Int := if p then [x] else []
theorem mem_opt {p : Bool} {x y : Int} : y ∈ opt p x ↔ p = true ∧ y = x := by
  unfold opt
  cases p
  · exact ⟨fun h => absurd h List.not_mem_nil, fun h => absurd h.1 (by decide)⟩
  · rw [if_pos rfl, List.mem_singleton]; exact ⟨fun h => ⟨rfl, h⟩, fun h => h.2⟩
/-- The next number of the merged ones. -/
theorem mg_step {tk : Bool → Bool → Bool} {a b : List Int} {x : Int} {p q : Bool} (ha : ∀ y ∈ a, y < x) (hb : ∀ y ∈ b, y < x) (hpq : p = true ∨ q = true) :
    mgL tk (a ++ opt p x) (b ++ opt q x) = mgL tk a b ++ opt (tk p q) x := by
  have na : x ∉ a := fun h => by have := ha x h; omega
  have nb : x ∉ b := fun h => by have := hb x h; omega
  refine asc_eq (mg_asc _ _ _) ?_ fun y => ?_
  · unfold opt
    cases tk p q
    · rw [if_neg (by decide), List.append_nil]; exact mg_asc _ _ _
    · rw [if_pos rfl]
      exact asc_snoc (mg_asc _ _ _) fun y hy => (mem_mg.1 hy).1.elim (ha y) (hb y)
  · have e1 : y ∈ a ++ opt p x ↔ y ∈ a ∨ p = true ∧ y = x := by rw [List.mem_append, mem_opt]
    have e2 : y ∈ b ++ opt q x ↔ y ∈ b ∨ q = true ∧ y = x := by rw [List.mem_append, mem_opt]
    refine mem_mg.trans (Iff.trans ?_ List.mem_append.symm)
    refine Iff.trans ?_ (or_congr mem_mg mem_opt).symm
    by_cases e : y = x
    · subst e
      have d1 : decide (y ∈ a ++ opt p y) = p := by
        cases p
        · exact decide_eq_false fun h => (e1.1 h).elim na fun g => absurd g.1 (by decide)
        · exact decide_eq_true (e1.2 (.inr ⟨rfl, rfl⟩))
      have d2 : decide (y ∈ b ++ opt q y) = q := by
        cases q
        · exact decide_eq_false fun h => (e2.1 h).elim nb fun g => absurd g.1 (by decide)
        · exact decide_eq_true (e2.2 (.inr ⟨rfl, rfl⟩))
      rw [d1, d2]
      constructor
      · exact fun h => .inr ⟨h.2, rfl⟩
      · rintro (h | h)
        · exact (h.1.elim na nb).elim
        · exact ⟨hpq.elim (fun g => .inl (e1.2 (.inr ⟨g, rfl⟩))) (fun g => .inr (e2.2 (.inr ⟨g, rfl⟩))), h.1⟩
    · have f1 : y ∈ a ++ opt p x ↔ y ∈ a := e1.trans ⟨fun h => h.elim id fun g => absurd g.2 e, .inl⟩
      have f2 : y ∈ b ++ opt q x ↔ y ∈ b := e2.trans ⟨fun h => h.elim id fun g => absurd g.2 e, .inl⟩
      have d1 : decide (y ∈ a ++ opt p x) = decide (y ∈ a) := decide_eq_decide.2 f1
      have d2 : decide (y ∈ b ++ opt q x) = decide (y ∈ b) := decide_eq_decide.2 f2
      rw [d1, d2]
      constructor
      · rintro ⟨h1, h2⟩
        exact .inl ⟨h1.elim (fun h => .inl (f1.1 h)) (fun h => .inr (f2.1 h)), h2⟩
      · rintro (h | h)
        · exact ⟨h.1.elim (fun g => .inl (f1.2 g)) (fun g => .inr (f2.2 g)), h.2⟩
        · exact absurd h.2 e
theorem mg_len (tk : Bool → Bool → Bool) (a b : List Int) : (mgL tk a b).length ≤ a.length + b.length := by
  unfold mgL
  have h1 := List.length_filter_le (fun x => tk (decide (x ∈ a)) (decide (x ∈ b))) (ofL (a ++ b))
  have h2 := ofL_le (a ++ b)
  rw [List.length_append] at h2
  omega
theorem lF_app {l : List Int} {x : Int} {j : Nat} (hj : j < l.length + 1) : lF (l ++ [x]) j = if j < l.length then lF l j else (x, ()) := by
  by_cases h : j < l.length
  · refine Eq.trans ?_ (if_pos h).symm
    unfold lF
    rw [List.getD_eq_getElem?_getD, List.getD_eq_getElem?_getD, List.getElem?_append_left h]
  · refine Eq.trans ?_ (if_neg h).symm
    obtain rfl : j = l.length := by omega
    unfold lF
    rw [List.getD_eq_getElem?_getD, List.getElem?_append_right (Nat.le_refl _), Nat.sub_self]; rfl
end Go.RX.Span

/- Sparse domains: ascending lists merged. -/
set_option linter.unusedVariables false
set_option linter.unusedSimpArgs false
set_option maxRecDepth 100000
namespace Go.RX.Span
open Go Go.RX
attribute [local irreducible] sx conB

structure XMg where
  (g n : Nat) (a : Nat → R1) (m : Nat) (b : Nat → R1) (i j : Nat)
noncomputable abbrev LMg (q : XMg) : List Int := mgL (tkG q.g) (nl q.i q.a) (nl q.j q.b)
noncomputable abbrev stMg (g n : Nat) (a : Nat → R1) (m : Nat) (b : Nat → R1) (i j : Nat) (L : List Int) : Few := (slMg (n - i) (shF i a) (m - j) (shF j b) g (U.isz L.length) L.length, memMg (U.isz L.length) L.length (lF L))
noncomputable abbrev VMg (q : XMg) : Few := stMg q.g q.n q.a q.m q.b q.i q.j (LMg q)
noncomputable def OMg (q : XMg) : Ex × Few := (.exit 0, ([.any, .any, .any, .own (U.isz (mgN q.g q.n q.a q.m q.b)) 0 (mgN q.g q.n q.a q.m q.b), .any, .any, .any], memMg (U.isz (mgN q.g q.n q.a q.m q.b)) (mgN q.g q.n q.a q.m q.b) (mgF q.g q.n q.a q.m q.b)))
def PhiMg (n0 : Nat) (q : XMg) : Prop := n0 = 0 ∧ PreMg q.n q.a q.m q.b ∧ (q.g = 82 ∨ q.g = 83 ∨ q.g = 84) ∧ (q.i ≤ q.n ∧ q.j ≤ q.m) ∧ (∀ s, s < q.i → ∀ t, q.j ≤ t → t < q.m → nv q.a s < nv q.b t) ∧ ∀ t, t < q.j → ∀ s, q.i ≤ s → s < q.n → nv q.b t < nv q.a s
/-- The least of what is left. -/
structure Nx (n : Nat) (a : Nat → R1) (m : Nat) (b : Nat → R1) (i j : Nat) (p q : Bool) (x : Int) : Prop where
  p1 : p = true → i < n ∧ nv a i = x
  q1 : q = true → j < m ∧ nv b j = x
  p0 : p = false → i < n → x < nv a i
  q0 : q = false → j < m → x < nv b j
  or : p = true ∨ q = true
def inc (i : Nat) (p : Bool) : Nat := if p then i + 1 else i
theorem nx_phi {g n : Nat} {a : Nat → R1} {m : Nat} {b : Nat → R1} {i j : Nat} {p q : Bool} {x : Int} (h : PhiMg 0 ⟨g, n, a, m, b, i, j⟩) (hx : Nx n a m b i j p q x) :
    PhiMg 0 ⟨g, n, a, m, b, inc i p, inc j q⟩ ∧ (n - inc i p) + (m - inc j q) < (n - i) + (m - j) ∧ LMg ⟨g, n, a, m, b, inc i p, inc j q⟩ = LMg ⟨g, n, a, m, b, i, j⟩ ++ opt (tkG g p q) x := by
  obtain ⟨_, hp, hg, hij, h1, h2⟩ := h
  have hp : PreMg n a m b := hp
  have hij : i ≤ n ∧ j ≤ m := hij
  have h1 : ∀ s, s < i → ∀ t, j ≤ t → t < m → nv a s < nv b t := h1
  have h2 : ∀ t, t < j → ∀ s, i ≤ s → s < n → nv b t < nv a s := h2
  have aa := hp.1.2
  have bb := hp.2.2
  have xa : ∀ s, s < i → nv a s < x := fun s hs => by
    rcases hx.or with e | e
    · obtain ⟨e1, e2⟩ := hx.p1 e; rw [← e2]; exact aa s i hs e1
    · obtain ⟨e1, e2⟩ := hx.q1 e; rw [← e2]; exact h1 s hs j (Nat.le_refl _) e1
  have xb : ∀ t, t < j → nv b t < x := fun t ht => by
    rcases hx.or with e | e
    · obtain ⟨e1, e2⟩ := hx.p1 e; rw [← e2]; exact h2 t ht i (Nat.le_refl _) e1
    · obtain ⟨e1, e2⟩ := hx.q1 e; rw [← e2]; exact bb t j ht e1
  have ra : ∀ s, inc i p ≤ s → s < n → x < nv a s := fun s hs hn => by
    unfold inc at hs
    cases p
    · have e1 := hx.p0 rfl (by simp at hs; omega)
      simp at hs
      by_cases e : i = s
      · rw [← e]; exact e1
      · have := aa i s (by omega) hn; omega
    · obtain ⟨e1, e2⟩ := hx.p1 rfl
      simp at hs
      rw [← e2]; exact aa i s (by omega) hn
  have rb : ∀ t, inc j q ≤ t → t < m → x < nv b t := fun t ht hm => by
    unfold inc at ht
    cases q
    · have e1 := hx.q0 rfl (by simp at ht; omega)
      simp at ht
      by_cases e : j = t
      · rw [← e]; exact e1
      · have := bb j t (by omega) hm; omega
    · obtain ⟨e1, e2⟩ := hx.q1 rfl
      simp at ht
      rw [← e2]; exact bb j t (by omega) hm
  have la : ∀ s, s < inc i p → nv a s ≤ x := fun s hs => by
    by_cases e : s < i
    · have := xa s e; omega
    · unfold inc at hs
      cases p
      · simp at hs; omega
      · simp at hs
        obtain ⟨e1, e2⟩ := hx.p1 rfl
        obtain rfl : s = i := by omega
        omega
  have lb : ∀ t, t < inc j q → nv b t ≤ x := fun t ht => by
    by_cases e : t < j
    · have := xb t e; omega
    · unfold inc at ht
      cases q
      · simp at ht; omega
      · simp at ht
        obtain ⟨e1, e2⟩ := hx.q1 rfl
        obtain rfl : t = j := by omega
        omega
  have ip : inc i p ≤ n := by
    unfold inc
    cases p
    · exact hij.1
    · exact (hx.p1 rfl).1
  have jp : inc j q ≤ m := by
    unfold inc
    cases q
    · exact hij.2
    · exact (hx.q1 rfl).1
  refine ⟨⟨rfl, hp, hg, ⟨ip, jp⟩, fun s hs t ht hm => ?_, fun t ht s hs hn => ?_⟩, ?_, ?_⟩
  · exact Int.lt_of_le_of_lt (la s hs) (rb t ht hm)
  · exact Int.lt_of_le_of_lt (lb t ht) (ra s hs hn)
  · rcases hx.or with e | e
    · have e1 := (hx.p1 e).1
      subst e
      have : inc i true = i + 1 := rfl
      have : j ≤ inc j q := by unfold inc; cases q <;> simp
      omega
    · have e1 := (hx.q1 e).1
      subst e
      have : inc j true = j + 1 := rfl
      have : i ≤ inc i p := by unfold inc; cases p <;> simp
      omega
  · have ea : nl (inc i p) a = nl i a ++ opt p x := by
      unfold inc
      cases p
      · simp [opt]
      · rw [← (hx.p1 rfl).2]; exact nl_s i a
    have eb : nl (inc j q) b = nl j b ++ opt q x := by
      unfold inc
      cases q
      · simp [opt]
      · rw [← (hx.q1 rfl).2]; exact nl_s j b
    show mgL (tkG g) (nl (inc i p) a) (nl (inc j q) b) = _
    rw [ea, eb]
    refine mg_step (fun y hy => ?_) (fun y hy => ?_) hx.or
    · obtain ⟨s, hs, rfl⟩ := mem_nl.1 hy; exact xa s hs
    · obtain ⟨t, ht, rfl⟩ := mem_nl.1 hy; exact xb t ht
theorem shV_0 {i : Nat} {a : Nat → R1} : (shF i a 0).1 = nv a i := by show (a (0 + i)).1 = _; rw [Nat.zero_add]; rfl
theorem rowS {ρ : Ren} {n i : Nat} {a : Nat → R1} : Rl ρ (.row [.int .i64] (U.nsub (n - i) 1) (fun t => shF i a (t + 1))) (.row [.int .i64] (n - (i + 1)) (shF (i + 1) a)) :=
  ⟨by rw [U.nsub_eq]; omega, row1H fun t _ => by show a (t + 1 + i) = a (t + (i + 1)); congr 1; omega⟩
/-- The state behind a number that is taken. -/
theorem wT {g n : Nat} {a : Nat → R1} {m : Nat} {b : Nat → R1} {i' j' : Nat} {L L' : List Int} {x : Int} {s0 s1 v8 v9 v10 : SV} {c : Blk} (hL : L' = L ++ [x]) (h0 : Rl [some 2] s0 (.row [.int .i64] (n - i') (shF i' a))) (h1 : Rl [some 2] s1 (.row [.int .i64] (m - j') (shF j' b))) :
    Wk 74 [0,1,2,7,8,9,10] 0 ([s0, s1, .fn (.func g) [] [], .own false 2 (L.length + 1), v8, v9, v10], [(1, none), (0, some c), (0, some (.row false (L.length + 1) [.int .i64] (U.cat L.length (lF L) fun _ => ((x, ()) : R1)) 3))]) (stMg g n a m b i' j' L') := by
  subst hL
  have e : (L ++ [x]).length = L.length + 1 := by simp
  unfold stMg
  rw [e]
  refine wk_of [some 2] rfl (Nat.zero_le _) (ren1z _) ⟨h0, h1, ⟨rfl, trivial, trivial⟩, ⟨(isz_s _).symm, rfl, rfl⟩, rl_any _, rl_any _, rl_any _, trivial⟩ ⟨⟨rfl, (isz_s _).symm, rfl, row1H fun t ht => ?_⟩, trivial⟩
  rw [lF_app ht]
  exact U.cat_eq _ _ _ _
/-- The state behind a number that is not taken. -/
theorem wK {g n : Nat} {a : Nat → R1} {m : Nat} {b : Nat → R1} {i' j' : Nat} {L L' : List Int} {s0 s1 v8 v9 v10 : SV} (hL : L' = L) (h0 : Rl [some 0] s0 (.row [.int .i64] (n - i') (shF i' a))) (h1 : Rl [some 0] s1 (.row [.int .i64] (m - j') (shF j' b))) :
    Wk 74 [0,1,2,7,8,9,10] 0 ([s0, s1, .fn (.func g) [] [], .own (U.isz L.length) 0 L.length, v8, v9, v10], memMg (U.isz L.length) L.length (lF L)) (stMg g n a m b i' j' L') := by
  subst hL
  exact wk_of [some 0] rfl (Nat.zero_le _) (ren1z _) ⟨h0, h1, ⟨rfl, trivial, trivial⟩, ⟨rfl, rfl, rfl⟩, rl_any _, rl_any _, rl_any _, trivial⟩ ⟨⟨rfl, rfl, rfl, row1H fun _ _ => rfl⟩, trivial⟩
theorem rowE {ρ : Ren} {n : Nat} {a : Nat → R1} : Rl ρ (.row [.int .i64] n a) (.row [.int .i64] n a) := ⟨rfl, row1H fun _ _ => rfl⟩
theorem gtp {n : Nat} (h : 0 < n) : U.gt (Int.ofNat n) 0 = true := U.gt_t.mpr (by simp only [Int.ofNat_eq_natCast]; omega)
theorem gtz {n : Nat} (h : n = 0) : U.gt (Int.ofNat n) 0 = false := U.gt_f.mpr (by simp only [Int.ofNat_eq_natCast]; omega)
theorem eqp {n : Nat} (h : 0 < n) : U.eq (Int.ofNat n) 0 = false := U.eq_f.mpr (by simp only [Int.ofNat_eq_natCast]; omega)
theorem eqz {n : Nat} (h : n = 0) : U.eq (Int.ofNat n) 0 = true := U.eq_t.mpr (by simp only [Int.ofNat_eq_natCast]; omega)
theorem roundMg (n0 : Nat) (q : XMg) (hq : PhiMg n0 q) : ((sx E0 [] n0 (loopOf P 125 2) (mkS 74 [0,1,2,7,8,9,10] (VMg q).1, (VMg q).2)).bind (proj 74 [0,1,2,7,8,9,10])).All fun r => match r.1 with
      | .normal => ∃ q', PhiMg n0 q' ∧ (q'.n - q'.i) + (q'.m - q'.j) < (q.n - q.i) + (q.m - q.j) ∧ Wk 74 [0,1,2,7,8,9,10] n0 r.2 (VMg q') ∧ ∀ o, o = OMg q' → o = OMg q
      | e => ∃ s, (e, s) = OMg q ∧ Wk 74 [0,1,2,7,8,9,10] n0 r.2 s := by
  obtain ⟨g, n, a, m, b, i, j⟩ := q
  have h0 := hq.1
  subst h0
  obtain ⟨_, hp, hg, hij, h1, h2⟩ := id hq
  have hp : PreMg n a m b := hp
  have hij : i ≤ n ∧ j ≤ m := hij
  have hg : g = 82 ∨ g = 83 ∨ g = 84 := hg
  have len : (LMg ⟨g, n, a, m, b, i, j⟩).length ≤ 200000 := by
    have := mg_len (tkG g) (nl i a) (nl j b)
    rw [nl_len, nl_len] at this
    have e1 := hp.1.1
    have e2 := hp.2.1
    show (mgL (tkG g) (nl i a) (nl j b)).length ≤ _
    omega
  generalize eL : LMg ⟨g, n, a, m, b, i, j⟩ = L at len
  have tn1' : U.toNat (1 : Int) = 1 := tn 1
  have hN : (L.length + 1) * 8 ≤ 140737488351232 := by omega
  show T.All _ ((sx E0 [] 0 (loopOf P 125 2) (mkS 74 [0,1,2,7,8,9,10] (stMg g n a m b i j (LMg ⟨g, n, a, m, b, i, j⟩)).1, (stMg g n a m b i j (LMg ⟨g, n, a, m, b, i, j⟩)).2)).bind (proj 74 [0,1,2,7,8,9,10]))
  rw [eL]
  by_cases hi : i < n
  · by_cases hj : j < m
    · have i1 : 0 < n - i := by omega
      have j1 : 0 < m - j := by omega
      rcases Int.lt_trichotomy (nv a i) (nv b j) with hc | hc | hc
      · have nx : Nx n a m b i j true false (nv a i) := ⟨fun _ => ⟨hi, rfl⟩, fun h => Bool.noConfusion h, fun h => Bool.noConfusion h, fun _ _ => hc, .inl rfl⟩
        obtain ⟨k1, k2, k3⟩ := nx_phi hq nx
        have ab : U.le (shF i a 0).1 (shF j b 0).1 = true := by rw [shV_0, shV_0]; exact U.le_t.mpr (by omega)
        have ba : U.le (shF j b 0).1 (shF i a 0).1 = false := by rw [shV_0, shV_0]; exact U.le_f.mpr (by omega)
        have bn : U.not (U.le (shF j b 0).1 (shF i a 0).1) = true := U.not_t.mpr ba
        have g1 := gtp i1
        have g2 := gtp j1
        have g3 := eqp i1
        have g4 := eqp j1
        rcases hg with rfl | rfl | rfl
        · refine force_all _ [true, true, false, true, false, true, false] ?_
          refine T.all_of_eq (t_M82C (n - i) (shF i a) (m - j) (shF j b) (U.isz L.length) L.length (lF L)) ?_
          rw [tn0, tn1']
          repeat' refine And.intro (by first | assumption | omega) ?_
          rw [shV_0 (i := i) (a := a)]
          exact ⟨⟨82, n, a, m, b, inc i true, inc j false⟩, k1, k2, wT (k3.trans (by rw [eL]; rfl)) rowS rowE, fun o ho => ho⟩
        · refine force_all _ [true, true, false, true, false, true, false, true, false] ?_
          refine T.all_of_eq (t_M83C (n - i) (shF i a) (m - j) (shF j b) (U.isz L.length) L.length (lF L)) ?_
          rw [tn0, tn1']
          repeat' refine And.intro (by first | assumption | omega) ?_
          exact ⟨⟨83, n, a, m, b, inc i true, inc j false⟩, k1, k2, wK (k3.trans (by rw [eL]; exact List.append_nil _)) rowS rowE, fun o ho => ho⟩
        · refine force_all _ [true, true, false, true, false, true, false, true] ?_
          refine T.all_of_eq (t_M84C (n - i) (shF i a) (m - j) (shF j b) (U.isz L.length) L.length (lF L)) ?_
          rw [tn0, tn1']
          repeat' refine And.intro (by first | assumption | omega) ?_
          rw [shV_0 (i := i) (a := a)]
          exact ⟨⟨84, n, a, m, b, inc i true, inc j false⟩, k1, k2, wT (k3.trans (by rw [eL]; rfl)) rowS rowE, fun o ho => ho⟩
      · have nx : Nx n a m b i j true true (nv b j) := ⟨fun _ => ⟨hi, hc⟩, fun _ => ⟨hj, rfl⟩, fun h => Bool.noConfusion h, fun h => Bool.noConfusion h, .inl rfl⟩
        obtain ⟨k1, k2, k3⟩ := nx_phi hq nx
        have ab : U.le (shF i a 0).1 (shF j b 0).1 = true := by rw [shV_0, shV_0]; exact U.le_t.mpr (by omega)
        have ba : U.le (shF j b 0).1 (shF i a 0).1 = true := by rw [shV_0, shV_0]; exact U.le_t.mpr (by omega)
        have bn : U.not (U.le (shF j b 0).1 (shF i a 0).1) = false := U.not_f.mpr ba
        have g1 := gtp i1
        have g2 := gtp j1
        have g3 := eqp i1
        have g4 := eqp j1
        rcases hg with rfl | rfl | rfl
        · refine force_all _ [true, true, false, true, false, true, true] ?_
          refine T.all_of_eq (t_M82E (n - i) (shF i a) (m - j) (shF j b) (U.isz L.length) L.length (lF L)) ?_
          rw [tn0, tn1']
          repeat' refine And.intro (by first | assumption | omega) ?_
          rw [shV_0 (i := j) (a := b)]
          exact ⟨⟨82, n, a, m, b, inc i true, inc j true⟩, k1, k2, wT (k3.trans (by rw [eL]; rfl)) rowS rowS, fun o ho => ho⟩
        · refine force_all _ [true, true, false, true, false, true, true, true, true] ?_
          refine T.all_of_eq (t_M83E (n - i) (shF i a) (m - j) (shF j b) (U.isz L.length) L.length (lF L)) ?_
          rw [tn0, tn1']
          repeat' refine And.intro (by first | assumption | omega) ?_
          rw [shV_0 (i := j) (a := b)]
          exact ⟨⟨83, n, a, m, b, inc i true, inc j true⟩, k1, k2, wT (k3.trans (by rw [eL]; rfl)) rowS rowS, fun o ho => ho⟩
        · refine force_all _ [true, true, false, true, false, true, true, false] ?_
          refine T.all_of_eq (t_M84E (n - i) (shF i a) (m - j) (shF j b) (U.isz L.length) L.length (lF L)) ?_
          rw [tn0, tn1']
          repeat' refine And.intro (by first | assumption | omega) ?_
          exact ⟨⟨84, n, a, m, b, inc i true, inc j true⟩, k1, k2, wK (k3.trans (by rw [eL]; exact List.append_nil _)) rowS rowS, fun o ho => ho⟩
      · have nx : Nx n a m b i j false true (nv b j) := ⟨fun h => Bool.noConfusion h, fun _ => ⟨hj, rfl⟩, fun _ _ => hc, fun h => Bool.noConfusion h, .inr rfl⟩
        obtain ⟨k1, k2, k3⟩ := nx_phi hq nx
        have ab : U.le (shF i a 0).1 (shF j b 0).1 = false := by rw [shV_0, shV_0]; exact U.le_f.mpr (by omega)
        have ba : U.le (shF j b 0).1 (shF i a 0).1 = true := by rw [shV_0, shV_0]; exact U.le_t.mpr (by omega)
        have bn : U.not (U.le (shF j b 0).1 (shF i a 0).1) = false := U.not_f.mpr ba
        have g1 := gtp i1
        have g2 := gtp j1
        have g3 := eqp i1
        have g4 := eqp j1
        rcases hg with rfl | rfl | rfl
        · refine force_all _ [true, true, false, true, false, false, true] ?_
          refine T.all_of_eq (t_M82D (n - i) (shF i a) (m - j) (shF j b) (U.isz L.length) L.length (lF L)) ?_
          rw [tn0, tn1']
          repeat' refine And.intro (by first | assumption | omega) ?_
          rw [shV_0 (i := j) (a := b)]
          exact ⟨⟨82, n, a, m, b, inc i false, inc j true⟩, k1, k2, wT (k3.trans (by rw [eL]; rfl)) rowE rowS, fun o ho => ho⟩
        · refine force_all _ [true, true, false, true, false, false, true, false] ?_
          refine T.all_of_eq (t_M83D (n - i) (shF i a) (m - j) (shF j b) (U.isz L.length) L.length (lF L)) ?_
          rw [tn0, tn1']
          repeat' refine And.intro (by first | assumption | omega) ?_
          exact ⟨⟨83, n, a, m, b, inc i false, inc j true⟩, k1, k2, wK (k3.trans (by rw [eL]; exact List.append_nil _)) rowE rowS, fun o ho => ho⟩
        · refine force_all _ [true, true, false, true, false, false, true, false] ?_
          refine T.all_of_eq (t_M84D (n - i) (shF i a) (m - j) (shF j b) (U.isz L.length) L.length (lF L)) ?_
          rw [tn0, tn1']
          repeat' refine And.intro (by first | assumption | omega) ?_
          exact ⟨⟨84, n, a, m, b, inc i false, inc j true⟩, k1, k2, wK (k3.trans (by rw [eL]; exact List.append_nil _)) rowE rowS, fun o ho => ho⟩
    · have ej : m - j = 0 := by omega
      have i1 : 0 < n - i := by omega
      have nx : Nx n a m b i j true false (nv a i) := ⟨fun _ => ⟨hi, rfl⟩, fun h => Bool.noConfusion h, fun h => Bool.noConfusion h, fun _ h => absurd h hj, .inl rfl⟩
      obtain ⟨k1, k2, k3⟩ := nx_phi hq nx
      have g1 := gtp i1
      have g2 := gtz ej
      have g4 := eqz ej
      have g3 := eqp i1
      rcases hg with rfl | rfl | rfl
      · refine force_all _ [true, true, true, false] ?_
        refine T.all_of_eq (t_M82A (n - i) (shF i a) (m - j) (shF j b) (U.isz L.length) L.length (lF L)) ?_
        rw [tn0, tn1']
        repeat' refine And.intro (by first | assumption | omega) ?_
        rw [shV_0 (i := i) (a := a)]
        exact ⟨⟨82, n, a, m, b, inc i true, inc j false⟩, k1, k2, wT (k3.trans (by rw [eL]; rfl)) rowS rowE, fun o ho => ho⟩
      · refine force_all _ [true, true, true, false] ?_
        refine T.all_of_eq (t_M83A (n - i) (shF i a) (m - j) (shF j b) (U.isz L.length) L.length (lF L)) ?_
        rw [tn0, tn1']
        repeat' refine And.intro (by first | assumption | omega) ?_
        exact ⟨⟨83, n, a, m, b, inc i true, inc j false⟩, k1, k2, wK (k3.trans (by rw [eL]; exact List.append_nil _)) rowS rowE, fun o ho => ho⟩
      · refine force_all _ [true, true, true, false] ?_
        refine T.all_of_eq (t_M84A (n - i) (shF i a) (m - j) (shF j b) (U.isz L.length) L.length (lF L)) ?_
        rw [tn0, tn1']
        repeat' refine And.intro (by first | assumption | omega) ?_
        rw [shV_0 (i := i) (a := a)]
        exact ⟨⟨84, n, a, m, b, inc i true, inc j false⟩, k1, k2, wT (k3.trans (by rw [eL]; rfl)) rowS rowE, fun o ho => ho⟩
  · by_cases hj : j < m
    · have ei : n - i = 0 := by omega
      have j1 : 0 < m - j := by omega
      have nx : Nx n a m b i j false true (nv b j) := ⟨fun h => Bool.noConfusion h, fun _ => ⟨hj, rfl⟩, fun _ h => absurd h hi, fun h => Bool.noConfusion h, .inr rfl⟩
      obtain ⟨k1, k2, k3⟩ := nx_phi hq nx
      have g1 := gtz ei
      have g2 := gtp j1
      have g3 := eqz ei
      have g4 := eqp j1
      rcases hg with rfl | rfl | rfl
      · refine force_all _ [false, true, false, true, true] ?_
        refine T.all_of_eq (t_M82B (n - i) (shF i a) (m - j) (shF j b) (U.isz L.length) L.length (lF L)) ?_
        rw [tn0, tn1']
        repeat' refine And.intro (by first | assumption | omega) ?_
        rw [shV_0 (i := j) (a := b)]
        exact ⟨⟨82, n, a, m, b, inc i false, inc j true⟩, k1, k2, wT (k3.trans (by rw [eL]; rfl)) rowE rowS, fun o ho => ho⟩
      · refine force_all _ [false, true, false, true, true] ?_
        refine T.all_of_eq (t_M83B (n - i) (shF i a) (m - j) (shF j b) (U.isz L.length) L.length (lF L)) ?_
        rw [tn0, tn1']
        repeat' refine And.intro (by first | assumption | omega) ?_
        exact ⟨⟨83, n, a, m, b, inc i false, inc j true⟩, k1, k2, wK (k3.trans (by rw [eL]; exact List.append_nil _)) rowE rowS, fun o ho => ho⟩
      · refine force_all _ [false, true, false, true, true] ?_
        refine T.all_of_eq (t_M84B (n - i) (shF i a) (m - j) (shF j b) (U.isz L.length) L.length (lF L)) ?_
        rw [tn0, tn1']
        repeat' refine And.intro (by first | assumption | omega) ?_
        exact ⟨⟨84, n, a, m, b, inc i false, inc j true⟩, k1, k2, wK (k3.trans (by rw [eL]; exact List.append_nil _)) rowE rowS, fun o ho => ho⟩
    · obtain rfl : i = n := by omega
      obtain rfl : j = m := by omega
      refine force_all _ [false, false] ?_
      refine T.all_of_eq (t_MX (i - i) (shF i a) (j - j) (shF j b) g (U.isz L.length) L.length (lF L)) ?_
      refine ⟨gtz (by omega), gtz (by omega), _, rfl, ?_⟩
      have eL : L = mgL (tkG g) (nl i a) (nl j b) := eL.symm
      subst eL
      exact wk_of [some 0] rfl (Nat.zero_le _) (ren1z _) ⟨rl_any _, rl_any _, rl_any _, ⟨rfl, rfl, rfl⟩, rl_any _, rl_any _, rl_any _, trivial⟩ ⟨⟨rfl, rfl, rfl, row1H fun _ _ => rfl⟩, trivial⟩
theorem loopMg : LoopOK P (loopOf P 125 2) (few 74 [0,1,2,7,8,9,10] gMg) :=
  loop_few (E := E0) mixed E0_ok loopsOK_none 74 [0,1,2,7,8,9,10] (X := XMg) gMg (fun _ x => VMg x) PhiMg (fun q => (q.n - q.i) + (q.m - q.j)) (fun _ x o => o = OMg x)
    (fun n0 st r hh => by
      unfold gMg at hh
      split at hh
      · rename_i n0 p a q b g s8 s9 s10
        obtain ⟨h0, hp, hg⟩ := (T.is_ask hh).1
        obtain rfl := T.is_ret (T.is_ask hh).2
        subst h0
        rw [lk_eq] at hp
        have zi : U.isz 0 = true := by rw [U.isz_eq]; rfl
        refine ⟨⟨g, p, a, q, b, 0, 0⟩, ⟨rfl, hp, hg, ⟨Nat.zero_le _, Nat.zero_le _⟩, fun s hs => absurd hs (Nat.not_lt_zero s), fun t ht => absurd ht (Nat.not_lt_zero t)⟩, ?_, fun o ho => by rw [ho]; simp only [lk_eq]; rfl⟩
        exact wk_of [none] rfl (Nat.zero_le _) (ren1z _) ⟨⟨rfl, row1H fun _ _ => rfl⟩, ⟨rfl, row1H fun _ _ => rfl⟩, ⟨rfl, trivial, trivial⟩, ⟨rfl, zi, rfl⟩, rl_any _, rl_any _, rl_any _, trivial⟩ ⟨⟨zi, rfl⟩, trivial⟩
      · exact hh.elim)
    roundMg
theorem lMg_ok : ∀ p ∈ lMg, LoopsOK P p.2 (bodyOf P p.1) := by
  intro p hp
  simp only [lMg, List.mem_singleton] at hp
  subst hp
  refine loopsOK_of (by kernel_rfl) fun k g hk => ?_
  simp only [List.mem_singleton, Prod.mk.injEq, LoopC.sum.injEq] at hk
  obtain ⟨rfl, rfl⟩ := hk
  exact loopMg
theorem merged_ok : ConOK P 125 c_merged := con_of (allOKL mixed none_ok lMg_ok) 10 125 fun args r hh => by
  unfold c_merged at hh
  split at hh
  · rename_i p a q b g
    obtain ⟨hp, hg⟩ := (T.is_ask hh).1
    obtain rfl := T.is_ret (T.is_ask hh).2
    rw [lk_eq] at hp
    refine T.all_of_eq (t_merged p a q b g) ?_
    simp only [lk_eq]
    exact ⟨⟨trivial, hp, hg⟩, rfl⟩
  · exact hh.elim
end Go.RX.Span

/- Sparse domains: Union, Both, Minus, Within: plain; the states. -/
set_option linter.unusedVariables false
set_option linter.unusedSimpArgs false
set_option maxRecDepth 100000
namespace Go.RX.Span
open Go Go.RX
attribute [local irreducible] sx conB

section
variable (g n : Nat) (f : Nat → R3) (k s h : Int) (m : Nat) (e : Nat → R1) (n1 : Nat) (f1 : Nat → R3) (k1 s1 h1 : Int) (m1 : Nat) (e1 : Nat → R1)
/-- Whether two domains are equal in all fields. -/
noncomputable def eqDo : Bool := eqR3 n f n1 f1 && decide (k = k1 ∧ s = s1 ∧ h = h1)
noncomputable def paE : Int := if spE n f k s h m e ≠ 0 then spE n f k s h m e else if spE n1 f1 k1 s1 h1 m1 e1 ≠ 0 then spE n1 f1 k1 s1 h1 m1 e1 else if eqDo n f k s h n1 f1 k1 s1 h1 = false then 50 else if 5000 < mgN g m e m1 e1 then 5 else 0
end
noncomputable def c_pair (g : Nat) : Con := fun args => match args with
  | [.agg [.row [.int .i64, .int .i64, .int .i64] n f, .lit (.int .i64 k), .lit (.int .i64 s), .lit (.int .i64 h), .row [.int .i64] m e], .agg [.row [.int .i64, .int .i64, .int .i64] n1 f1, .lit (.int .i64 k1), .lit (.int .i64 s1), .lit (.int .i64 h1), .row [.int .i64] m1 e1]] =>
    .ask (Row64 n f ∧ Row64 n1 f1) (.ret (.tup [.agg [.row [.int .i64, .int .i64, .int .i64] (lk zn (lk paE g n f k s h m e n1 f1 k1 s1 h1 m1 e1) n) f, .lit (.int .i64 (lk zi (lk paE g n f k s h m e n1 f1 k1 s1 h1 m1 e1) k)), .lit (.int .i64 (lk zi (lk paE g n f k s h m e n1 f1 k1 s1 h1 m1 e1) s)), .lit (.int .i64 (lk zi (lk paE g n f k s h m e n1 f1 k1 s1 h1 m1 e1) h)),
      .row [.int .i64] (lk zn (lk paE g n f k s h m e n1 f1 k1 s1 h1 m1 e1) (lk mgN g m e m1 e1)) (lk mgF g m e m1 e1)], .lit (.int .i64 (lk paE g n f k s h m e n1 f1 k1 s1 h1 m1 e1))]))
  | _ => .stuck 1
noncomputable abbrev kPa : List (Nat × Con) := [(28, c_SpCheck), (66, c_Equal3), (65, c_copied), (125, c_merged)] --%K
theorem kPa_ok : ∀ p ∈ kPa, ConOK P p.1 p.2 := by
  intro p hp
  simp only [kPa, List.mem_cons, List.not_mem_nil, or_false] at hp
  rcases hp with rfl | rfl | rfl | rfl
  · exact SpCheck_ok
  · exact Equal3_ok
  · exact copied_ok
  · exact merged_ok
/-! Within. -/
section
variable (n : Nat) (f : Nat → R3) (k s h : Int) (m : Nat) (e : Nat → R1) (N : Nat) (F : Nat → R3) (K S H : Int)
end
section
variable (n : Nat) (f : Nat → R3) (k s h : Int) (m : Nat) (e : Nat → R1) (n1 : Nat) (f1 : Nat → R3) (k1 s1 h1 : Int)
end
end Go.RX.Span

/- Sparse domains: Union, Both, Minus, Within: the walks. -/
set_option linter.unusedVariables false
set_option linter.unusedSimpArgs false
set_option maxRecDepth 100000
namespace Go.RX.Span
open Go Go.RX
attribute [local irreducible] sx conB

--%R < ↑(\w+)\b => < ((\1 : Nat) : Int)
--%R ↑(\w+) (=|≤) => ((\1 : Nat) : Int) \2
set_option maxRecDepth 100000 in
theorem t_Pa82 (n : Nat) (f : Nat → R3) (k s h : Int) (m : Nat) (e : Nat → R1) (n1 : Nat) (f1 : Nat → R3) (k1 s1 h1 : Int) (m1 : Nat) (e1 : Nat → R1) : conB Go.Proofs.Try.prog (conOf kPa) noLoops 10 32 [.agg [.row [.int .i64, .int .i64, .int .i64] n f, .lit (.int .i64 k), .lit (.int .i64 s), .lit (.int .i64 h), .row [.int .i64] m e], .agg [.row [.int .i64, .int .i64, .int .i64] n1 f1, .lit (.int .i64 k1), .lit (.int .i64 s1), .lit (.int .i64 h1), .row [.int .i64] m1 e1]] =
    T.ask (Row64 n f) (.br (U.ne (lk spE n f k s h m e) (0 : Int)) (.ret (.tup [.agg [.lit (.slice none (nat_lit 0) (nat_lit 0)), .lit (.int .i64 0), .lit (.int .i64 0), .lit (.int .i64
      0), .lit (.slice none (nat_lit 0) (nat_lit 0))], .lit (.int .i64 (lk spE n f k s h m e))])) (.ask (Row64 n1 f1) (.br (U.ne (lk spE n1 f1 k1 s1 h1 m1 e1) (0 : Int)) (.ret (.tup [.agg
      [.lit (.slice none (nat_lit 0) (nat_lit 0)), .lit (.int .i64 0), .lit (.int .i64 0), .lit (.int .i64 0), .lit (.slice none (nat_lit 0) (nat_lit 0))], .lit (.int .i64 (lk spE n1 f1
      k1 s1 h1 m1 e1))])) (.ask (n ≤ nat_lit 9223372036854775807) (.br (lk eqR3 n f n1 f1) (.br (U.not (U.andb (U.eq k k1) (U.andb (U.eq s s1) (U.eq h h1)))) (.ret (.tup [.agg [.lit
      (.slice none (nat_lit 0) (nat_lit 0)), .lit (.int .i64 0), .lit (.int .i64 0), .lit (.int .i64 0), .lit (.slice none (nat_lit 0) (nat_lit 0))], .lit (.int .i64 50)])) (.ask ((0 :
      Nat) < n ∧ n ≤ (10000 : Nat)) (.ask (lk PreMg m e m1 e1 ∧ ((82 : Nat) = (82 : FuncId) ∨ (82 : Nat) = (83 : FuncId) ∨ (82 : Nat) = (84 : FuncId))) (.br (U.gt (Int.ofNat (lk mgN
      (nat_lit 82) m e m1 e1)) (5000 : Int)) (.ret (.tup [.agg [.lit (.slice none (nat_lit 0) (nat_lit 0)), .lit (.int .i64 0), .lit (.int .i64 0), .lit (.int .i64 0), .lit (.slice none
      (nat_lit 0) (nat_lit 0))], .lit (.int .i64 5)])) (.ret (.tup [.agg [.row [.int .i64, .int .i64, .int .i64] n f, .lit (.int .i64 k), .lit (.int .i64 s), .lit (.int .i64 h), .row
      [.int .i64] (lk mgN (nat_lit 82) m e m1 e1) (lk mgF (nat_lit 82) m e m1 e1)], .lit (.int .i64 0)])))))) (.ret (.tup [.agg [.lit (.slice none (nat_lit 0) (nat_lit 0)), .lit (.int
      .i64 0), .lit (.int .i64 0), .lit (.int .i64 0), .lit (.slice none (nat_lit 0) (nat_lit 0))], .lit (.int .i64 50)]))))))) := by kernel_rfl
set_option maxRecDepth 100000 in
theorem t_Pa83 (n : Nat) (f : Nat → R3) (k s h : Int) (m : Nat) (e : Nat → R1) (n1 : Nat) (f1 : Nat → R3) (k1 s1 h1 : Int) (m1 : Nat) (e1 : Nat → R1) : conB Go.Proofs.Try.prog (conOf kPa) noLoops 10 33 [.agg [.row [.int .i64, .int .i64, .int .i64] n f, .lit (.int .i64 k), .lit (.int .i64 s), .lit (.int .i64 h), .row [.int .i64] m e], .agg [.row [.int .i64, .int .i64, .int .i64] n1 f1, .lit (.int .i64 k1), .lit (.int .i64 s1), .lit (.int .i64 h1), .row [.int .i64] m1 e1]] =
    T.ask (Row64 n f) (.br (U.ne (lk spE n f k s h m e) (0 : Int)) (.ret (.tup [.agg [.lit (.slice none (nat_lit 0) (nat_lit 0)), .lit (.int .i64 0), .lit (.int .i64 0), .lit (.int .i64
      0), .lit (.slice none (nat_lit 0) (nat_lit 0))], .lit (.int .i64 (lk spE n f k s h m e))])) (.ask (Row64 n1 f1) (.br (U.ne (lk spE n1 f1 k1 s1 h1 m1 e1) (0 : Int)) (.ret (.tup [.agg
      [.lit (.slice none (nat_lit 0) (nat_lit 0)), .lit (.int .i64 0), .lit (.int .i64 0), .lit (.int .i64 0), .lit (.slice none (nat_lit 0) (nat_lit 0))], .lit (.int .i64 (lk spE n1 f1
      k1 s1 h1 m1 e1))])) (.ask (n ≤ nat_lit 9223372036854775807) (.br (lk eqR3 n f n1 f1) (.br (U.not (U.andb (U.eq k k1) (U.andb (U.eq s s1) (U.eq h h1)))) (.ret (.tup [.agg [.lit
      (.slice none (nat_lit 0) (nat_lit 0)), .lit (.int .i64 0), .lit (.int .i64 0), .lit (.int .i64 0), .lit (.slice none (nat_lit 0) (nat_lit 0))], .lit (.int .i64 50)])) (.ask ((0 :
      Nat) < n ∧ n ≤ (10000 : Nat)) (.ask (lk PreMg m e m1 e1 ∧ ((83 : Nat) = (82 : FuncId) ∨ (83 : Nat) = (83 : FuncId) ∨ (83 : Nat) = (84 : FuncId))) (.br (U.gt (Int.ofNat (lk mgN
      (nat_lit 83) m e m1 e1)) (5000 : Int)) (.ret (.tup [.agg [.lit (.slice none (nat_lit 0) (nat_lit 0)), .lit (.int .i64 0), .lit (.int .i64 0), .lit (.int .i64 0), .lit (.slice none
      (nat_lit 0) (nat_lit 0))], .lit (.int .i64 5)])) (.ret (.tup [.agg [.row [.int .i64, .int .i64, .int .i64] n f, .lit (.int .i64 k), .lit (.int .i64 s), .lit (.int .i64 h), .row
      [.int .i64] (lk mgN (nat_lit 83) m e m1 e1) (lk mgF (nat_lit 83) m e m1 e1)], .lit (.int .i64 0)])))))) (.ret (.tup [.agg [.lit (.slice none (nat_lit 0) (nat_lit 0)), .lit (.int
      .i64 0), .lit (.int .i64 0), .lit (.int .i64 0), .lit (.slice none (nat_lit 0) (nat_lit 0))], .lit (.int .i64 50)]))))))) := by kernel_rfl
set_option maxRecDepth 100000 in
theorem t_Pa84 (n : Nat) (f : Nat → R3) (k s h : Int) (m : Nat) (e : Nat → R1) (n1 : Nat) (f1 : Nat → R3) (k1 s1 h1 : Int) (m1 : Nat) (e1 : Nat → R1) : conB Go.Proofs.Try.prog (conOf kPa) noLoops 10 34 [.agg [.row [.int .i64, .int .i64, .int .i64] n f, .lit (.int .i64 k), .lit (.int .i64 s), .lit (.int .i64 h), .row [.int .i64] m e], .agg [.row [.int .i64, .int .i64, .int .i64] n1 f1, .lit (.int .i64 k1), .lit (.int .i64 s1), .lit (.int .i64 h1), .row [.int .i64] m1 e1]] =
    T.ask (Row64 n f) (.br (U.ne (lk spE n f k s h m e) (0 : Int)) (.ret (.tup [.agg [.lit (.slice none (nat_lit 0) (nat_lit 0)), .lit (.int .i64 0), .lit (.int .i64 0), .lit (.int .i64
      0), .lit (.slice none (nat_lit 0) (nat_lit 0))], .lit (.int .i64 (lk spE n f k s h m e))])) (.ask (Row64 n1 f1) (.br (U.ne (lk spE n1 f1 k1 s1 h1 m1 e1) (0 : Int)) (.ret (.tup [.agg
      [.lit (.slice none (nat_lit 0) (nat_lit 0)), .lit (.int .i64 0), .lit (.int .i64 0), .lit (.int .i64 0), .lit (.slice none (nat_lit 0) (nat_lit 0))], .lit (.int .i64 (lk spE n1 f1
      k1 s1 h1 m1 e1))])) (.ask (n ≤ nat_lit 9223372036854775807) (.br (lk eqR3 n f n1 f1) (.br (U.not (U.andb (U.eq k k1) (U.andb (U.eq s s1) (U.eq h h1)))) (.ret (.tup [.agg [.lit
      (.slice none (nat_lit 0) (nat_lit 0)), .lit (.int .i64 0), .lit (.int .i64 0), .lit (.int .i64 0), .lit (.slice none (nat_lit 0) (nat_lit 0))], .lit (.int .i64 50)])) (.ask ((0 :
      Nat) < n ∧ n ≤ (10000 : Nat)) (.ask (lk PreMg m e m1 e1 ∧ ((84 : Nat) = (82 : FuncId) ∨ (84 : Nat) = (83 : FuncId) ∨ (84 : Nat) = (84 : FuncId))) (.br (U.gt (Int.ofNat (lk mgN
      (nat_lit 84) m e m1 e1)) (5000 : Int)) (.ret (.tup [.agg [.lit (.slice none (nat_lit 0) (nat_lit 0)), .lit (.int .i64 0), .lit (.int .i64 0), .lit (.int .i64 0), .lit (.slice none
      (nat_lit 0) (nat_lit 0))], .lit (.int .i64 5)])) (.ret (.tup [.agg [.row [.int .i64, .int .i64, .int .i64] n f, .lit (.int .i64 k), .lit (.int .i64 s), .lit (.int .i64 h), .row
      [.int .i64] (lk mgN (nat_lit 84) m e m1 e1) (lk mgF (nat_lit 84) m e m1 e1)], .lit (.int .i64 0)])))))) (.ret (.tup [.agg [.lit (.slice none (nat_lit 0) (nat_lit 0)), .lit (.int
      .i64 0), .lit (.int .i64 0), .lit (.int .i64 0), .lit (.slice none (nat_lit 0) (nat_lit 0))], .lit (.int .i64 50)]))))))) := by kernel_rfl
end Go.RX.Span

/- Ranges: equal sets, equal ranges; a range with itself. -/
set_option linter.unusedVariables false
set_option linter.unusedSimpArgs false
set_option maxRecDepth 100000
namespace Go.RX.Span
open Go Go.RX
attribute [local irreducible] sx conB

/-! Numbers and positions. -/
theorem nthR_is {r : R3} (h : RR r) {q : Int} (q0 : 0 ≤ q) (q1 : q < szR r) : nth (rA r) (rB r) (rC r) q = rA r + rC r * q ∧ hasR r (nth (rA r) (rB r) (rC r) q) = true ∧ posR r (nth (rA r) (rB r) (rC r) q) = q := by
  have hc := h.2
  have hz := chk_zero.2 h.1
  rw [(rr_size h).1] at q1
  have hab : ¬ rA r > rB r := fun g => by unfold ofC at q1; rw [if_pos g] at q1; omega
  have eC : ofC (rA r) (rB r) (rC r) = (rB r - rA r) / rC r + 1 := by unfold ofC; rw [if_neg hab, if_neg (by omega)]
  have e : nth (rA r) (rB r) (rC r) q = rA r + rC r * q := by
    have e0 : nthE (rA r) (rB r) (rC r) q = 0 := by unfold nthE; rw [if_neg (fun g => g hz), if_neg (by omega)]
    unfold nth
    rw [if_neg (fun g => g e0)]
    unfold ofF ofB
    rw [if_neg hab, if_neg hab, if_neg (by omega)]
  rw [eC] at q1
  have m0 := Int.mul_nonneg (show 0 ≤ rC r by omega) q0
  have m1 := Int.mul_le_mul_of_nonneg_left (show q ≤ (rB r - rA r) / rC r by omega) (show 0 ≤ rC r by omega)
  have m2 := Int.mul_ediv_add_emod (rB r - rA r) (rC r)
  have m3 := Int.emod_nonneg (rB r - rA r) (show rC r ≠ 0 by omega)
  have hd : has (rA r) (rB r) (rC r) (rA r + rC r * q) = true := decide_eq_true ⟨hz, by omega, by omega, by rw [show rA r + rC r * q - rA r = rC r * q by omega]; exact Int.mul_emod_right _ _⟩
  refine ⟨e, by rw [e]; exact hd, ?_⟩
  rw [e]
  show pos _ _ _ _ = _
  unfold pos
  rw [if_pos hd, if_neg (by omega), show rA r + rC r * q - rA r = rC r * q by omega, Int.mul_ediv_cancel_left _ (by omega)]
section
variable {n : Nat} {f : Nat → R3} {k s h : Int}
/-- The position of the index at a position. -/
theorem nth_pos {F : Nat → R3} (hF : ∀ i, i < n → F i = f i) (hc : chD n f k s h = 0) {q : Int} (q0 : 0 ≤ q) (q1 : q < szD n f k s h) :
    dnN n f k s h q = n ∧ hasD n F k s h (dnN n f k s h q) (dnF n f q) = true ∧ posD n F k s h (dnN n f k s h q) (dnF n f q) = q := by
  have e0 : dnE n f k s h q = 0 := by unfold dnE; rw [if_neg (fun g => g hc), if_neg (by omega)]
  have eN : dnN n f k s h q = n := by unfold dnN; rw [if_neg (fun g => g e0)]
  obtain ⟨⟨hn, d⟩, d2⟩ := chD_zero.1 hc
  have hcF : chD n F k s h = 0 := chD_zero.2 ⟨⟨hn, fun i hi => by rw [hF i hi]; exact d i hi⟩, d2⟩
  have es : szD n f k s h = szR (f 0) * colD n f := by unfold szD; rw [if_neg (fun x => x hc)]
  rw [es] at q1
  rw [eN]
  rcases hn with rfl | rfl
  · have r0 := d 0 (by decide)
    have eq : q.tdiv (colD 1 f) = q := by unfold colD; rw [if_pos rfl]; exact Int.tdiv_one q
    have q1 : q < szR (f 0) := by unfold colD at q1; rw [if_pos rfl, Int.mul_one] at q1; exact q1
    obtain ⟨_, g1, g2⟩ := nthR_is r0 q0 q1
    have ev : (dnF 1 f q 0).1 = nth (rA (f 0)) (rB (f 0)) (rC (f 0)) q := by unfold dnF; rw [eq]; rfl
    obtain ⟨x1, x2⟩ := hasD_t (n := 1) (f := F) (k := k) (s := s) (h := h) (m := 1) (e := dnF 1 f q) ⟨hcF, rfl, by rw [hF 0 (by decide), ev]; exact g1, fun g => absurd g (by decide)⟩
    refine ⟨rfl, x1, ?_⟩
    rw [x2, if_pos rfl, hF 0 (by decide), ev]; exact g2
  · have r0 := d 0 (by decide)
    have r1 := d 1 (by decide)
    have ec : colD 2 f = szR (f 1) := by unfold colD; rw [if_neg (by decide)]
    rw [ec] at q1
    have s1 := (rr_size r1).2.1
    have s1' : 0 < szR (f 1) := by
      rcases Int.lt_or_eq_of_le s1 with g | g
      · exact g
      · rw [← g, Int.mul_zero] at q1; omega
    have a0 := Int.ediv_nonneg q0 s1
    have a1 : q / szR (f 1) < szR (f 0) := Int.ediv_lt_of_lt_mul s1' q1
    have b0 := Int.emod_nonneg q (show szR (f 1) ≠ 0 by omega)
    have b1 := Int.emod_lt_of_pos q s1'
    obtain ⟨_, g1, g2⟩ := nthR_is r0 a0 a1
    obtain ⟨_, g3, g4⟩ := nthR_is r1 b0 b1
    have ev0 : (dnF 2 f q 0).1 = nth (rA (f 0)) (rB (f 0)) (rC (f 0)) (q / szR (f 1)) := by unfold dnF; rw [ec, Int.tdiv_eq_ediv_of_nonneg q0]; rfl
    have ev1 : (dnF 2 f q 1).1 = nth (rA (f 1)) (rB (f 1)) (rC (f 1)) (q % szR (f 1)) := by unfold dnF; rw [ec, Int.tmod_eq_emod_of_nonneg q0]; rfl
    obtain ⟨x1, x2⟩ := hasD_t (n := 2) (f := F) (k := k) (s := s) (h := h) (m := 2) (e := dnF 2 f q) ⟨hcF, rfl, by rw [hF 0 (by decide), ev0]; exact g1, fun _ => by rw [hF 1 (by decide), ev1]; exact g3⟩
    refine ⟨rfl, x1, ?_⟩
    rw [x2, if_neg (by decide), hF 0 (by decide), hF 1 (by decide), ev0, ev1, g2, g4, Int.mul_comm]
    exact Int.mul_ediv_add_emod q _
end
end Go.RX.Span

/- Sparse domains: rows and back, transposed twice: plain. -/
set_option linter.unusedVariables false
set_option linter.unusedSimpArgs false
set_option maxRecDepth 100000
namespace Go.RX.Span
open Go Go.RX
attribute [local irreducible] sx conB

/-! Rows, and back. -/
section
variable {n : Nat} {f : Nat → R3} {k s h : Int} {m : Nat} {e : Nat → R1}
end
/-! Transposed twice. -/
section
variable {R C p : Int}
end
theorem spAt_lF {N : Int} {l : List Int} (h : Asc l) (hb : ∀ x ∈ l, 0 ≤ x ∧ x < N) : SpAt N l.length (lF l) := fun i hi => by
  have e : ∀ j, (hj : j < l.length) → nv (lF l) j = l[j] := fun j hj => by show l.getD j 0 = _; rw [List.getD_eq_getElem?_getD, List.getElem?_eq_getElem hj]; rfl
  rw [e i hi]
  obtain ⟨g1, g2⟩ := hb _ (List.getElem_mem hi)
  refine ⟨g1, g2, fun h0 => ?_⟩
  rw [e (i - 1) (by omega)]
  exact List.pairwise_iff_getElem.1 h (i - 1) i (by omega) hi (by omega)
section
variable {f : Nat → R3} {k s h : Int} {m : Nat} {e : Nat → R1}
end
/-! Within itself. -/
section
variable {n : Nat} {f : Nat → R3} {k s h : Int} {m : Nat} {e : Nat → R1}
end
end Go.RX.Span

/- Sparse domains: Union, Both, Minus, Within. -/
set_option linter.unusedVariables false
set_option linter.unusedSimpArgs false
set_option maxRecDepth 100000
namespace Go.RX.Span
open Go Go.RX
attribute [local irreducible] sx conB

section
variable {g n : Nat} {f : Nat → R3} {k s h : Int} {m : Nat} {e : Nat → R1} {n1 : Nat} {f1 : Nat → R3} {k1 s1 h1 : Int} {m1 : Nat} {e1 : Nat → R1}
theorem paE_1 (g1 : spE n f k s h m e ≠ 0) : spE n f k s h m e = paE g n f k s h m e n1 f1 k1 s1 h1 m1 e1 := by unfold paE; rw [if_pos g1]
theorem paE_2 (g1 : spE n f k s h m e = 0) (g2 : spE n1 f1 k1 s1 h1 m1 e1 ≠ 0) : spE n1 f1 k1 s1 h1 m1 e1 = paE g n f k s h m e n1 f1 k1 s1 h1 m1 e1 := by unfold paE; rw [if_neg (fun x => x g1), if_pos g2]
theorem paE_3 (g1 : spE n f k s h m e = 0) (g2 : spE n1 f1 k1 s1 h1 m1 e1 = 0) (g3 : eqDo n f k s h n1 f1 k1 s1 h1 = false) : (50 : Int) = paE g n f k s h m e n1 f1 k1 s1 h1 m1 e1 := by unfold paE; rw [if_neg (fun x => x g1), if_neg (fun x => x g2), if_pos g3]
theorem paE_4 (g1 : spE n f k s h m e = 0) (g2 : spE n1 f1 k1 s1 h1 m1 e1 = 0) (g3 : eqDo n f k s h n1 f1 k1 s1 h1 = true) (g4 : 5000 < mgN g m e m1 e1) : (5 : Int) = paE g n f k s h m e n1 f1 k1 s1 h1 m1 e1 := by unfold paE; rw [if_neg (fun x => x g1), if_neg (fun x => x g2), if_neg (by rw [g3]; decide), if_pos g4]
theorem paE_5 (g1 : spE n f k s h m e = 0) (g2 : spE n1 f1 k1 s1 h1 m1 e1 = 0) (g3 : eqDo n f k s h n1 f1 k1 s1 h1 = true) (g4 : ¬ 5000 < mgN g m e m1 e1) : paE g n f k s h m e n1 f1 k1 s1 h1 m1 e1 = 0 := by unfold paE; rw [if_neg (fun x => x g1), if_neg (fun x => x g2), if_neg (by rw [g3]; decide), if_neg g4]
theorem eqDo_c {b : Bool} (h0 : eqR3 n f n1 f1 = true) (hb : U.andb (U.eq k k1) (U.andb (U.eq s s1) (U.eq h h1)) = b) : eqDo n f k s h n1 f1 k1 s1 h1 = b := by
  unfold eqDo
  rw [h0, Bool.true_and]
  cases b
  · refine decide_eq_false fun hx => ?_
    have : U.andb (U.eq k k1) (U.andb (U.eq s s1) (U.eq h h1)) = true := U.andb_t.mpr ⟨U.eq_t.mpr hx.1, U.andb_t.mpr ⟨U.eq_t.mpr hx.2.1, U.eq_t.mpr hx.2.2⟩⟩
    rw [hb] at this; cases this
  · have g2 := U.andb_t.mp hb
    have g3 := U.andb_t.mp g2.2
    exact decide_eq_true ⟨U.eq_t.mp g2.1, U.eq_t.mp g3.1, U.eq_t.mp g3.2⟩
end
theorem Union_ok : ConOK P 32 (c_pair 82) := con_cl (allOK mixed kPa_ok) 10 32 fun args r hh => by
  unfold c_pair at hh
  split at hh
  · rename_i n f k s h m e n1 f1 k1 s1 h1 m1 e1
    obtain ⟨hp, hp1⟩ := (T.is_ask hh).1
    obtain rfl := T.is_ret (T.is_ask hh).2
    refine T.all_of_eq (t_Pa82 n f k s h m e n1 f1 k1 s1 h1 m1 e1) ?_
    simp only [lk_eq, Int.ofNat_eq_natCast]
    refine ⟨hp, fun g1 => ?_, fun g1 => ⟨hp1, fun g2 => ?_, fun g2 => ⟨?_, fun g3 => ⟨fun g4 => ?_, fun g4 => ⟨?_, ⟨?_, by decide⟩, fun g5 => ?_, fun g5 => ?_⟩⟩, fun g3 => ?_⟩⟩⟩
    · have g1 := U.ne_t.mp g1
      exact cl_err (paE_1 g1) g1
    · have g2 := U.ne_t.mp g2
      exact cl_err (paE_2 (U.ne_f.mp g1) g2) g2
    all_goals have g1 := U.ne_f.mp g1
    all_goals have g2 := U.ne_f.mp g2
    all_goals have hn := (chD_zero.1 (pdE_zero.1 (spE_zero.1 g1).1).1).1.1
    · show n ≤ 9223372036854775807; omega
    · exact cl_err (paE_3 g1 g2 (eqDo_c g3 (U.not_t.mp g4))) (by decide)
    · exact ⟨by omega, by omega⟩
    · exact ⟨(sp_bs g1).1, (sp_bs g2).1⟩
    · exact cl_err (paE_4 g1 g2 (eqDo_c g3 (U.not_f.mp g4)) (by have := U.gt_t.mp g5; omega)) (by decide)
    · rw [paE_5 g1 g2 (eqDo_c g3 (U.not_f.mp g4)) (by have := U.gt_f.mp g5; omega)]
      exact ⟨⟨⟨rfl, sameRow_refl _ _⟩, .inl rfl, .inl rfl, .inl rfl, ⟨rfl, sameRow_refl _ _⟩, rfl⟩, .inl rfl, rfl⟩
    · exact cl_err (paE_3 g1 g2 (by unfold eqDo; rw [g3]; rfl)) (by decide)
  · exact hh.elim
theorem Both_ok : ConOK P 33 (c_pair 83) := con_cl (allOK mixed kPa_ok) 10 33 fun args r hh => by
  unfold c_pair at hh
  split at hh
  · rename_i n f k s h m e n1 f1 k1 s1 h1 m1 e1
    obtain ⟨hp, hp1⟩ := (T.is_ask hh).1
    obtain rfl := T.is_ret (T.is_ask hh).2
    refine T.all_of_eq (t_Pa83 n f k s h m e n1 f1 k1 s1 h1 m1 e1) ?_
    simp only [lk_eq, Int.ofNat_eq_natCast]
    refine ⟨hp, fun g1 => ?_, fun g1 => ⟨hp1, fun g2 => ?_, fun g2 => ⟨?_, fun g3 => ⟨fun g4 => ?_, fun g4 => ⟨?_, ⟨?_, by decide⟩, fun g5 => ?_, fun g5 => ?_⟩⟩, fun g3 => ?_⟩⟩⟩
    · have g1 := U.ne_t.mp g1
      exact cl_err (paE_1 g1) g1
    · have g2 := U.ne_t.mp g2
      exact cl_err (paE_2 (U.ne_f.mp g1) g2) g2
    all_goals have g1 := U.ne_f.mp g1
    all_goals have g2 := U.ne_f.mp g2
    all_goals have hn := (chD_zero.1 (pdE_zero.1 (spE_zero.1 g1).1).1).1.1
    · show n ≤ 9223372036854775807; omega
    · exact cl_err (paE_3 g1 g2 (eqDo_c g3 (U.not_t.mp g4))) (by decide)
    · exact ⟨by omega, by omega⟩
    · exact ⟨(sp_bs g1).1, (sp_bs g2).1⟩
    · exact cl_err (paE_4 g1 g2 (eqDo_c g3 (U.not_f.mp g4)) (by have := U.gt_t.mp g5; omega)) (by decide)
    · rw [paE_5 g1 g2 (eqDo_c g3 (U.not_f.mp g4)) (by have := U.gt_f.mp g5; omega)]
      exact ⟨⟨⟨rfl, sameRow_refl _ _⟩, .inl rfl, .inl rfl, .inl rfl, ⟨rfl, sameRow_refl _ _⟩, rfl⟩, .inl rfl, rfl⟩
    · exact cl_err (paE_3 g1 g2 (by unfold eqDo; rw [g3]; rfl)) (by decide)
  · exact hh.elim
theorem Minus_ok : ConOK P 34 (c_pair 84) := con_cl (allOK mixed kPa_ok) 10 34 fun args r hh => by
  unfold c_pair at hh
  split at hh
  · rename_i n f k s h m e n1 f1 k1 s1 h1 m1 e1
    obtain ⟨hp, hp1⟩ := (T.is_ask hh).1
    obtain rfl := T.is_ret (T.is_ask hh).2
    refine T.all_of_eq (t_Pa84 n f k s h m e n1 f1 k1 s1 h1 m1 e1) ?_
    simp only [lk_eq, Int.ofNat_eq_natCast]
    refine ⟨hp, fun g1 => ?_, fun g1 => ⟨hp1, fun g2 => ?_, fun g2 => ⟨?_, fun g3 => ⟨fun g4 => ?_, fun g4 => ⟨?_, ⟨?_, by decide⟩, fun g5 => ?_, fun g5 => ?_⟩⟩, fun g3 => ?_⟩⟩⟩
    · have g1 := U.ne_t.mp g1
      exact cl_err (paE_1 g1) g1
    · have g2 := U.ne_t.mp g2
      exact cl_err (paE_2 (U.ne_f.mp g1) g2) g2
    all_goals have g1 := U.ne_f.mp g1
    all_goals have g2 := U.ne_f.mp g2
    all_goals have hn := (chD_zero.1 (pdE_zero.1 (spE_zero.1 g1).1).1).1.1
    · show n ≤ 9223372036854775807; omega
    · exact cl_err (paE_3 g1 g2 (eqDo_c g3 (U.not_t.mp g4))) (by decide)
    · exact ⟨by omega, by omega⟩
    · exact ⟨(sp_bs g1).1, (sp_bs g2).1⟩
    · exact cl_err (paE_4 g1 g2 (eqDo_c g3 (U.not_f.mp g4)) (by have := U.gt_t.mp g5; omega)) (by decide)
    · rw [paE_5 g1 g2 (eqDo_c g3 (U.not_f.mp g4)) (by have := U.gt_f.mp g5; omega)]
      exact ⟨⟨⟨rfl, sameRow_refl _ _⟩, .inl rfl, .inl rfl, .inl rfl, ⟨rfl, sameRow_refl _ _⟩, rfl⟩, .inl rfl, rfl⟩
    · exact cl_err (paE_3 g1 g2 (by unfold eqDo; rw [g3]; rfl)) (by decide)
  · exact hh.elim
/-! Within. -/
section
variable {n : Nat} {f : Nat → R3} {k s h : Int} {e : Nat → R1} {N : Nat} {F : Nat → R3} {K S H : Int}
end
section
variable {n : Nat} {f : Nat → R3} {k s h : Int} {m : Nat} {e : Nat → R1} {n1 : Nat} {f1 : Nat → R3} {k1 s1 h1 : Int}
end
end Go.RX.Span

/- Sparse domains: the law of ways back: what it calls. -/
set_option linter.unusedVariables false
set_option linter.unusedSimpArgs false
set_option maxRecDepth 100000
namespace Go.RX.Span
open Go Go.RX
attribute [local irreducible] sx conB

noncomputable def c_own : Con := fun args => match args with
  | [.agg [.row [.int .i64, .int .i64, .int .i64] n f, .lit (.int .i64 k), .lit (.int .i64 s), .lit (.int .i64 h), .row [.int .i64] m e]] => .ret (.agg [.row [.int .i64, .int .i64, .int .i64] n f, .lit (.int .i64 k), .lit (.int .i64 s), .lit (.int .i64 h), .row [.int .i64] m e])
  | _ => .stuck 1
theorem own_ok : ConOK P 12 c_own := con_of (allOK mixed none_ok) 10 12 fun args r hh => by
  unfold c_own at hh
  split at hh
  · rename_i n f k s h m e
    obtain rfl := T.is_ret hh
    have t : conB Go.Proofs.Try.prog (conOf []) noLoops 10 12 [.agg [.row [.int .i64, .int .i64, .int .i64] n f, .lit (.int .i64 k), .lit (.int .i64 s), .lit (.int .i64 h), .row [.int .i64] m e]] = T.ret (.agg [.row [.int .i64, .int .i64, .int .i64] n f, .lit (.int .i64 k), .lit (.int .i64 s), .lit (.int .i64 h), .row [.int .i64] m e]) := by kernel_rfl
    exact T.all_of_eq t rfl
  · exact hh.elim
end Go.RX.Span

/- Sparse domains: the law of ways back: the walk. -/
set_option linter.unusedVariables false
set_option linter.unusedSimpArgs false
set_option maxRecDepth 100000
namespace Go.RX.Span
open Go Go.RX
attribute [local irreducible] sx conB

--%R < ↑(\w+)\b => < ((\1 : Nat) : Int)
--%R ↑(\w+) (=|≤) => ((\1 : Nat) : Int) \2
end Go.RX.Span

/- Sparse domains: the law of ways back. -/
set_option linter.unusedVariables false
set_option linter.unusedSimpArgs false
set_option maxRecDepth 100000
namespace Go.RX.Span
open Go Go.RX
attribute [local irreducible] sx conB

theorem smB_ext {n : Nat} {f f' : Nat → R3} {k s h : Int} {m : Nat} {e e' : Nat → R1} (hf : ∀ i, i < n → f i = f' i) (he : ∀ i, i < m → e i = e' i) : smB n f k s h m e n f' k s h m e' = true := by
  unfold smB
  rw [eqR3_t.2 ⟨rfl, fun i hi => by rw [hf i hi]; exact ⟨rfl, rfl, rfl⟩⟩, eqR_t.2 ⟨rfl, fun i hi => by rw [he i hi]⟩, decide_eq_true (show k = k ∧ s = s ∧ h = h from ⟨rfl, rfl, rfl⟩)]; rfl
theorem lF_nl {m : Nat} {e : Nat → R1} {i : Nat} (hi : i < m) : lF (nl m e) i = e i := by
  have e1 : (lF (nl m e) i).1 = (e i).1 := nl_get hi
  exact Prod.ext e1 rfl
end Go.RX.Span

/- Sparse domains: the law of sets: what it calls; the states. -/
set_option linter.unusedVariables false
set_option linter.unusedSimpArgs false
set_option maxRecDepth 100000
namespace Go.RX.Span
open Go Go.RX
attribute [local irreducible] sx conB

/-! Contains, Concat. -/
open Classical in
noncomputable def fsE (m : Nat) (e : Nat → R1) (p : Int) : Nat := if h : ∃ i, i < m ∧ nv e i = p ∧ ∀ j, j < i → nv e j ≠ p then h.choose else 0
noncomputable abbrev slIe (m : Nat) (e : Nat → R1) (p i : Int) : List SV := [.row [.int .i64] m e, .lit (.int .i64 p), .any, .lit (.int .i64 (m : Int)), .lit (.int .i64 i)]
noncomputable def gIe : Nat → Few → T (Ex × Few)
  | n0, ([.row [.int .i64] m e, .lit (.int .i64 p), _, .lit (.int .i64 N), .ki .i64 z], []) =>
    .ask (n0 = 0 ∧ m ≤ 100000 ∧ N = (m : Int) ∧ z = 0) (.br (lk bsB m e p) (.ret (.ret, ([.any, .any, .lit (.int .i64 ((lk fsE m e p : Nat) : Int)), .any, .any], []))) (.ret (.exit 0, ([.any, .any, .any, .any, .any], []))))
  | _, _ => .stuck 1
noncomputable abbrev lIe : List (Nat × Loops) := [(86, [(2, .sum (few 19 [0,1,4,7,8] gIe))])] --%K
noncomputable def c_Contains : Con := fun args => match args with
  | [.row [.int .i64] m e, .lit (.int .i64 p)] => .ask (m ≤ 100000) (.ret (.lit (.bool (lk bsB m e p))))
  | _ => .stuck 1
noncomputable abbrev lCc : List (Nat × Loops) := [(35, [(3, .un 3), (11, .un 3)])] --%K
def ccN (F : Nat → RL) : Nat := (F 0).1.1 + (F 1).1.1
noncomputable def ccF (F : Nat → RL) : Nat → R1 := U.cat (F 0).1.1 (F 0).1.2 (F 1).1.2
noncomputable def c_Concat2 : Con := fun args => match args with
  | [.row [.sl [.int .i64]] 2 F] => .ask ((F 0).1.1 ≤ 100000 ∧ (F 1).1.1 ≤ 100000) (.ret (.row [.int .i64] (lk ccN F) (lk ccF F)))
  | _ => .stuck 1
/-! The law's loops. -/
noncomputable abbrev spC (n : Nat) (f : Nat → R3) (k s h : Int) (m : Nat) (e : Nat → R1) : List SV := [.row [.int .i64, .int .i64, .int .i64] n f, .lit (.int .i64 k), .lit (.int .i64 s), .lit (.int .i64 h), .row [.int .i64] m e]
section
variable (n0 n : Nat) (f : Nat → R3) (k s h : Int) (m : Nat) (e : Nat → R1)
def PreS1 (M : Nat) (F : Nat → RL) (N : Int) : Prop := n0 = 0 ∧ Row64 n f ∧ spE n f k s h m e = 0 ∧ M = m ∧ F = ixF n f k s h e ∧ N = (m : Int)
end
noncomputable abbrev slS1 (M : Nat) (F : Nat → RL) (i : Int) : List SV := [.ptr 0 0, .ptr 1 0, .ptr 2 0, .ptr 3 0, .row [.sl [.int .i64]] M F, .any, .any, .any, .any, .any, .any, .row [.sl [.int .i64]] M F, .lit (.int .i64 (M : Int)), .lit (.int .i64 i)]
noncomputable abbrev memS1 (n : Nat) (f : Nat → R3) (k s h : Int) (m : Nat) (e : Nat → R1) (n1 : Nat) (f1 : Nat → R3) (k1 s1 h1 : Int) (m1 : Nat) (e1 : Nat → R1) : Mem :=
  [(0, some (bxIn n f k s h m e 29)), (0, some (bxIn n1 f1 k1 s1 h1 m1 e1 29)), (0, some (bxIn n f k s h m e 38)), (0, some (bxIn n1 f1 k1 s1 h1 m1 e1 38))]
noncomputable def gS1' : Nat → Few → T (Ex × Few)
  | n0, ([.ptr p0 q0, .ptr p1 q1, .ptr p2 q2, .ptr p3 q3, .row [.sl [.int .i64]] M F, _, _, _, _, _, _, .row [.sl [.int .i64]] M' F', .lit (.int .i64 N), .ki .i64 z], [(_, some (.cells [.row [.int .i64, .int .i64, .int .i64] n f, .lit (.int .i64 k), .lit (.int .i64 s), .lit (.int .i64 h), .row [.int .i64] m e] t0)), (_, some (.cells [.row [.int .i64, .int .i64, .int .i64] n1 f1, .lit (.int .i64 k1), .lit (.int .i64 s1), .lit (.int .i64 h1), .row [.int .i64] m1 e1] t1)), (_, some (.cells xs t2)), (_, some (.cells ys t3))]) =>
    .ask (lk PreS1 n0 n f k s h m e M F N ∧ p0 = 0 ∧ q0 = 0 ∧ p1 = 1 ∧ q1 = 0 ∧ p2 = 2 ∧ q2 = 0 ∧ p3 = 3 ∧ q3 = 0 ∧ M' = M ∧ F' = F ∧ z = 0 ∧ t0 = 29 ∧ t1 = 29 ∧ t2 = 38 ∧ t3 = 38 ∧ xs = spC n f k s h m e ∧ ys = spC n1 f1 k1 s1 h1 m1 e1)
      (.ret (.exit 0, ([.ptr 0 0, .ptr 1 0, .ptr 2 0, .ptr 3 0, .row [.sl [.int .i64]] M F, .any, .any, .any, .any, .any, .any, .any, .any, .any], memS1 n f k s h m e n1 f1 k1 s1 h1 m1 e1)))
  | _, _ => .stuck 1
/-- The two domains, and what is made of them: the union, both, the difference. -/
structure C7 where
  (n : Nat) (f : Nat → R3) (k s h : Int)
def PreS2 (n0 : Nat) (m : Nat) (e : Nat → R1) (m1 : Nat) (e1 : Nat → R1) (N0 : Nat) (G0 : Nat → R1) (N1 : Nat) (G1 : Nat → R1) (N2 : Nat) (G2 : Nat → R1) (C : Nat) (H : Nat → R1) (N : Int) : Prop :=
  n0 = 0 ∧ m ≤ 5000 ∧ m1 ≤ 5000 ∧ N0 = mgN 82 m e m1 e1 ∧ G0 = mgF 82 m e m1 e1 ∧ N1 = mgN 83 m e m1 e1 ∧ G1 = mgF 83 m e m1 e1 ∧ N2 = mgN 84 m e m1 e1 ∧ G2 = mgF 84 m e m1 e1 ∧ C = m + m1 ∧ N = (C : Int) ∧ ∀ i, i < C → H i = U.cat m e e1 i
noncomputable abbrev slS2 (C : Nat) (H : Nat → R1) (i : Int) : List SV := [.ptr 0 0, .ptr 1 0, .any, .ptr 5 0, .ptr 6 0, .ptr 7 0, .any, .any, .any, .row [.int .i64] C H, .lit (.int .i64 (C : Int)), .lit (.int .i64 i)]
noncomputable abbrev memS2 (n : Nat) (f : Nat → R3) (k s h : Int) (m : Nat) (e : Nat → R1) (n1 : Nat) (f1 : Nat → R3) (k1 s1 h1 : Int) (m1 : Nat) (e1 : Nat → R1) (c0 c1 c2 : C7) (N0 : Nat) (G0 : Nat → R1) (N1 : Nat) (G1 : Nat → R1) (N2 : Nat) (G2 : Nat → R1) : Mem :=
  [(0, some (bxIn n f k s h m e 29)), (0, some (bxIn n1 f1 k1 s1 h1 m1 e1 29)), (0, none), (0, none), (0, none), (0, some (bxIn c0.n c0.f c0.k c0.s c0.h N0 G0 38)), (0, some (bxIn c1.n c1.f c1.k c1.s c1.h N1 G1 38)), (0, some (bxIn c2.n c2.f c2.k c2.s c2.h N2 G2 38))]
/-- A sparse domain's cells. -/
noncomputable def asSp : List SV → Option (C7 × Nat × (Nat → R1))
  | [.row [.int .i64, .int .i64, .int .i64] n f, .lit (.int .i64 k), .lit (.int .i64 s), .lit (.int .i64 h), .row [.int .i64] m e] => some (⟨n, f, k, s, h⟩, m, e)
  | _ => none
theorem asSp_eq {cs : List SV} {c : C7} {m : Nat} {e : Nat → R1} (h : asSp cs = some (c, m, e)) : cs = spC c.n c.f c.k c.s c.h m e := by
  unfold asSp at h
  split at h
  · cases h; rfl
  · cases h
noncomputable def gS2m (n0 C : Nat) (H : Nat → R1) (C' : Int) : Mem → T (Ex × Few)
  | [(_, some (.cells x0 t0)), (_, some (.cells x1 t1)), _, _, _, (_, some (.cells x5 t5)), (_, some (.cells x6 t6)), (_, some (.cells x7 t7)), _] =>
    match asSp x0, asSp x1 with
    | some (d0, m, e), some (d1, m1, e1) =>
      match asSp x5, asSp x6, asSp x7 with
      | some (d5, N0, G0), some (d6, N1, G1), some (d7, N2, G2) =>
        .ask (lk PreS2 n0 m e m1 e1 N0 G0 N1 G1 N2 G2 C H C' ∧ t0 = 29 ∧ t1 = 29 ∧ t5 = 38 ∧ t6 = 38 ∧ t7 = 38)
          (.ret (.exit 2, ([.any, .any, .any, .any, .any, .any, .any, .any, .any, .any, .any, .any], [(0, none), (0, none), (0, none), (0, none), (0, none), (0, none), (0, none), (0, none), (0, none)])))
      | _, _, _ => .stuck 1
    | _, _ => .stuck 1
  | _ => .stuck 1
noncomputable def gS2' : Nat → Few → T (Ex × Few)
  | n0, ([.ptr p0 q0, .ptr p1 q1, _, .ptr p5 q5, .ptr p6 q6, .ptr p7 q7, _, _, _, .row [.int .i64] C H, .lit (.int .i64 C'), .ki .i64 z], M) =>
    .ask (p0 = 0 ∧ q0 = 0 ∧ p1 = 1 ∧ q1 = 0 ∧ p5 = 5 ∧ q5 = 0 ∧ p6 = 6 ∧ q6 = 0 ∧ p7 = 7 ∧ q7 = 0 ∧ z = 0) (gS2m n0 C H C' M)
  | _, _ => .stuck 1
noncomputable abbrev lSt : List (Nat × Loops) := [(5, [(8, .sum (few 246 [2,3,5,6,7,9,10,11,12,13,14,65,66,67] gS1')), (28, .sum (few 246 [2,3,4,16,17,19,22,23,24,202,203,204] gS2'))])] --%K
noncomputable abbrev kSe : List (Nat × Con) := [(12, c_own), (9, c_few), (10, c_awake), (28, c_SpCheck), (22, c_Indices), (26, c_SpPos), (31, c_DPosition), (24, c_Of), (19, c_same), (32, c_pair 82), (33, c_pair 83), (34, c_pair 84), (35, c_Concat2), (36, c_Contains)] --%K
end Go.RX.Span

/- Sparse domains: the law of sets: the library's walks. -/
set_option linter.unusedVariables false
set_option linter.unusedSimpArgs false
set_option maxRecDepth 100000
namespace Go.RX.Span
open Go Go.RX
attribute [local irreducible] sx conB

--%R < ↑(\w+)\b => < ((\1 : Nat) : Int)
--%R ↑(\w+) (=|≤) => ((\1 : Nat) : Int) \2
set_option maxRecDepth 100000 in
theorem t_Ie (m : Nat) (e : Nat → R1) (p i : Int) : (sx E0 [] 0 (loopOf P 86 2) (mkS 19 [0,1,4,7,8] (slIe m e p i), [])).bind (proj 19 [0,1,4,7,8]) =
    T.br (U.lt i (Int.ofNat m)) (.ask ((0 : Int) ≤ i ∧ i < ((m : Nat) : Int)) (.br (U.eq p (e (U.toNat i)).1) (.ret (Ex.ret, [.row [.int .i64] m e, .lit (.int .i64 p), .lit (.int .i64
      i), .lit (.int .i64 (Int.ofNat m)), .lit (.int .i64 i)], [])) (.ret (Ex.normal, [.row [.int .i64] m e, .lit (.int .i64 p), SV.any, .lit (.int .i64 (Int.ofNat m)), .lit (.int .i64
      (U.add .i64 i (1 : Int)))], [])))) (.ret (Ex.exit (nat_lit 0), [.row [.int .i64] m e, .lit (.int .i64 p), SV.any, .lit (.int .i64 (Int.ofNat m)), .lit (.int .i64 i)], [])) := by kernel_rfl
set_option maxRecDepth 100000 in
theorem t_Contains (m : Nat) (e : Nat → R1) (p : Int) : conB Go.Proofs.Try.prog (conOf []) (loopsOf lIe) 10 36 [.row [.int .i64] m e, .lit (.int .i64 p)] =
    T.ask (nat_lit 0 = (0 : Nat) ∧ m ≤ (100000 : Nat) ∧ ((m : Nat) : Int) = ↑m ∧ (0 : Int) = (0 : Int)) (.br (lk bsB m e p) (.ret (.lit (.bool (U.ge (Int.ofNat (lk fsE m e p)) (0 :
      Int))))) (.ret (.lit (.bool false)))) := by kernel_rfl
set_option maxRecDepth 100000 in
theorem t_Concat (F : Nat → RL) : conB Go.Proofs.Try.prog (conOf []) (loopsOf lCc) 10 35 [.row [.sl [.int .i64]] 2 F] =
    T.br (U.lt (0 : Int) (2 : Int)) (.ask ((0 : Int) ≤ (0 : Int) ∧ (0 : Int) < ↑(2 : Nat)) (.br (U.lt (U.add .i64 0 (Int.ofNat (F (U.toNat (Int.ofNat 0))).fst.1)) (0 : Int)) (.stuck
      (nat_lit 67)) (.br (U.lt (1 : Int) (2 : Int)) (.ask ((0 : Int) ≤ (1 : Int) ∧ (1 : Int) < ↑(2 : Nat)) (.br (U.lt (U.add .i64 (U.add .i64 0 (Int.ofNat (F (U.toNat (Int.ofNat
      0))).fst.1)) (Int.ofNat (F (U.toNat (Int.ofNat 1))).fst.1)) (0 : Int)) (.stuck (nat_lit 67)) (.br (U.lt (2 : Int) (2 : Int)) (.ask ((0 : Int) ≤ (2 : Int) ∧ (2 : Int) < ↑(2 : Nat))
      (.br (U.lt (U.add .i64 (U.add .i64 (U.add .i64 0 (Int.ofNat (F (U.toNat (Int.ofNat 0))).fst.1)) (Int.ofNat (F (U.toNat (Int.ofNat 1))).fst.1)) (Int.ofNat (F (U.toNat (Int.ofNat
      2))).fst.1)) (0 : Int)) (.stuck (nat_lit 67)) (.stuck (nat_lit 105)))) (.br (U.lt (U.add .i64 (U.add .i64 0 (Int.ofNat (F (U.toNat (Int.ofNat 0))).fst.1)) (Int.ofNat (F (U.toNat
      (Int.ofNat 1))).fst.1)) (0 : Int)) (.stuck (nat_lit 67)) (.br (U.gt (U.sub .i64 (U.add .i64 (U.add .i64 0 (Int.ofNat (F (U.toNat (Int.ofNat 0))).fst.1)) (Int.ofNat (F (U.toNat
      (Int.ofNat 1))).fst.1)) (0 : Int)) (0 : Int)) (.ask ((0 : Int) < U.sub .i64 (U.add .i64 (U.add .i64 0 (Int.ofNat (F (U.toNat (Int.ofNat 0))).fst.1)) (Int.ofNat (F (U.toNat
      (Int.ofNat 1))).fst.1)) (0 : Int) ∧ ↑(nat_lit 8) * U.sub .i64 (U.add .i64 (U.add .i64 0 (Int.ofNat (F (U.toNat (Int.ofNat 0))).fst.1)) (Int.ofNat (F (U.toNat (Int.ofNat 1))).fst.1))
      (0 : Int) ≤ (140737488351232 : Int)) (.br (U.lt (0 : Int) (2 : Int)) (.ask ((0 : Int) ≤ (0 : Int) ∧ (0 : Int) < ↑(2 : Nat)) (.ask (((0 : Nat) + (F (U.toNat (Int.ofNat 0))).fst.1) *
      nat_lit 8 ≤ nat_lit 140737488351232) (.br (U.lt (1 : Int) (2 : Int)) (.ask ((0 : Int) ≤ (1 : Int) ∧ (1 : Int) < ↑(2 : Nat)) (.ask (((0 : Nat) + (F (U.toNat (Int.ofNat 0))).fst.1 +
      (F (U.toNat (Int.ofNat 1))).fst.1) * nat_lit 8 ≤ nat_lit 140737488351232) (.br (U.lt (2 : Int) (2 : Int)) (.ask ((0 : Int) ≤ (2 : Int) ∧ (2 : Int) < ↑(2 : Nat)) (.ask (((0 : Nat) +
      (F (U.toNat (Int.ofNat 0))).fst.1 + (F (U.toNat (Int.ofNat 1))).fst.1 + (F (U.toNat (Int.ofNat 2))).fst.1) * nat_lit 8 ≤ nat_lit 140737488351232) (.stuck (nat_lit 105)))) (.ret
      (.row [.int .i64] (nat_lit 0 + (F (U.toNat (Int.ofNat 0))).fst.1 + (F (U.toNat (Int.ofNat 1))).fst.1) (U.cat (nat_lit 0 + (F (U.toNat (Int.ofNat 0))).fst.1) (U.cat (nat_lit 0) (fun
      x => ((0 : Int), PUnit.unit)) (F (U.toNat (Int.ofNat 0))).fst.2) (F (U.toNat (Int.ofNat 1))).fst.2)))))) (.ret (.row [.int .i64] (nat_lit 0 + (F (U.toNat (Int.ofNat 0))).fst.1)
      (U.cat (nat_lit 0) (fun x => ((0 : Int), PUnit.unit)) (F (U.toNat (Int.ofNat 0))).fst.2)))))) (.ret (.row [.int .i64] (nat_lit 0) fun x => ((0 : Int), PUnit.unit))))) (.br (U.lt (0
      : Int) (2 : Int)) (.ask ((0 : Int) ≤ (0 : Int) ∧ (0 : Int) < ↑(2 : Nat)) (.ask ((F (U.toNat (Int.ofNat 0))).fst.1 * nat_lit 8 ≤ nat_lit 140737488351232) (.br (U.lt (1 : Int) (2 :
      Int)) (.ask ((0 : Int) ≤ (1 : Int) ∧ (1 : Int) < ↑(2 : Nat)) (.ask (((F (U.toNat (Int.ofNat 0))).fst.1 + (F (U.toNat (Int.ofNat 1))).fst.1) * nat_lit 8 ≤ nat_lit 140737488351232)
      (.br (U.lt (2 : Int) (2 : Int)) (.ask ((0 : Int) ≤ (2 : Int) ∧ (2 : Int) < ↑(2 : Nat)) (.ask (((F (U.toNat (Int.ofNat 0))).fst.1 + (F (U.toNat (Int.ofNat 1))).fst.1 + (F (U.toNat
      (Int.ofNat 2))).fst.1) * nat_lit 8 ≤ nat_lit 140737488351232) (.stuck (nat_lit 105)))) (.ret (.row [.int .i64] ((F (U.toNat (Int.ofNat 0))).fst.1 + (F (U.toNat (Int.ofNat
      1))).fst.1) (U.cat (F (U.toNat (Int.ofNat 0))).fst.1 (F (U.toNat (Int.ofNat 0))).fst.2 (F (U.toNat (Int.ofNat 1))).fst.2)))))) (.ret (.row [.int .i64] (F (U.toNat (Int.ofNat
      0))).fst.1 (F (U.toNat (Int.ofNat 0))).fst.2))))) (.ret (.lit (.slice none (nat_lit 0) (nat_lit 0)))))))))) (.br (U.lt (U.add .i64 0 (Int.ofNat (F (U.toNat (Int.ofNat 0))).fst.1))
      (0 : Int)) (.stuck (nat_lit 67)) (.br (U.gt (U.sub .i64 (U.add .i64 0 (Int.ofNat (F (U.toNat (Int.ofNat 0))).fst.1)) (0 : Int)) (0 : Int)) (.ask ((0 : Int) < U.sub .i64 (U.add .i64
      0 (Int.ofNat (F (U.toNat (Int.ofNat 0))).fst.1)) (0 : Int) ∧ ↑(nat_lit 8) * U.sub .i64 (U.add .i64 0 (Int.ofNat (F (U.toNat (Int.ofNat 0))).fst.1)) (0 : Int) ≤ (140737488351232 :
      Int)) (.br (U.lt (0 : Int) (2 : Int)) (.ask ((0 : Int) ≤ (0 : Int) ∧ (0 : Int) < ↑(2 : Nat)) (.ask (((0 : Nat) + (F (U.toNat (Int.ofNat 0))).fst.1) * nat_lit 8 ≤ nat_lit
      140737488351232) (.br (U.lt (1 : Int) (2 : Int)) (.ask ((0 : Int) ≤ (1 : Int) ∧ (1 : Int) < ↑(2 : Nat)) (.ask (((0 : Nat) + (F (U.toNat (Int.ofNat 0))).fst.1 + (F (U.toNat
      (Int.ofNat 1))).fst.1) * nat_lit 8 ≤ nat_lit 140737488351232) (.br (U.lt (2 : Int) (2 : Int)) (.ask ((0 : Int) ≤ (2 : Int) ∧ (2 : Int) < ↑(2 : Nat)) (.ask (((0 : Nat) + (F (U.toNat
      (Int.ofNat 0))).fst.1 + (F (U.toNat (Int.ofNat 1))).fst.1 + (F (U.toNat (Int.ofNat 2))).fst.1) * nat_lit 8 ≤ nat_lit 140737488351232) (.stuck (nat_lit 105)))) (.ret (.row [.int
      .i64] (nat_lit 0 + (F (U.toNat (Int.ofNat 0))).fst.1 + (F (U.toNat (Int.ofNat 1))).fst.1) (U.cat (nat_lit 0 + (F (U.toNat (Int.ofNat 0))).fst.1) (U.cat (nat_lit 0) (fun x => ((0 :
      Int), PUnit.unit)) (F (U.toNat (Int.ofNat 0))).fst.2) (F (U.toNat (Int.ofNat 1))).fst.2)))))) (.ret (.row [.int .i64] (nat_lit 0 + (F (U.toNat (Int.ofNat 0))).fst.1) (U.cat (nat_lit
      0) (fun x => ((0 : Int), PUnit.unit)) (F (U.toNat (Int.ofNat 0))).fst.2)))))) (.ret (.row [.int .i64] (nat_lit 0) fun x => ((0 : Int), PUnit.unit))))) (.br (U.lt (0 : Int) (2 :
      Int)) (.ask ((0 : Int) ≤ (0 : Int) ∧ (0 : Int) < ↑(2 : Nat)) (.ask ((F (U.toNat (Int.ofNat 0))).fst.1 * nat_lit 8 ≤ nat_lit 140737488351232) (.br (U.lt (1 : Int) (2 : Int)) (.ask
      ((0 : Int) ≤ (1 : Int) ∧ (1 : Int) < ↑(2 : Nat)) (.ask (((F (U.toNat (Int.ofNat 0))).fst.1 + (F (U.toNat (Int.ofNat 1))).fst.1) * nat_lit 8 ≤ nat_lit 140737488351232) (.br (U.lt (2
      : Int) (2 : Int)) (.ask ((0 : Int) ≤ (2 : Int) ∧ (2 : Int) < ↑(2 : Nat)) (.ask (((F (U.toNat (Int.ofNat 0))).fst.1 + (F (U.toNat (Int.ofNat 1))).fst.1 + (F (U.toNat (Int.ofNat
      2))).fst.1) * nat_lit 8 ≤ nat_lit 140737488351232) (.stuck (nat_lit 105)))) (.ret (.row [.int .i64] ((F (U.toNat (Int.ofNat 0))).fst.1 + (F (U.toNat (Int.ofNat 1))).fst.1) (U.cat (F
      (U.toNat (Int.ofNat 0))).fst.1 (F (U.toNat (Int.ofNat 0))).fst.2 (F (U.toNat (Int.ofNat 1))).fst.2)))))) (.ret (.row [.int .i64] (F (U.toNat (Int.ofNat 0))).fst.1 (F (U.toNat
      (Int.ofNat 0))).fst.2))))) (.ret (.lit (.slice none (nat_lit 0) (nat_lit 0)))))))))) (.br (U.lt (0 : Int) (2 : Int)) (.ask ((0 : Int) ≤ (0 : Int) ∧ (0 : Int) < ↑(2 : Nat)) (.ask ((F
      (U.toNat (Int.ofNat 0))).fst.1 * nat_lit 8 ≤ nat_lit 140737488351232) (.br (U.lt (1 : Int) (2 : Int)) (.ask ((0 : Int) ≤ (1 : Int) ∧ (1 : Int) < ↑(2 : Nat)) (.ask (((F (U.toNat
      (Int.ofNat 0))).fst.1 + (F (U.toNat (Int.ofNat 1))).fst.1) * nat_lit 8 ≤ nat_lit 140737488351232) (.br (U.lt (2 : Int) (2 : Int)) (.ask ((0 : Int) ≤ (2 : Int) ∧ (2 : Int) < ↑(2 :
      Nat)) (.ask (((F (U.toNat (Int.ofNat 0))).fst.1 + (F (U.toNat (Int.ofNat 1))).fst.1 + (F (U.toNat (Int.ofNat 2))).fst.1) * nat_lit 8 ≤ nat_lit 140737488351232) (.stuck (nat_lit
      105)))) (.ret (.row [.int .i64] ((F (U.toNat (Int.ofNat 0))).fst.1 + (F (U.toNat (Int.ofNat 1))).fst.1) (U.cat (F (U.toNat (Int.ofNat 0))).fst.1 (F (U.toNat (Int.ofNat 0))).fst.2 (F
      (U.toNat (Int.ofNat 1))).fst.2)))))) (.ret (.row [.int .i64] (F (U.toNat (Int.ofNat 0))).fst.1 (F (U.toNat (Int.ofNat 0))).fst.2))))) (.ret (.lit (.slice none (nat_lit 0) (nat_lit
      0))))) := by kernel_rfl
end Go.RX.Span

/- Sparse domains: Contains, Concat. -/
set_option linter.unusedVariables false
set_option linter.unusedSimpArgs false
set_option maxRecDepth 100000
namespace Go.RX.Span
open Go Go.RX
attribute [local irreducible] sx conB

theorem fsE_eq {m : Nat} {e : Nat → R1} {p : Int} {i : Nat} (h1 : i < m) (h2 : nv e i = p) (h3 : ∀ j, j < i → nv e j ≠ p) : fsE m e p = i := by
  have h : ∃ i, i < m ∧ nv e i = p ∧ ∀ j, j < i → nv e j ≠ p := ⟨i, h1, h2, h3⟩
  unfold fsE
  rw [dif_pos h]
  obtain ⟨g1, g2, g3⟩ := h.choose_spec
  rcases Nat.lt_trichotomy h.choose i with g | g | g
  · exact absurd g2 (h3 _ g)
  · exact g
  · exact absurd h2 (g3 _ g)
structure XIe where
  (m : Nat) (e : Nat → R1) (p : Int) (i : Nat)
noncomputable abbrev VIe (q : XIe) : Few := (slIe q.m q.e q.p q.i, [])
noncomputable def O1Ie (q : XIe) : Ex × Few := (.ret, ([.any, .any, .lit (.int .i64 ((fsE q.m q.e q.p : Nat) : Int)), .any, .any], []))
noncomputable def O2Ie : Ex × Few := (.exit 0, ([.any, .any, .any, .any, .any], []))
def PhiIe (n0 : Nat) (q : XIe) : Prop := (n0 = 0 ∧ q.m ≤ 100000) ∧ q.i ≤ q.m ∧ ∀ j, j < q.i → nv q.e j ≠ q.p
def ZIe (q : XIe) (o : Ex × Few) : Prop := (bsB q.m q.e q.p = true → o = O1Ie q) ∧ (bsB q.m q.e q.p = false → o = O2Ie)
theorem roundIe (n0 : Nat) (q : XIe) (hq : PhiIe n0 q) : ((sx E0 [] n0 (loopOf P 86 2) (mkS 19 [0,1,4,7,8] (VIe q).1, (VIe q).2)).bind (proj 19 [0,1,4,7,8])).All fun r => match r.1 with
      | .normal => ∃ q', PhiIe n0 q' ∧ q'.m - q'.i < q.m - q.i ∧ Wk 19 [0,1,4,7,8] n0 r.2 (VIe q') ∧ ∀ o, ZIe q' o → ZIe q o
      | e => ∃ s, ZIe q (e, s) ∧ Wk 19 [0,1,4,7,8] n0 r.2 s := by
  obtain ⟨m, e, p, i⟩ := q
  obtain ⟨⟨h0, hm⟩, hi, hall⟩ := hq
  have hm : m ≤ 100000 := hm
  have hi : i ≤ m := hi
  have hall : ∀ j, j < i → nv e j ≠ p := hall
  have h0 : n0 = 0 := h0
  subst h0
  refine T.all_of_eq (t_Ie m e p (i : Int)) ?_
  by_cases hlt : i < m
  · rw [add1p (j := i) (by omega), tnH]
    refine ⟨fun _ => ⟨⟨by omega, by omega⟩, fun g => ?_, fun g => ?_⟩, fun g => absurd (U.lt_f.mp g) (by simp only [Int.ofNat_eq_natCast]; omega)⟩
    · have g : nv e i = p := (U.eq_t.mp g).symm
      have ha : bsB m e p = true := bsB_t.2 ⟨i, hlt, g⟩
      refine ⟨(O1Ie ⟨m, e, p, i⟩).2, ⟨fun _ => rfl, fun h => by have h : bsB m e p = false := h; rw [ha] at h; cases h⟩, wIx ⟨rl_any _, rl_any _, ?_, rl_any _, rl_any _, trivial⟩⟩
      show Value.int .i64 (i : Int) = Value.int .i64 ((fsE m e p : Nat) : Int)
      rw [fsE_eq hlt g hall]
    · have g : nv e i ≠ p := fun x => U.eq_f.mp g x.symm
      refine ⟨⟨m, e, p, i + 1⟩, ⟨⟨rfl, hm⟩, hlt, fun j hj => ?_⟩, (show m - (i + 1) < m - i by omega), wIx ⟨⟨rfl, row1H fun _ _ => rfl⟩, rfl, rl_any _, rfl, rfl, trivial⟩, fun o ho => ho⟩
      have hj : j < i + 1 := hj
      by_cases ej : j = i
      · subst ej; exact g
      · exact hall j (by omega)
  · obtain rfl : i = m := by omega
    have ha : bsB i e p = false := bsB_f.2 fun ⟨j, h1, h2⟩ => hall j h1 h2
    exact ⟨fun g => absurd (U.lt_t.mp g) (by simp only [Int.ofNat_eq_natCast]; omega), fun _ => ⟨O2Ie.2, ⟨(fun h => by have h : bsB i e p = true := h; rw [ha] at h; cases h), fun _ => rfl⟩, wIx ⟨rl_any _, rl_any _, rl_any _, rl_any _, rl_any _, trivial⟩⟩⟩
theorem loopIe : LoopOK P (loopOf P 86 2) (few 19 [0,1,4,7,8] gIe) :=
  loop_few (E := E0) mixed E0_ok loopsOK_none 19 [0,1,4,7,8] (X := XIe) gIe (fun _ x => VIe x) PhiIe (fun q => q.m - q.i) (fun _ x o => ZIe x o)
    (fun n0 st r hh => by
      unfold gIe at hh
      split at hh
      · rename_i n0 m e p s2 N z
        obtain ⟨h0, hm, rfl, rfl⟩ := (T.is_ask hh).1
        have hb := (T.is_ask hh).2
        subst h0
        refine ⟨⟨m, e, p, 0⟩, ⟨⟨rfl, hm⟩, Nat.zero_le _, fun j hj => absurd hj (Nat.not_lt_zero j)⟩, wIx ⟨⟨rfl, row1H fun _ _ => rfl⟩, rfl, rl_any _, rfl, rfl, trivial⟩, fun o ho => ?_⟩
        rcases hb with ⟨he, hb⟩ | ⟨he, hb⟩
        · rw [lk_eq] at he
          obtain rfl := T.is_ret hb
          rw [ho.1 he]; simp only [lk_eq]; rfl
        · rw [lk_eq] at he
          obtain rfl := T.is_ret hb
          exact ho.2 he
      · exact hh.elim)
    roundIe
theorem lIe_ok : ∀ p ∈ lIe, LoopsOK P p.2 (bodyOf P p.1) := by
  intro p hp
  simp only [lIe, List.mem_singleton] at hp
  subst hp
  refine loopsOK_of (by kernel_rfl) fun k g hk => ?_
  simp only [List.mem_singleton, Prod.mk.injEq, LoopC.sum.injEq] at hk
  obtain ⟨rfl, rfl⟩ := hk
  exact loopIe
theorem Contains_ok : ConOK P 36 c_Contains := con_of (allOKL mixed none_ok lIe_ok) 10 36 fun args r hh => by
  unfold c_Contains at hh
  split at hh
  · rename_i m e p
    have hp := (T.is_ask hh).1
    obtain rfl := T.is_ret (T.is_ask hh).2
    refine T.all_of_eq (t_Contains m e p) ?_
    simp only [lk_eq]
    exact ⟨⟨trivial, hp, trivial, trivial⟩, fun g => lb_eq ((U.ge_t.mpr (Int.natCast_nonneg _)).trans g.symm), fun g => lb_eq g.symm⟩
  · exact hh.elim
theorem lCc_ok : ∀ p ∈ lCc, LoopsOK P p.2 (bodyOf P p.1) := by
  intro p hp
  simp only [lCc, List.mem_singleton] at hp
  subst hp
  exact loopsOK_un fun q hq => by
    simp only [List.mem_cons, List.not_mem_nil, or_false] at hq
    rcases hq with rfl | rfl <;> exact ⟨3, rfl⟩
theorem cat_z {ss : List Sh} (z f : Nat → Els ss) : U.cat 0 z f = f := by
  funext i; rw [U.cat_eq]; simp
theorem Concat2_ok : ConOK P 35 c_Concat2 := con_cl (allOKL mixed none_ok lCc_ok) 10 35 fun args r hh => by
  unfold c_Concat2 at hh
  split at hh
  · rename_i F
    obtain ⟨hp0, hp1⟩ := (T.is_ask hh).1
    obtain rfl := T.is_ret (T.is_ask hh).2
    refine T.all_of_eq (t_Concat F) ?_
    have t0 : U.toNat (Int.ofNat 0) = 0 := by rw [U.toNat_eq]; rfl
    have t1 : U.toNat (Int.ofNat 1) = 1 := by rw [U.toNat_eq]; rfl
    have l02 : U.lt 0 2 = true := by rw [U.lt_eq]; decide
    have l12 : U.lt 1 2 = true := by rw [U.lt_eq]; decide
    have l22 : U.lt 2 2 = false := by rw [U.lt_eq]; decide
    simp only [t0, t1, l02, l12, l22, lk_eq]
    unfold ccN ccF
    generalize F 0 = d0 at hp0 ⊢
    generalize F 1 = d1 at hp1 ⊢
    obtain ⟨⟨n0, f0⟩, u0⟩ := d0
    obtain ⟨⟨n1, f1⟩, u1⟩ := d1
    simp only [] at hp0 hp1 ⊢
    have a1 : U.add .i64 0 (Int.ofNat n0) = (n0 : Int) := by rw [U.add64 (by simp only [Int.ofNat_eq_natCast]; unfold I64; omega)]; simp
    have a2 : U.add .i64 (n0 : Int) (Int.ofNat n1) = ((n0 + n1 : Nat) : Int) := by rw [U.add64 (by simp only [Int.ofNat_eq_natCast]; unfold I64; omega)]; simp
    have a3 : U.sub .i64 ((n0 + n1 : Nat) : Int) 0 = ((n0 + n1 : Nat) : Int) := by rw [U.sub64 (by unfold I64; omega)]; omega
    have b1 : U.lt (n0 : Int) 0 = false := by rw [U.lt_eq]; simp
    have b2 : U.lt ((n0 + n1 : Nat) : Int) 0 = false := by rw [U.lt_eq]; exact decide_eq_false (by omega)
    simp only [a1, a2, a3, b1, b2, Nat.zero_add, cat_z]
    refine ⟨fun _ => ⟨⟨by decide, by decide⟩, fun g => absurd g (by decide), fun _ => ⟨fun _ => ⟨⟨by decide, by decide⟩, fun g => absurd g (by decide), fun _ => ⟨fun g => absurd g (by decide), fun _ => ⟨fun g => absurd g (by decide), fun _ => ⟨fun g => ⟨⟨by have := U.gt_t.mp g; omega, by omega⟩, fun _ => ⟨⟨by decide, by decide⟩, by omega, fun _ => ⟨⟨by decide, by decide⟩, by omega, fun g => absurd g (by decide), fun _ => ⟨rfl, row1H fun i _ => congrFun (congrArg (fun g => U.cat n0 g f1) (cat_z (ss := [.int .i64]) _ f0)) i⟩⟩, fun g => absurd g (by decide)⟩, fun g => absurd g (by decide)⟩, fun g => ⟨fun _ => ⟨⟨by decide, by decide⟩, by omega, fun _ => ⟨⟨by decide, by decide⟩, by omega, fun g => absurd g (by decide), fun _ => ⟨rfl, sameRow_refl _ _⟩⟩, fun g => absurd g (by decide)⟩, fun g => absurd g (by decide)⟩⟩⟩⟩⟩, fun g => absurd g (by decide)⟩⟩, fun g => absurd g (by decide)⟩
  · exact hh.elim
theorem kSe_ok : ∀ p ∈ kSe, ConOK P p.1 p.2 := by
  intro p hp
  simp only [kSe, List.mem_cons, List.not_mem_nil, or_false] at hp
  rcases hp with rfl | rfl | rfl | rfl | rfl | rfl | rfl | rfl | rfl | rfl | rfl | rfl | rfl | rfl
  · exact own_ok
  · exact few_ok
  · exact awake_ok
  · exact SpCheck_ok
  · exact Indices_ok
  · exact Pos_ok
  · exact DPosition_ok
  · exact Of_ok
  · exact same_ok
  · exact Union_ok
  · exact Both_ok
  · exact Minus_ok
  · exact Concat2_ok
  · exact Contains_ok
noncomputable abbrev ESe : Env := ⟨P, conOf kSe, scall P (conOf kSe) noLoops 10⟩
theorem ESe_ok : EnvOK ESe := envOK (allOK mixed kSe_ok) 10
end Go.RX.Span

/- Sparse domains: the law of sets: the walks. -/
set_option linter.unusedVariables false
set_option linter.unusedSimpArgs false
set_option maxRecDepth 100000
namespace Go.RX.Span
open Go Go.RX
attribute [local irreducible] sx conB

--%R < ↑(\w+)\b => < ((\1 : Nat) : Int)
--%R ↑(\w+) (=|≤) => ((\1 : Nat) : Int) \2
set_option maxRecDepth 100000 in
theorem t_S1 (n : Nat) (f : Nat → R3) (k s h : Int) (m : Nat) (e : Nat → R1) (n1 : Nat) (f1 : Nat → R3) (k1 s1 h1 : Int) (m1 : Nat) (e1 : Nat → R1) (M : Nat) (F : Nat → RL) (i : Int) : (sx ESe [] 0 (loopOf P 5 8) (mkS 246 [2,3,5,6,7,9,10,11,12,13,14,65,66,67] (slS1 M F i), memS1 n f k s h m e n1 f1 k1 s1 h1 m1 e1)).bind (proj 246 [2,3,5,6,7,9,10,11,12,13,14,65,66,67]) =
    T.br (U.lt i (Int.ofNat M)) (.ask ((0 : Int) ≤ i ∧ i < ((M : Nat) : Int)) (.ask (Row64 n f) (.ask (Row64 n f) (.br (U.not (lk spH n f k s h m e (F (U.toNat i)).fst.1 (F (U.toNat
      i)).fst.2)) (.ret (Ex.ret, [SV.ptr (nat_lit 0) (nat_lit 0), SV.ptr (nat_lit 1) (nat_lit 0), SV.ptr (nat_lit 2) (nat_lit 0), SV.ptr (nat_lit 3) (nat_lit 0), .row [.sl [.int .i64]] M
      F, .lit (.int .i64 i), .row [.int .i64] (F (U.toNat i)).fst.1 (F (U.toNat i)).fst.2, .lit (.int .i64 (lk spP n f k s h m e (F (U.toNat i)).fst.1 (F (U.toNat i)).fst.2)), .lit (.bool
      (lk spH n f k s h m e (F (U.toNat i)).fst.1 (F (U.toNat i)).fst.2)), .lit (.int .i64 (lk posD n f k s h (F (U.toNat i)).fst.1 (F (U.toNat i)).fst.2)), .lit (.bool (lk hasD n f k s h
      (F (U.toNat i)).fst.1 (F (U.toNat i)).fst.2)), .row [.sl [.int .i64]] M F, .lit (.int .i64 (Int.ofNat M)), .lit (.int .i64 i)], [(nat_lit 0, some (Blk.cells [.row [.int .i64, .int
      .i64, .int .i64] n f, .lit (.int .i64 k), .lit (.int .i64 s), .lit (.int .i64 h), .row [.int .i64] m e] (nat_lit 29))), (nat_lit 0, some (Blk.cells [.row [.int .i64, .int .i64, .int
      .i64] n1 f1, .lit (.int .i64 k1), .lit (.int .i64 s1), .lit (.int .i64 h1), .row [.int .i64] m1 e1] (nat_lit 29))), (nat_lit 0, some (Blk.cells [.row [.int .i64, .int .i64, .int
      .i64] n f, .lit (.int .i64 k), .lit (.int .i64 s), .lit (.int .i64 h), .row [.int .i64] m e] (nat_lit 38))), (nat_lit 0, some (Blk.cells [.row [.int .i64, .int .i64, .int .i64] n1
      f1, .lit (.int .i64 k1), .lit (.int .i64 s1), .lit (.int .i64 h1), .row [.int .i64] m1 e1] (nat_lit 38)))])) (.br (U.ne (lk spP n f k s h m e (F (U.toNat i)).fst.1 (F (U.toNat
      i)).fst.2) i) (.ret (Ex.ret, [SV.ptr (nat_lit 0) (nat_lit 0), SV.ptr (nat_lit 1) (nat_lit 0), SV.ptr (nat_lit 2) (nat_lit 0), SV.ptr (nat_lit 3) (nat_lit 0), .row [.sl [.int .i64]]
      M F, .lit (.int .i64 i), .row [.int .i64] (F (U.toNat i)).fst.1 (F (U.toNat i)).fst.2, .lit (.int .i64 (lk spP n f k s h m e (F (U.toNat i)).fst.1 (F (U.toNat i)).fst.2)), .lit
      (.bool (lk spH n f k s h m e (F (U.toNat i)).fst.1 (F (U.toNat i)).fst.2)), .lit (.int .i64 (lk posD n f k s h (F (U.toNat i)).fst.1 (F (U.toNat i)).fst.2)), .lit (.bool (lk hasD n
      f k s h (F (U.toNat i)).fst.1 (F (U.toNat i)).fst.2)), .row [.sl [.int .i64]] M F, .lit (.int .i64 (Int.ofNat M)), .lit (.int .i64 i)], [(nat_lit 0, some (Blk.cells [.row [.int
      .i64, .int .i64, .int .i64] n f, .lit (.int .i64 k), .lit (.int .i64 s), .lit (.int .i64 h), .row [.int .i64] m e] (nat_lit 29))), (nat_lit 0, some (Blk.cells [.row [.int .i64, .int
      .i64, .int .i64] n1 f1, .lit (.int .i64 k1), .lit (.int .i64 s1), .lit (.int .i64 h1), .row [.int .i64] m1 e1] (nat_lit 29))), (nat_lit 0, some (Blk.cells [.row [.int .i64, .int
      .i64, .int .i64] n f, .lit (.int .i64 k), .lit (.int .i64 s), .lit (.int .i64 h), .row [.int .i64] m e] (nat_lit 38))), (nat_lit 0, some (Blk.cells [.row [.int .i64, .int .i64, .int
      .i64] n1 f1, .lit (.int .i64 k1), .lit (.int .i64 s1), .lit (.int .i64 h1), .row [.int .i64] m1 e1] (nat_lit 38)))])) (.br (U.not (lk hasD n f k s h (F (U.toNat i)).fst.1 (F
      (U.toNat i)).fst.2)) (.ret (Ex.ret, [SV.ptr (nat_lit 0) (nat_lit 0), SV.ptr (nat_lit 1) (nat_lit 0), SV.ptr (nat_lit 2) (nat_lit 0), SV.ptr (nat_lit 3) (nat_lit 0), .row [.sl [.int
      .i64]] M F, .lit (.int .i64 i), .row [.int .i64] (F (U.toNat i)).fst.1 (F (U.toNat i)).fst.2, .lit (.int .i64 (lk spP n f k s h m e (F (U.toNat i)).fst.1 (F (U.toNat i)).fst.2)),
      .lit (.bool (lk spH n f k s h m e (F (U.toNat i)).fst.1 (F (U.toNat i)).fst.2)), .lit (.int .i64 (lk posD n f k s h (F (U.toNat i)).fst.1 (F (U.toNat i)).fst.2)), .lit (.bool (lk
      hasD n f k s h (F (U.toNat i)).fst.1 (F (U.toNat i)).fst.2)), .row [.sl [.int .i64]] M F, .lit (.int .i64 (Int.ofNat M)), .lit (.int .i64 i)], [(nat_lit 0, some (Blk.cells [.row
      [.int .i64, .int .i64, .int .i64] n f, .lit (.int .i64 k), .lit (.int .i64 s), .lit (.int .i64 h), .row [.int .i64] m e] (nat_lit 29))), (nat_lit 0, some (Blk.cells [.row [.int
      .i64, .int .i64, .int .i64] n1 f1, .lit (.int .i64 k1), .lit (.int .i64 s1), .lit (.int .i64 h1), .row [.int .i64] m1 e1] (nat_lit 29))), (nat_lit 0, some (Blk.cells [.row [.int
      .i64, .int .i64, .int .i64] n f, .lit (.int .i64 k), .lit (.int .i64 s), .lit (.int .i64 h), .row [.int .i64] m e] (nat_lit 38))), (nat_lit 0, some (Blk.cells [.row [.int .i64, .int
      .i64, .int .i64] n1 f1, .lit (.int .i64 k1), .lit (.int .i64 s1), .lit (.int .i64 h1), .row [.int .i64] m1 e1] (nat_lit 38)))])) (.ask ((0 : Int) ≤ i ∧ i < ((m : Nat) : Int)) (.br
      (U.ne (lk posD n f k s h (F (U.toNat i)).fst.1 (F (U.toNat i)).fst.2) (e (U.toNat i)).1) (.ret (Ex.ret, [SV.ptr (nat_lit 0) (nat_lit 0), SV.ptr (nat_lit 1) (nat_lit 0), SV.ptr
      (nat_lit 2) (nat_lit 0), SV.ptr (nat_lit 3) (nat_lit 0), .row [.sl [.int .i64]] M F, .lit (.int .i64 i), .row [.int .i64] (F (U.toNat i)).fst.1 (F (U.toNat i)).fst.2, .lit (.int
      .i64 (lk spP n f k s h m e (F (U.toNat i)).fst.1 (F (U.toNat i)).fst.2)), .lit (.bool (lk spH n f k s h m e (F (U.toNat i)).fst.1 (F (U.toNat i)).fst.2)), .lit (.int .i64 (lk posD n
      f k s h (F (U.toNat i)).fst.1 (F (U.toNat i)).fst.2)), .lit (.bool (lk hasD n f k s h (F (U.toNat i)).fst.1 (F (U.toNat i)).fst.2)), .row [.sl [.int .i64]] M F, .lit (.int .i64
      (Int.ofNat M)), .lit (.int .i64 i)], [(nat_lit 0, some (Blk.cells [.row [.int .i64, .int .i64, .int .i64] n f, .lit (.int .i64 k), .lit (.int .i64 s), .lit (.int .i64 h), .row [.int
      .i64] m e] (nat_lit 29))), (nat_lit 0, some (Blk.cells [.row [.int .i64, .int .i64, .int .i64] n1 f1, .lit (.int .i64 k1), .lit (.int .i64 s1), .lit (.int .i64 h1), .row [.int .i64]
      m1 e1] (nat_lit 29))), (nat_lit 0, some (Blk.cells [.row [.int .i64, .int .i64, .int .i64] n f, .lit (.int .i64 k), .lit (.int .i64 s), .lit (.int .i64 h), .row [.int .i64] m e]
      (nat_lit 38))), (nat_lit 0, some (Blk.cells [.row [.int .i64, .int .i64, .int .i64] n1 f1, .lit (.int .i64 k1), .lit (.int .i64 s1), .lit (.int .i64 h1), .row [.int .i64] m1 e1]
      (nat_lit 38)))])) (.ret (Ex.normal, [SV.ptr (nat_lit 0) (nat_lit 0), SV.ptr (nat_lit 1) (nat_lit 0), SV.ptr (nat_lit 2) (nat_lit 0), SV.ptr (nat_lit 3) (nat_lit 0), .row [.sl [.int
      .i64]] M F, .lit (.int .i64 i), .row [.int .i64] (F (U.toNat i)).fst.1 (F (U.toNat i)).fst.2, .lit (.int .i64 (lk spP n f k s h m e (F (U.toNat i)).fst.1 (F (U.toNat i)).fst.2)),
      .lit (.bool (lk spH n f k s h m e (F (U.toNat i)).fst.1 (F (U.toNat i)).fst.2)), .lit (.int .i64 (lk posD n f k s h (F (U.toNat i)).fst.1 (F (U.toNat i)).fst.2)), .lit (.bool (lk
      hasD n f k s h (F (U.toNat i)).fst.1 (F (U.toNat i)).fst.2)), .row [.sl [.int .i64]] M F, .lit (.int .i64 (Int.ofNat M)), .lit (.int .i64 (U.add .i64 i (1 : Int)))], [(nat_lit 0,
      some (Blk.cells [.row [.int .i64, .int .i64, .int .i64] n f, .lit (.int .i64 k), .lit (.int .i64 s), .lit (.int .i64 h), .row [.int .i64] m e] (nat_lit 29))), (nat_lit 0, some
      (Blk.cells [.row [.int .i64, .int .i64, .int .i64] n1 f1, .lit (.int .i64 k1), .lit (.int .i64 s1), .lit (.int .i64 h1), .row [.int .i64] m1 e1] (nat_lit 29))), (nat_lit 0, some
      (Blk.cells [.row [.int .i64, .int .i64, .int .i64] n f, .lit (.int .i64 k), .lit (.int .i64 s), .lit (.int .i64 h), .row [.int .i64] m e] (nat_lit 38))), (nat_lit 0, some (Blk.cells
      [.row [.int .i64, .int .i64, .int .i64] n1 f1, .lit (.int .i64 k1), .lit (.int .i64 s1), .lit (.int .i64 h1), .row [.int .i64] m1 e1] (nat_lit 38)))])))))))))) (.ret (Ex.exit
      (nat_lit 0), [SV.ptr (nat_lit 0) (nat_lit 0), SV.ptr (nat_lit 1) (nat_lit 0), SV.ptr (nat_lit 2) (nat_lit 0), SV.ptr (nat_lit 3) (nat_lit 0), .row [.sl [.int .i64]] M F, SV.any,
      SV.any, SV.any, SV.any, SV.any, SV.any, .row [.sl [.int .i64]] M F, .lit (.int .i64 (Int.ofNat M)), .lit (.int .i64 i)], [(nat_lit 0, some (Blk.cells [.row [.int .i64, .int .i64,
      .int .i64] n f, .lit (.int .i64 k), .lit (.int .i64 s), .lit (.int .i64 h), .row [.int .i64] m e] (nat_lit 29))), (nat_lit 0, some (Blk.cells [.row [.int .i64, .int .i64, .int .i64]
      n1 f1, .lit (.int .i64 k1), .lit (.int .i64 s1), .lit (.int .i64 h1), .row [.int .i64] m1 e1] (nat_lit 29))), (nat_lit 0, some (Blk.cells [.row [.int .i64, .int .i64, .int .i64] n
      f, .lit (.int .i64 k), .lit (.int .i64 s), .lit (.int .i64 h), .row [.int .i64] m e] (nat_lit 38))), (nat_lit 0, some (Blk.cells [.row [.int .i64, .int .i64, .int .i64] n1 f1, .lit
      (.int .i64 k1), .lit (.int .i64 s1), .lit (.int .i64 h1), .row [.int .i64] m1 e1] (nat_lit 38)))])) := by kernel_rfl
set_option maxRecDepth 100000 in
theorem t_S2 (n : Nat) (f : Nat → R3) (k s h : Int) (m : Nat) (e : Nat → R1) (n1 : Nat) (f1 : Nat → R3) (k1 s1 h1 : Int) (m1 : Nat) (e1 : Nat → R1) (c0 c1 c2 : C7) (N0 : Nat) (G0 : Nat → R1) (N1 : Nat) (G1 : Nat → R1) (N2 : Nat) (G2 : Nat → R1) (C : Nat) (H : Nat → R1) (i : Int) : (sx ESe [] 0 (loopOf P 5 28) (mkS 246 [2,3,4,16,17,19,22,23,24,202,203,204] (slS2 C H i), memS2 n f k s h m e n1 f1 k1 s1 h1 m1 e1 c0 c1 c2 N0 G0 N1 G1 N2 G2)).bind (proj 246 [2,3,4,16,17,19,22,23,24,202,203,204]) =
    T.br (U.lt i (Int.ofNat C)) (.ask ((0 : Int) ≤ i ∧ i < ((C : Nat) : Int)) (.ask (m ≤ (100000 : Nat)) (.ask (m1 ≤ (100000 : Nat)) (.ask (N0 ≤ (100000 : Nat)) (.br (U.not (lk bsB N0
      G0 (H (U.toNat i)).1)) (.ret (Ex.ret, [SV.ptr (nat_lit 0) (nat_lit 0), SV.ptr (nat_lit 1) (nat_lit 0), SV.kb false, SV.ptr (nat_lit 5) (nat_lit 0), SV.ptr (nat_lit 6) (nat_lit 0),
      SV.ptr (nat_lit 7) (nat_lit 0), .lit (.int .i64 (H (U.toNat i)).1), .lit (.bool (lk bsB m e (H (U.toNat i)).1)), .lit (.bool (lk bsB m1 e1 (H (U.toNat i)).1)), .row [.int .i64] C H,
      .lit (.int .i64 (Int.ofNat C)), .lit (.int .i64 i)], [(nat_lit 0, some (Blk.cells [.row [.int .i64, .int .i64, .int .i64] n f, .lit (.int .i64 k), .lit (.int .i64 s), .lit (.int
      .i64 h), .row [.int .i64] m e] (nat_lit 29))), (nat_lit 0, some (Blk.cells [.row [.int .i64, .int .i64, .int .i64] n1 f1, .lit (.int .i64 k1), .lit (.int .i64 s1), .lit (.int .i64
      h1), .row [.int .i64] m1 e1] (nat_lit 29))), (nat_lit 0, none), (nat_lit 0, none), (nat_lit 0, none), (nat_lit 0, some (Blk.cells [.row [.int .i64, .int .i64, .int .i64] c0.1 c0.2,
      .lit (.int .i64 c0.3), .lit (.int .i64 c0.4), .lit (.int .i64 c0.5), .row [.int .i64] N0 G0] (nat_lit 38))), (nat_lit 0, some (Blk.cells [.row [.int .i64, .int .i64, .int .i64] c1.1
      c1.2, .lit (.int .i64 c1.3), .lit (.int .i64 c1.4), .lit (.int .i64 c1.5), .row [.int .i64] N1 G1] (nat_lit 38))), (nat_lit 0, some (Blk.cells [.row [.int .i64, .int .i64, .int
      .i64] c2.1 c2.2, .lit (.int .i64 c2.3), .lit (.int .i64 c2.4), .lit (.int .i64 c2.5), .row [.int .i64] N2 G2] (nat_lit 38)))])) (.ask (N1 ≤ (100000 : Nat)) (.br (lk bsB m e (H
      (U.toNat i)).1) (.br (U.not (U.beq (lk bsB N1 G1 (H (U.toNat i)).1) (lk bsB m1 e1 (H (U.toNat i)).1))) (.ret (Ex.ret, [SV.ptr (nat_lit 0) (nat_lit 0), SV.ptr (nat_lit 1) (nat_lit
      0), SV.kb false, SV.ptr (nat_lit 5) (nat_lit 0), SV.ptr (nat_lit 6) (nat_lit 0), SV.ptr (nat_lit 7) (nat_lit 0), .lit (.int .i64 (H (U.toNat i)).1), .lit (.bool (lk bsB m e (H
      (U.toNat i)).1)), .lit (.bool (lk bsB m1 e1 (H (U.toNat i)).1)), .row [.int .i64] C H, .lit (.int .i64 (Int.ofNat C)), .lit (.int .i64 i)], [(nat_lit 0, some (Blk.cells [.row [.int
      .i64, .int .i64, .int .i64] n f, .lit (.int .i64 k), .lit (.int .i64 s), .lit (.int .i64 h), .row [.int .i64] m e] (nat_lit 29))), (nat_lit 0, some (Blk.cells [.row [.int .i64, .int
      .i64, .int .i64] n1 f1, .lit (.int .i64 k1), .lit (.int .i64 s1), .lit (.int .i64 h1), .row [.int .i64] m1 e1] (nat_lit 29))), (nat_lit 0, none), (nat_lit 0, none), (nat_lit 0,
      none), (nat_lit 0, some (Blk.cells [.row [.int .i64, .int .i64, .int .i64] c0.1 c0.2, .lit (.int .i64 c0.3), .lit (.int .i64 c0.4), .lit (.int .i64 c0.5), .row [.int .i64] N0 G0]
      (nat_lit 38))), (nat_lit 0, some (Blk.cells [.row [.int .i64, .int .i64, .int .i64] c1.1 c1.2, .lit (.int .i64 c1.3), .lit (.int .i64 c1.4), .lit (.int .i64 c1.5), .row [.int .i64]
      N1 G1] (nat_lit 38))), (nat_lit 0, some (Blk.cells [.row [.int .i64, .int .i64, .int .i64] c2.1 c2.2, .lit (.int .i64 c2.3), .lit (.int .i64 c2.4), .lit (.int .i64 c2.5), .row [.int
      .i64] N2 G2] (nat_lit 38)))])) (.ask (N2 ≤ (100000 : Nat)) (.br (lk bsB m e (H (U.toNat i)).1) (.br (U.not (U.beq (lk bsB N2 G2 (H (U.toNat i)).1) (U.not (lk bsB m1 e1 (H (U.toNat
      i)).1)))) (.ret (Ex.ret, [SV.ptr (nat_lit 0) (nat_lit 0), SV.ptr (nat_lit 1) (nat_lit 0), SV.kb false, SV.ptr (nat_lit 5) (nat_lit 0), SV.ptr (nat_lit 6) (nat_lit 0), SV.ptr
      (nat_lit 7) (nat_lit 0), .lit (.int .i64 (H (U.toNat i)).1), .lit (.bool (lk bsB m e (H (U.toNat i)).1)), .lit (.bool (lk bsB m1 e1 (H (U.toNat i)).1)), .row [.int .i64] C H, .lit
      (.int .i64 (Int.ofNat C)), .lit (.int .i64 i)], [(nat_lit 0, some (Blk.cells [.row [.int .i64, .int .i64, .int .i64] n f, .lit (.int .i64 k), .lit (.int .i64 s), .lit (.int .i64 h),
      .row [.int .i64] m e] (nat_lit 29))), (nat_lit 0, some (Blk.cells [.row [.int .i64, .int .i64, .int .i64] n1 f1, .lit (.int .i64 k1), .lit (.int .i64 s1), .lit (.int .i64 h1), .row
      [.int .i64] m1 e1] (nat_lit 29))), (nat_lit 0, none), (nat_lit 0, none), (nat_lit 0, none), (nat_lit 0, some (Blk.cells [.row [.int .i64, .int .i64, .int .i64] c0.1 c0.2, .lit (.int
      .i64 c0.3), .lit (.int .i64 c0.4), .lit (.int .i64 c0.5), .row [.int .i64] N0 G0] (nat_lit 38))), (nat_lit 0, some (Blk.cells [.row [.int .i64, .int .i64, .int .i64] c1.1 c1.2, .lit
      (.int .i64 c1.3), .lit (.int .i64 c1.4), .lit (.int .i64 c1.5), .row [.int .i64] N1 G1] (nat_lit 38))), (nat_lit 0, some (Blk.cells [.row [.int .i64, .int .i64, .int .i64] c2.1
      c2.2, .lit (.int .i64 c2.3), .lit (.int .i64 c2.4), .lit (.int .i64 c2.5), .row [.int .i64] N2 G2] (nat_lit 38)))])) (.ret (Ex.normal, [SV.ptr (nat_lit 0) (nat_lit 0), SV.ptr
      (nat_lit 1) (nat_lit 0), SV.any, SV.ptr (nat_lit 5) (nat_lit 0), SV.ptr (nat_lit 6) (nat_lit 0), SV.ptr (nat_lit 7) (nat_lit 0), .lit (.int .i64 (H (U.toNat i)).1), .lit (.bool (lk
      bsB m e (H (U.toNat i)).1)), .lit (.bool (lk bsB m1 e1 (H (U.toNat i)).1)), .row [.int .i64] C H, .lit (.int .i64 (Int.ofNat C)), .lit (.int .i64 (U.add .i64 i (1 : Int)))],
      [(nat_lit 0, some (Blk.cells [.row [.int .i64, .int .i64, .int .i64] n f, .lit (.int .i64 k), .lit (.int .i64 s), .lit (.int .i64 h), .row [.int .i64] m e] (nat_lit 29))), (nat_lit
      0, some (Blk.cells [.row [.int .i64, .int .i64, .int .i64] n1 f1, .lit (.int .i64 k1), .lit (.int .i64 s1), .lit (.int .i64 h1), .row [.int .i64] m1 e1] (nat_lit 29))), (nat_lit 0,
      none), (nat_lit 0, none), (nat_lit 0, none), (nat_lit 0, some (Blk.cells [.row [.int .i64, .int .i64, .int .i64] c0.1 c0.2, .lit (.int .i64 c0.3), .lit (.int .i64 c0.4), .lit (.int
      .i64 c0.5), .row [.int .i64] N0 G0] (nat_lit 38))), (nat_lit 0, some (Blk.cells [.row [.int .i64, .int .i64, .int .i64] c1.1 c1.2, .lit (.int .i64 c1.3), .lit (.int .i64 c1.4), .lit
      (.int .i64 c1.5), .row [.int .i64] N1 G1] (nat_lit 38))), (nat_lit 0, some (Blk.cells [.row [.int .i64, .int .i64, .int .i64] c2.1 c2.2, .lit (.int .i64 c2.3), .lit (.int .i64
      c2.4), .lit (.int .i64 c2.5), .row [.int .i64] N2 G2] (nat_lit 38)))]))) (.br (U.not (U.beq (lk bsB N2 G2 (H (U.toNat i)).1) false)) (.ret (Ex.ret, [SV.ptr (nat_lit 0) (nat_lit 0),
      SV.ptr (nat_lit 1) (nat_lit 0), SV.kb false, SV.ptr (nat_lit 5) (nat_lit 0), SV.ptr (nat_lit 6) (nat_lit 0), SV.ptr (nat_lit 7) (nat_lit 0), .lit (.int .i64 (H (U.toNat i)).1), .lit
      (.bool (lk bsB m e (H (U.toNat i)).1)), .lit (.bool (lk bsB m1 e1 (H (U.toNat i)).1)), .row [.int .i64] C H, .lit (.int .i64 (Int.ofNat C)), .lit (.int .i64 i)], [(nat_lit 0, some
      (Blk.cells [.row [.int .i64, .int .i64, .int .i64] n f, .lit (.int .i64 k), .lit (.int .i64 s), .lit (.int .i64 h), .row [.int .i64] m e] (nat_lit 29))), (nat_lit 0, some (Blk.cells
      [.row [.int .i64, .int .i64, .int .i64] n1 f1, .lit (.int .i64 k1), .lit (.int .i64 s1), .lit (.int .i64 h1), .row [.int .i64] m1 e1] (nat_lit 29))), (nat_lit 0, none), (nat_lit 0,
      none), (nat_lit 0, none), (nat_lit 0, some (Blk.cells [.row [.int .i64, .int .i64, .int .i64] c0.1 c0.2, .lit (.int .i64 c0.3), .lit (.int .i64 c0.4), .lit (.int .i64 c0.5), .row
      [.int .i64] N0 G0] (nat_lit 38))), (nat_lit 0, some (Blk.cells [.row [.int .i64, .int .i64, .int .i64] c1.1 c1.2, .lit (.int .i64 c1.3), .lit (.int .i64 c1.4), .lit (.int .i64
      c1.5), .row [.int .i64] N1 G1] (nat_lit 38))), (nat_lit 0, some (Blk.cells [.row [.int .i64, .int .i64, .int .i64] c2.1 c2.2, .lit (.int .i64 c2.3), .lit (.int .i64 c2.4), .lit
      (.int .i64 c2.5), .row [.int .i64] N2 G2] (nat_lit 38)))])) (.ret (Ex.normal, [SV.ptr (nat_lit 0) (nat_lit 0), SV.ptr (nat_lit 1) (nat_lit 0), SV.any, SV.ptr (nat_lit 5) (nat_lit
      0), SV.ptr (nat_lit 6) (nat_lit 0), SV.ptr (nat_lit 7) (nat_lit 0), .lit (.int .i64 (H (U.toNat i)).1), .lit (.bool (lk bsB m e (H (U.toNat i)).1)), .lit (.bool (lk bsB m1 e1 (H
      (U.toNat i)).1)), .row [.int .i64] C H, .lit (.int .i64 (Int.ofNat C)), .lit (.int .i64 (U.add .i64 i (1 : Int)))], [(nat_lit 0, some (Blk.cells [.row [.int .i64, .int .i64, .int
      .i64] n f, .lit (.int .i64 k), .lit (.int .i64 s), .lit (.int .i64 h), .row [.int .i64] m e] (nat_lit 29))), (nat_lit 0, some (Blk.cells [.row [.int .i64, .int .i64, .int .i64] n1
      f1, .lit (.int .i64 k1), .lit (.int .i64 s1), .lit (.int .i64 h1), .row [.int .i64] m1 e1] (nat_lit 29))), (nat_lit 0, none), (nat_lit 0, none), (nat_lit 0, none), (nat_lit 0, some
      (Blk.cells [.row [.int .i64, .int .i64, .int .i64] c0.1 c0.2, .lit (.int .i64 c0.3), .lit (.int .i64 c0.4), .lit (.int .i64 c0.5), .row [.int .i64] N0 G0] (nat_lit 38))), (nat_lit
      0, some (Blk.cells [.row [.int .i64, .int .i64, .int .i64] c1.1 c1.2, .lit (.int .i64 c1.3), .lit (.int .i64 c1.4), .lit (.int .i64 c1.5), .row [.int .i64] N1 G1] (nat_lit 38))),
      (nat_lit 0, some (Blk.cells [.row [.int .i64, .int .i64, .int .i64] c2.1 c2.2, .lit (.int .i64 c2.3), .lit (.int .i64 c2.4), .lit (.int .i64 c2.5), .row [.int .i64] N2 G2] (nat_lit
      38)))])))))) (.br (U.not (U.beq (lk bsB N1 G1 (H (U.toNat i)).1) false)) (.ret (Ex.ret, [SV.ptr (nat_lit 0) (nat_lit 0), SV.ptr (nat_lit 1) (nat_lit 0), SV.kb false, SV.ptr (nat_lit
      5) (nat_lit 0), SV.ptr (nat_lit 6) (nat_lit 0), SV.ptr (nat_lit 7) (nat_lit 0), .lit (.int .i64 (H (U.toNat i)).1), .lit (.bool (lk bsB m e (H (U.toNat i)).1)), .lit (.bool (lk bsB
      m1 e1 (H (U.toNat i)).1)), .row [.int .i64] C H, .lit (.int .i64 (Int.ofNat C)), .lit (.int .i64 i)], [(nat_lit 0, some (Blk.cells [.row [.int .i64, .int .i64, .int .i64] n f, .lit
      (.int .i64 k), .lit (.int .i64 s), .lit (.int .i64 h), .row [.int .i64] m e] (nat_lit 29))), (nat_lit 0, some (Blk.cells [.row [.int .i64, .int .i64, .int .i64] n1 f1, .lit (.int
      .i64 k1), .lit (.int .i64 s1), .lit (.int .i64 h1), .row [.int .i64] m1 e1] (nat_lit 29))), (nat_lit 0, none), (nat_lit 0, none), (nat_lit 0, none), (nat_lit 0, some (Blk.cells
      [.row [.int .i64, .int .i64, .int .i64] c0.1 c0.2, .lit (.int .i64 c0.3), .lit (.int .i64 c0.4), .lit (.int .i64 c0.5), .row [.int .i64] N0 G0] (nat_lit 38))), (nat_lit 0, some
      (Blk.cells [.row [.int .i64, .int .i64, .int .i64] c1.1 c1.2, .lit (.int .i64 c1.3), .lit (.int .i64 c1.4), .lit (.int .i64 c1.5), .row [.int .i64] N1 G1] (nat_lit 38))), (nat_lit
      0, some (Blk.cells [.row [.int .i64, .int .i64, .int .i64] c2.1 c2.2, .lit (.int .i64 c2.3), .lit (.int .i64 c2.4), .lit (.int .i64 c2.5), .row [.int .i64] N2 G2] (nat_lit 38)))]))
      (.ask (N2 ≤ (100000 : Nat)) (.br (lk bsB m e (H (U.toNat i)).1) (.br (U.not (U.beq (lk bsB N2 G2 (H (U.toNat i)).1) (U.not (lk bsB m1 e1 (H (U.toNat i)).1)))) (.ret (Ex.ret, [SV.ptr
      (nat_lit 0) (nat_lit 0), SV.ptr (nat_lit 1) (nat_lit 0), SV.kb false, SV.ptr (nat_lit 5) (nat_lit 0), SV.ptr (nat_lit 6) (nat_lit 0), SV.ptr (nat_lit 7) (nat_lit 0), .lit (.int .i64
      (H (U.toNat i)).1), .lit (.bool (lk bsB m e (H (U.toNat i)).1)), .lit (.bool (lk bsB m1 e1 (H (U.toNat i)).1)), .row [.int .i64] C H, .lit (.int .i64 (Int.ofNat C)), .lit (.int .i64
      i)], [(nat_lit 0, some (Blk.cells [.row [.int .i64, .int .i64, .int .i64] n f, .lit (.int .i64 k), .lit (.int .i64 s), .lit (.int .i64 h), .row [.int .i64] m e] (nat_lit 29))),
      (nat_lit 0, some (Blk.cells [.row [.int .i64, .int .i64, .int .i64] n1 f1, .lit (.int .i64 k1), .lit (.int .i64 s1), .lit (.int .i64 h1), .row [.int .i64] m1 e1] (nat_lit 29))),
      (nat_lit 0, none), (nat_lit 0, none), (nat_lit 0, none), (nat_lit 0, some (Blk.cells [.row [.int .i64, .int .i64, .int .i64] c0.1 c0.2, .lit (.int .i64 c0.3), .lit (.int .i64 c0.4),
      .lit (.int .i64 c0.5), .row [.int .i64] N0 G0] (nat_lit 38))), (nat_lit 0, some (Blk.cells [.row [.int .i64, .int .i64, .int .i64] c1.1 c1.2, .lit (.int .i64 c1.3), .lit (.int .i64
      c1.4), .lit (.int .i64 c1.5), .row [.int .i64] N1 G1] (nat_lit 38))), (nat_lit 0, some (Blk.cells [.row [.int .i64, .int .i64, .int .i64] c2.1 c2.2, .lit (.int .i64 c2.3), .lit
      (.int .i64 c2.4), .lit (.int .i64 c2.5), .row [.int .i64] N2 G2] (nat_lit 38)))])) (.ret (Ex.normal, [SV.ptr (nat_lit 0) (nat_lit 0), SV.ptr (nat_lit 1) (nat_lit 0), SV.any, SV.ptr
      (nat_lit 5) (nat_lit 0), SV.ptr (nat_lit 6) (nat_lit 0), SV.ptr (nat_lit 7) (nat_lit 0), .lit (.int .i64 (H (U.toNat i)).1), .lit (.bool (lk bsB m e (H (U.toNat i)).1)), .lit (.bool
      (lk bsB m1 e1 (H (U.toNat i)).1)), .row [.int .i64] C H, .lit (.int .i64 (Int.ofNat C)), .lit (.int .i64 (U.add .i64 i (1 : Int)))], [(nat_lit 0, some (Blk.cells [.row [.int .i64,
      .int .i64, .int .i64] n f, .lit (.int .i64 k), .lit (.int .i64 s), .lit (.int .i64 h), .row [.int .i64] m e] (nat_lit 29))), (nat_lit 0, some (Blk.cells [.row [.int .i64, .int .i64,
      .int .i64] n1 f1, .lit (.int .i64 k1), .lit (.int .i64 s1), .lit (.int .i64 h1), .row [.int .i64] m1 e1] (nat_lit 29))), (nat_lit 0, none), (nat_lit 0, none), (nat_lit 0, none),
      (nat_lit 0, some (Blk.cells [.row [.int .i64, .int .i64, .int .i64] c0.1 c0.2, .lit (.int .i64 c0.3), .lit (.int .i64 c0.4), .lit (.int .i64 c0.5), .row [.int .i64] N0 G0] (nat_lit
      38))), (nat_lit 0, some (Blk.cells [.row [.int .i64, .int .i64, .int .i64] c1.1 c1.2, .lit (.int .i64 c1.3), .lit (.int .i64 c1.4), .lit (.int .i64 c1.5), .row [.int .i64] N1 G1]
      (nat_lit 38))), (nat_lit 0, some (Blk.cells [.row [.int .i64, .int .i64, .int .i64] c2.1 c2.2, .lit (.int .i64 c2.3), .lit (.int .i64 c2.4), .lit (.int .i64 c2.5), .row [.int .i64]
      N2 G2] (nat_lit 38)))]))) (.br (U.not (U.beq (lk bsB N2 G2 (H (U.toNat i)).1) false)) (.ret (Ex.ret, [SV.ptr (nat_lit 0) (nat_lit 0), SV.ptr (nat_lit 1) (nat_lit 0), SV.kb false,
      SV.ptr (nat_lit 5) (nat_lit 0), SV.ptr (nat_lit 6) (nat_lit 0), SV.ptr (nat_lit 7) (nat_lit 0), .lit (.int .i64 (H (U.toNat i)).1), .lit (.bool (lk bsB m e (H (U.toNat i)).1)), .lit
      (.bool (lk bsB m1 e1 (H (U.toNat i)).1)), .row [.int .i64] C H, .lit (.int .i64 (Int.ofNat C)), .lit (.int .i64 i)], [(nat_lit 0, some (Blk.cells [.row [.int .i64, .int .i64, .int
      .i64] n f, .lit (.int .i64 k), .lit (.int .i64 s), .lit (.int .i64 h), .row [.int .i64] m e] (nat_lit 29))), (nat_lit 0, some (Blk.cells [.row [.int .i64, .int .i64, .int .i64] n1
      f1, .lit (.int .i64 k1), .lit (.int .i64 s1), .lit (.int .i64 h1), .row [.int .i64] m1 e1] (nat_lit 29))), (nat_lit 0, none), (nat_lit 0, none), (nat_lit 0, none), (nat_lit 0, some
      (Blk.cells [.row [.int .i64, .int .i64, .int .i64] c0.1 c0.2, .lit (.int .i64 c0.3), .lit (.int .i64 c0.4), .lit (.int .i64 c0.5), .row [.int .i64] N0 G0] (nat_lit 38))), (nat_lit
      0, some (Blk.cells [.row [.int .i64, .int .i64, .int .i64] c1.1 c1.2, .lit (.int .i64 c1.3), .lit (.int .i64 c1.4), .lit (.int .i64 c1.5), .row [.int .i64] N1 G1] (nat_lit 38))),
      (nat_lit 0, some (Blk.cells [.row [.int .i64, .int .i64, .int .i64] c2.1 c2.2, .lit (.int .i64 c2.3), .lit (.int .i64 c2.4), .lit (.int .i64 c2.5), .row [.int .i64] N2 G2] (nat_lit
      38)))])) (.ret (Ex.normal, [SV.ptr (nat_lit 0) (nat_lit 0), SV.ptr (nat_lit 1) (nat_lit 0), SV.any, SV.ptr (nat_lit 5) (nat_lit 0), SV.ptr (nat_lit 6) (nat_lit 0), SV.ptr (nat_lit
      7) (nat_lit 0), .lit (.int .i64 (H (U.toNat i)).1), .lit (.bool (lk bsB m e (H (U.toNat i)).1)), .lit (.bool (lk bsB m1 e1 (H (U.toNat i)).1)), .row [.int .i64] C H, .lit (.int .i64
      (Int.ofNat C)), .lit (.int .i64 (U.add .i64 i (1 : Int)))], [(nat_lit 0, some (Blk.cells [.row [.int .i64, .int .i64, .int .i64] n f, .lit (.int .i64 k), .lit (.int .i64 s), .lit
      (.int .i64 h), .row [.int .i64] m e] (nat_lit 29))), (nat_lit 0, some (Blk.cells [.row [.int .i64, .int .i64, .int .i64] n1 f1, .lit (.int .i64 k1), .lit (.int .i64 s1), .lit (.int
      .i64 h1), .row [.int .i64] m1 e1] (nat_lit 29))), (nat_lit 0, none), (nat_lit 0, none), (nat_lit 0, none), (nat_lit 0, some (Blk.cells [.row [.int .i64, .int .i64, .int .i64] c0.1
      c0.2, .lit (.int .i64 c0.3), .lit (.int .i64 c0.4), .lit (.int .i64 c0.5), .row [.int .i64] N0 G0] (nat_lit 38))), (nat_lit 0, some (Blk.cells [.row [.int .i64, .int .i64, .int
      .i64] c1.1 c1.2, .lit (.int .i64 c1.3), .lit (.int .i64 c1.4), .lit (.int .i64 c1.5), .row [.int .i64] N1 G1] (nat_lit 38))), (nat_lit 0, some (Blk.cells [.row [.int .i64, .int
      .i64, .int .i64] c2.1 c2.2, .lit (.int .i64 c2.3), .lit (.int .i64 c2.4), .lit (.int .i64 c2.5), .row [.int .i64] N2 G2] (nat_lit 38)))]))))))))))))) (.ret (Ex.exit (nat_lit 2),
      [SV.ptr (nat_lit 0) (nat_lit 0), SV.ptr (nat_lit 1) (nat_lit 0), SV.any, SV.ptr (nat_lit 5) (nat_lit 0), SV.ptr (nat_lit 6) (nat_lit 0), SV.ptr (nat_lit 7) (nat_lit 0), SV.any,
      SV.any, SV.any, .row [.int .i64] C H, .lit (.int .i64 (Int.ofNat C)), .lit (.int .i64 i)], [(nat_lit 0, some (Blk.cells [.row [.int .i64, .int .i64, .int .i64] n f, .lit (.int .i64
      k), .lit (.int .i64 s), .lit (.int .i64 h), .row [.int .i64] m e] (nat_lit 29))), (nat_lit 0, some (Blk.cells [.row [.int .i64, .int .i64, .int .i64] n1 f1, .lit (.int .i64 k1),
      .lit (.int .i64 s1), .lit (.int .i64 h1), .row [.int .i64] m1 e1] (nat_lit 29))), (nat_lit 0, none), (nat_lit 0, none), (nat_lit 0, none), (nat_lit 0, some (Blk.cells [.row [.int
      .i64, .int .i64, .int .i64] c0.1 c0.2, .lit (.int .i64 c0.3), .lit (.int .i64 c0.4), .lit (.int .i64 c0.5), .row [.int .i64] N0 G0] (nat_lit 38))), (nat_lit 0, some (Blk.cells [.row
      [.int .i64, .int .i64, .int .i64] c1.1 c1.2, .lit (.int .i64 c1.3), .lit (.int .i64 c1.4), .lit (.int .i64 c1.5), .row [.int .i64] N1 G1] (nat_lit 38))), (nat_lit 0, some (Blk.cells
      [.row [.int .i64, .int .i64, .int .i64] c2.1 c2.2, .lit (.int .i64 c2.3), .lit (.int .i64 c2.4), .lit (.int .i64 c2.5), .row [.int .i64] N2 G2] (nat_lit 38)))])) := by kernel_rfl
set_option maxRecDepth 100000 in
theorem t_ISets (n : Nat) (f : Nat → R3) (k s h : Int) (m : Nat) (e : Nat → R1) (n1 : Nat) (f1 : Nat → R3) (k1 s1 h1 : Int) (m1 : Nat) (e1 : Nat → R1) : conB Go.Proofs.Try.prog (conOf kSe) (loopsOf lSt) 10 5 [.agg [.row [.int .i64, .int .i64, .int .i64] n f, .lit (.int .i64 k), .lit (.int .i64 s), .lit (.int .i64 h), .row [.int .i64] m e], .agg [.row [.int .i64, .int .i64, .int .i64] n1 f1, .lit (.int .i64 k1), .lit (.int .i64 s1), .lit (.int .i64 h1), .row [.int .i64] m1 e1]] =
    T.ask (Row64 n f) (.br (U.not (lk fwB n f m)) (.ret (.lit (.bool true))) (.ask (Row64 n1 f1) (.br (U.not (lk fwB n1 f1 m1)) (.ret (.lit (.bool true))) (.ask (Row64 n f) (.br (U.ne
      (lk spE n f k s h m e) (0 : Int)) (.ret (.lit (.bool true))) (.ask (Row64 n1 f1) (.br (U.ne (lk spE n1 f1 k1 s1 h1 m1 e1) (0 : Int)) (.ret (.lit (.bool true))) (.ask (Row64 n f)
      (.br (U.ne (lk spE n f k s h m e) (0 : Int)) (.ret (.lit (.bool false))) (.br (U.ne (Int.ofNat (lk zn (lk spE n f k s h m e) m)) (Int.ofNat m)) (.ret (.lit (.bool false))) (.ask (lk
      PreS1 (nat_lit 0) n f k s h m e (lk zn (lk spE n f k s h m e) m) (lk ixF n f k s h e) ↑(lk zn (lk spE n f k s h m e) m) ∧ (0 : Nat) = (0 : Nat) ∧ (0 : Nat) = (0 : Nat) ∧ (1 : Nat) =
      (1 : Nat) ∧ (0 : Nat) = (0 : Nat) ∧ (2 : Nat) = (2 : Nat) ∧ (0 : Nat) = (0 : Nat) ∧ (3 : Nat) = (3 : Nat) ∧ (0 : Nat) = (0 : Nat) ∧ lk zn (lk spE n f k s h m e) m = lk zn (lk spE n
      f k s h m e) m ∧ lk ixF n f k s h e = lk ixF n f k s h e ∧ (0 : Int) = (0 : Int) ∧ (29 : Nat) = (29 : TypeId) ∧ (29 : Nat) = (29 : TypeId) ∧ (38 : Nat) = (38 : TypeId) ∧ (38 : Nat)
      = (38 : TypeId) ∧ [.row [.int .i64, .int .i64, .int .i64] n f, .lit (.int .i64 k), .lit (.int .i64 s), .lit (.int .i64 h), .row [.int .i64] m e] = spC n f k s h m e ∧ [.row [.int
      .i64, .int .i64, .int .i64] n1 f1, .lit (.int .i64 k1), .lit (.int .i64 s1), .lit (.int .i64 h1), .row [.int .i64] m1 e1] = spC n1 f1 k1 s1 h1 m1 e1) (.ask (Row64 n f) (.br (U.ne
      (lk ofE n f k s h (lk zn (lk spE n f k s h m e) m) (lk ixF n f k s h e)) (0 : Int)) (.ret (.lit (.bool false))) (.ask (lk zn (lk ofE n f k s h (lk zn (lk spE n f k s h m e) m) (lk
      ixF n f k s h e)) n ≤ nat_lit 9223372036854775807 ∧ lk zn (lk ofE n f k s h (lk zn (lk spE n f k s h m e) m) (lk ixF n f k s h e)) (lk osN n f k s h (lk zn (lk spE n f k s h m e) m)
      (lk ixF n f k s h e)) ≤ nat_lit 9223372036854775807) (.br (U.not (lk smB (lk zn (lk ofE n f k s h (lk zn (lk spE n f k s h m e) m) (lk ixF n f k s h e)) n) f (lk zi (lk ofE n f k s
      h (lk zn (lk spE n f k s h m e) m) (lk ixF n f k s h e)) k) (lk zi (lk ofE n f k s h (lk zn (lk spE n f k s h m e) m) (lk ixF n f k s h e)) s) (lk zi (lk ofE n f k s h (lk zn (lk
      spE n f k s h m e) m) (lk ixF n f k s h e)) h) (lk zn (lk ofE n f k s h (lk zn (lk spE n f k s h m e) m) (lk ixF n f k s h e)) (lk osN n f k s h (lk zn (lk spE n f k s h m e) m) (lk
      ixF n f k s h e))) (lk osF n f k s h (lk zn (lk spE n f k s h m e) m) (lk ixF n f k s h e)) n f k s h m e)) (.ret (.lit (.bool false))) (.ask (Row64 n f ∧ Row64 n1 f1) (.ask (Row64
      n f ∧ Row64 n1 f1) (.ask (Row64 n f ∧ Row64 n1 f1) (.br (U.ne (lk paE (nat_lit 82) n f k s h m e n1 f1 k1 s1 h1 m1 e1) (lk paE (nat_lit 83) n f k s h m e n1 f1 k1 s1 h1 m1 e1))
      (.ret (.lit (.bool false))) (.br (U.ne (lk paE (nat_lit 83) n f k s h m e n1 f1 k1 s1 h1 m1 e1) (lk paE (nat_lit 84) n f k s h m e n1 f1 k1 s1 h1 m1 e1)) (.ret (.lit (.bool false)))
      (.br (U.ne (lk paE (nat_lit 82) n f k s h m e n1 f1 k1 s1 h1 m1 e1) (0 : Int)) (.br (U.eq (lk paE (nat_lit 82) n f k s h m e n1 f1 k1 s1 h1 m1 e1) (50 : Int)) (.ret (.lit (.bool
      true))) (.ret (.lit (.bool false)))) (.ask (Row64 (lk zn (lk paE (nat_lit 82) n f k s h m e n1 f1 k1 s1 h1 m1 e1) n) f) (.br (U.ne (lk spE (lk zn (lk paE (nat_lit 82) n f k s h m e
      n1 f1 k1 s1 h1 m1 e1) n) f (lk zi (lk paE (nat_lit 82) n f k s h m e n1 f1 k1 s1 h1 m1 e1) k) (lk zi (lk paE (nat_lit 82) n f k s h m e n1 f1 k1 s1 h1 m1 e1) s) (lk zi (lk paE
      (nat_lit 82) n f k s h m e n1 f1 k1 s1 h1 m1 e1) h) (lk zn (lk paE (nat_lit 82) n f k s h m e n1 f1 k1 s1 h1 m1 e1) (lk mgN (nat_lit 82) m e m1 e1)) (lk mgF (nat_lit 82) m e m1 e1))
      (0 : Int)) (.ret (.lit (.bool false))) (.ask (Row64 (lk zn (lk paE (nat_lit 83) n f k s h m e n1 f1 k1 s1 h1 m1 e1) n) f) (.br (U.ne (lk spE (lk zn (lk paE (nat_lit 83) n f k s h m
      e n1 f1 k1 s1 h1 m1 e1) n) f (lk zi (lk paE (nat_lit 83) n f k s h m e n1 f1 k1 s1 h1 m1 e1) k) (lk zi (lk paE (nat_lit 83) n f k s h m e n1 f1 k1 s1 h1 m1 e1) s) (lk zi (lk paE
      (nat_lit 83) n f k s h m e n1 f1 k1 s1 h1 m1 e1) h) (lk zn (lk paE (nat_lit 83) n f k s h m e n1 f1 k1 s1 h1 m1 e1) (lk mgN (nat_lit 83) m e m1 e1)) (lk mgF (nat_lit 83) m e m1 e1))
      (0 : Int)) (.ret (.lit (.bool false))) (.ask (Row64 (lk zn (lk paE (nat_lit 84) n f k s h m e n1 f1 k1 s1 h1 m1 e1) n) f) (.br (U.ne (lk spE (lk zn (lk paE (nat_lit 84) n f k s h m
      e n1 f1 k1 s1 h1 m1 e1) n) f (lk zi (lk paE (nat_lit 84) n f k s h m e n1 f1 k1 s1 h1 m1 e1) k) (lk zi (lk paE (nat_lit 84) n f k s h m e n1 f1 k1 s1 h1 m1 e1) s) (lk zi (lk paE
      (nat_lit 84) n f k s h m e n1 f1 k1 s1 h1 m1 e1) h) (lk zn (lk paE (nat_lit 84) n f k s h m e n1 f1 k1 s1 h1 m1 e1) (lk mgN (nat_lit 84) m e m1 e1)) (lk mgF (nat_lit 84) m e m1 e1))
      (0 : Int)) (.ret (.lit (.bool false))) (.br (U.ne (U.add .i64 (Int.ofNat (lk zn (lk paE (nat_lit 82) n f k s h m e n1 f1 k1 s1 h1 m1 e1) (lk mgN (nat_lit 82) m e m1 e1))) (Int.ofNat
      (lk zn (lk paE (nat_lit 83) n f k s h m e n1 f1 k1 s1 h1 m1 e1) (lk mgN (nat_lit 83) m e m1 e1)))) (U.add .i64 (Int.ofNat m) (Int.ofNat m1))) (.ret (.lit (.bool false))) (.br (U.ne
      (U.add .i64 (Int.ofNat (lk zn (lk paE (nat_lit 83) n f k s h m e n1 f1 k1 s1 h1 m1 e1) (lk mgN (nat_lit 83) m e m1 e1))) (Int.ofNat (lk zn (lk paE (nat_lit 84) n f k s h m e n1 f1
      k1 s1 h1 m1 e1) (lk mgN (nat_lit 84) m e m1 e1)))) (Int.ofNat m)) (.ret (.lit (.bool false))) (.ask (m ≤ (100000 : Nat) ∧ m1 ≤ (100000 : Nat)) (.ask ((0 : Nat) = (0 : Nat) ∧ (0 :
      Nat) = (0 : Nat) ∧ (1 : Nat) = (1 : Nat) ∧ (0 : Nat) = (0 : Nat) ∧ (5 : Nat) = (5 : Nat) ∧ (0 : Nat) = (0 : Nat) ∧ (6 : Nat) = (6 : Nat) ∧ (0 : Nat) = (0 : Nat) ∧ (7 : Nat) = (7 :
      Nat) ∧ (0 : Nat) = (0 : Nat) ∧ (0 : Int) = (0 : Int)) (.ask (lk PreS2 (nat_lit 0) m e m1 e1 (lk zn (lk paE (nat_lit 82) n f k s h m e n1 f1 k1 s1 h1 m1 e1) (lk mgN (nat_lit 82) m e
      m1 e1)) (lk mgF (82 : Nat) m e m1 e1) (lk zn (lk paE (nat_lit 83) n f k s h m e n1 f1 k1 s1 h1 m1 e1) (lk mgN (nat_lit 83) m e m1 e1)) (lk mgF (83 : Nat) m e m1 e1) (lk zn (lk paE
      (nat_lit 84) n f k s h m e n1 f1 k1 s1 h1 m1 e1) (lk mgN (nat_lit 84) m e m1 e1)) (lk mgF (84 : Nat) m e m1 e1) (lk ccN (ofList [((m1, castEls rfl e1), ()), ((m, castEls rfl e),
      ())].reverse)) (lk ccF (ofList [((m1, castEls rfl e1), ()), ((m, castEls rfl e), ())].reverse)) ↑(lk ccN (ofList [((m1, castEls rfl e1), ()), ((m, castEls rfl e), ())].reverse)) ∧
      (29 : TypeId) = (29 : TypeId) ∧ (29 : TypeId) = (29 : TypeId) ∧ (38 : Nat) = (38 : TypeId) ∧ (38 : Nat) = (38 : TypeId) ∧ (38 : Nat) = (38 : TypeId)) (.ret (.lit (.bool
      true))))))))))))))))))))))))))))))))))) := by kernel_rfl
end Go.RX.Span

/- Sparse domains: the law of sets: plain. -/
set_option linter.unusedVariables false
set_option linter.unusedSimpArgs false
set_option maxRecDepth 100000
namespace Go.RX.Span
open Go Go.RX
attribute [local irreducible] sx conB

theorem bsB_nl {m : Nat} {e : Nat → R1} {p : Int} : bsB m e p = decide (p ∈ nl m e) := by
  cases hb : bsB m e p
  · exact (decide_eq_false fun h => bsB_f.1 hb (mem_nl.1 h)).symm
  · exact (decide_eq_true (mem_nl.2 (bsB_t.1 hb))).symm
theorem bsB_lF {l : List Int} {p : Int} : bsB l.length (lF l) p = decide (p ∈ l) := by rw [bsB_nl, nl_lF]
theorem bsB_mg {g : Nat} {m : Nat} {e : Nat → R1} {m1 : Nat} {e1 : Nat → R1} {p : Int} : bsB (mgN g m e m1 e1) (mgF g m e m1 e1) p = ((bsB m e p || bsB m1 e1 p) && tkG g (bsB m e p) (bsB m1 e1 p)) := by
  have : bsB (mgN g m e m1 e1) (mgF g m e m1 e1) p = decide (p ∈ mgL (tkG g) (nl m e) (nl m1 e1)) := bsB_lF
  rw [this, bsB_nl, bsB_nl]
  have hm := mem_mg (tk := tkG g) (a := nl m e) (b := nl m1 e1) (x := p)
  cases hb : ((decide (p ∈ nl m e) || decide (p ∈ nl m1 e1)) && tkG g (decide (p ∈ nl m e)) (decide (p ∈ nl m1 e1)))
  · refine decide_eq_false fun h => ?_
    obtain ⟨h1, h2⟩ := hm.1 h
    rw [h2, Bool.and_true] at hb
    rcases h1 with h1 | h1 <;> rw [decide_eq_true h1] at hb <;> simp at hb
  · rw [Bool.and_eq_true] at hb
    refine decide_eq_true (hm.2 ⟨?_, hb.2⟩)
    rcases Bool.or_eq_true _ _ ▸ hb.1 with h | h
    · exact .inl (of_decide_eq_true h)
    · exact .inr (of_decide_eq_true h)
theorem tk82 (x y : Bool) : tkG 82 x y = true := rfl
theorem tk83 (x y : Bool) : tkG 83 x y = (x && y) := rfl
theorem tk84 (x y : Bool) : tkG 84 x y = !y := rfl
/-! How many there are. -/
theorem asc_nd {l : List Int} (h : Asc l) : l.Nodup := List.Pairwise.imp (fun h => by omega) h
theorem len_split (l : List Int) (p : Int → Bool) : (l.filter p).length + (l.filter fun x => !p x).length = l.length := by
  induction l with
  | nil => rfl
  | cons a l ih => cases h : p a <;> simp [h] <;> omega
section
variable {a b : List Int}
theorem mg_83 (ha : Asc a) : mgL (tkG 83) a b = a.filter fun x => decide (x ∈ b) := by
  refine asc_eq (mg_asc _ _ _) (asc_filter _ ha) fun x => ?_
  rw [mem_mg, List.mem_filter, tk83, Bool.and_eq_true]
  constructor
  · exact fun h => ⟨of_decide_eq_true h.2.1, h.2.2⟩
  · exact fun h => ⟨.inl h.1, decide_eq_true h.1, h.2⟩
theorem mg_83' (hb : Asc b) : mgL (tkG 83) a b = b.filter fun x => decide (x ∈ a) := by
  refine asc_eq (mg_asc _ _ _) (asc_filter _ hb) fun x => ?_
  rw [mem_mg, List.mem_filter, tk83, Bool.and_eq_true]
  constructor
  · exact fun h => ⟨of_decide_eq_true h.2.2, h.2.1⟩
  · exact fun h => ⟨.inr h.1, h.2, decide_eq_true h.1⟩
theorem mg_84 (ha : Asc a) : mgL (tkG 84) a b = a.filter fun x => !decide (x ∈ b) := by
  refine asc_eq (mg_asc _ _ _) (asc_filter _ ha) fun x => ?_
  rw [mem_mg, List.mem_filter, tk84]
  constructor
  · intro h
    have h2 : x ∉ b := fun g => by have := h.2; rw [decide_eq_true g] at this; cases this
    exact ⟨h.1.resolve_right h2, h.2⟩
  · exact fun h => ⟨.inl h.1, h.2⟩
theorem mg_82 (ha : Asc a) (hb : Asc b) : (mgL (tkG 82) a b).length = a.length + (b.filter fun x => !decide (x ∈ a)).length := by
  rw [← List.length_append]
  refine List.Perm.length_eq ((List.perm_ext_iff_of_nodup (asc_nd (mg_asc _ _ _)) ?_).2 fun x => ?_)
  · rw [List.nodup_append]
    refine ⟨asc_nd ha, (asc_nd hb).filter _, fun x hx y hy => ?_⟩
    rintro rfl
    have h2 := (List.mem_filter.1 hy).2
    rw [decide_eq_true hx] at h2; cases h2
  · rw [mem_mg, List.mem_append, List.mem_filter, tk82]
    constructor
    · rintro ⟨h | h, _⟩
      · exact .inl h
      · by_cases g : x ∈ a
        · exact .inl g
        · exact .inr ⟨h, by rw [decide_eq_false g]; rfl⟩
    · exact fun h => ⟨h.elim .inl fun g => .inr g.1, rfl⟩
theorem len_1 (ha : Asc a) (hb : Asc b) : (mgL (tkG 82) a b).length + (mgL (tkG 83) a b).length = a.length + b.length := by
  rw [mg_82 ha hb, mg_83' hb]
  have := len_split b fun x => decide (x ∈ a)
  omega
theorem len_2 (ha : Asc a) (hb : Asc b) : (mgL (tkG 83) a b).length + (mgL (tkG 84) a b).length = a.length := by
  rw [mg_83 ha, mg_84 ha]
  exact len_split a fun x => decide (x ∈ b)
end
section
variable {n : Nat} {f : Nat → R3} {k s h : Int} {m : Nat} {e : Nat → R1} {n1 : Nat} {f1 : Nat → R3} {k1 s1 h1 : Int} {m1 : Nat} {e1 : Nat → R1}
theorem mgN_le (g : Nat) : mgN g m e m1 e1 ≤ m + m1 := by
  have := mg_len (tkG g) (nl m e) (nl m1 e1)
  rw [nl_len, nl_len] at this
  exact this
theorem pa_same {g g' : Nat} (hm : m ≤ 2500) (hm1 : m1 ≤ 2500) : paE g n f k s h m e n1 f1 k1 s1 h1 m1 e1 = paE g' n f k s h m e n1 f1 k1 s1 h1 m1 e1 := by
  unfold paE
  have e1' := mgN_le (m := m) (e := e) (m1 := m1) (e1 := e1) g
  have e2' := mgN_le (m := m) (e := e) (m1 := m1) (e1 := e1) g'
  rw [if_neg (show ¬ 5000 < mgN g m e m1 e1 by omega), if_neg (show ¬ 5000 < mgN g' m e m1 e1 by omega)]
theorem pa_or {g : Nat} (g1 : spE n f k s h m e = 0) (g2 : spE n1 f1 k1 s1 h1 m1 e1 = 0) (hm : m ≤ 2500) (hm1 : m1 ≤ 2500) : paE g n f k s h m e n1 f1 k1 s1 h1 m1 e1 = 50 ∨ (paE g n f k s h m e n1 f1 k1 s1 h1 m1 e1 = 0 ∧ eqDo n f k s h n1 f1 k1 s1 h1 = true) := by
  have e1' := mgN_le (m := m) (e := e) (m1 := m1) (e1 := e1) g
  cases hb : eqDo n f k s h n1 f1 k1 s1 h1
  · exact .inl (paE_3 g1 g2 hb).symm
  · exact .inr ⟨paE_5 g1 g2 hb (by omega), rfl⟩
theorem szD_ext {f' : Nat → R3} (hc : chD n f k s h = 0) (hF : ∀ i, i < n → f' i = f i) : chD n f' k s h = 0 ∧ szD n f' k s h = szD n f k s h := by
  obtain ⟨⟨hn, d⟩, d2⟩ := chD_zero.1 hc
  have hcF : chD n f' k s h = 0 := chD_zero.2 ⟨⟨hn, fun i hi => by rw [hF i hi]; exact d i hi⟩, d2⟩
  refine ⟨hcF, ?_⟩
  unfold szD
  rw [if_neg (fun x => x hcF), if_neg (fun x => x hc)]
  unfold colD
  rcases hn with rfl | rfl
  · rw [if_pos rfl, if_pos rfl, hF 0 (by decide)]
  · rw [if_neg (by decide), if_neg (by decide), hF 0 (by decide), hF 1 (by decide)]
theorem eqDo_is (hb : eqDo n f k s h n1 f1 k1 s1 h1 = true) : n1 = n ∧ (∀ i, i < n → f1 i = f i) ∧ k1 = k ∧ s1 = s ∧ h1 = h := by
  unfold eqDo at hb
  rw [Bool.and_eq_true] at hb
  obtain ⟨b1, b2⟩ := hb
  have b2 := of_decide_eq_true b2
  obtain ⟨c1, c2⟩ := eqR3_t.1 b1
  exact ⟨c1.symm, fun i hi => by
    obtain ⟨x, y, z⟩ := c2 i hi
    exact Prod.ext x.symm (Prod.ext y.symm (Prod.ext z.symm rfl)), b2.1.symm, b2.2.1.symm, b2.2.2.symm⟩
/-- What is made of two right domains is right. -/
theorem pa_right (g : Nat) (g1 : spE n f k s h m e = 0) (g2 : spE n1 f1 k1 s1 h1 m1 e1 = 0) (hb : eqDo n f k s h n1 f1 k1 s1 h1 = true) (hm : m ≤ 2500) (hm1 : m1 ≤ 2500) : spE n f k s h (mgN g m e m1 e1) (mgF g m e m1 e1) = 0 := by
  obtain ⟨rfl, hF, rfl, rfl, rfl⟩ := eqDo_is hb
  have hp := (spE_zero.1 g1).1
  have hc := (pdE_zero.1 hp).1
  obtain ⟨_, hz⟩ := szD_ext hc hF
  have e1' := mgN_le (m := m) (e := e) (m1 := m1) (e1 := e1) g
  refine spE_zero.2 ⟨hp, by omega, ?_⟩
  refine spAt_lF (mg_asc _ _ _) fun x hx => ?_
  rcases (mem_mg.1 hx).1 with h | h
  · obtain ⟨i, hi, rfl⟩ := mem_nl.1 h
    have := (sp_bs g1).2.2.2.2 i hi
    exact ⟨this.1, this.2.1⟩
  · obtain ⟨i, hi, rfl⟩ := mem_nl.1 h
    have := (sp_bs g2).2.2.2.2 i hi
    rw [hz] at this
    exact ⟨this.1, this.2.1⟩
/-- Indices, and back. -/
theorem ix_at (g : spE n f k s h m e = 0) {i : Nat} (hi : i < m) : hasD n f k s h (ixF n f k s h e i).1.1 (ixF n f k s h e i).1.2 = true ∧ posD n f k s h (ixF n f k s h e i).1.1 (ixF n f k s h e i).1.2 = nv e i := by
  have h3 := (sp_bs g).2.2.2.2 i hi
  obtain ⟨_, x1, x2⟩ := nth_pos (fun _ _ => rfl) (pdE_zero.1 (spE_zero.1 g).1).1 h3.1 h3.2.1
  exact ⟨x1, x2⟩
theorem ix_pos (g : spE n f k s h m e = 0) {i : Nat} (hi : i < m) : spH n f k s h m e (ixF n f k s h e i).1.1 (ixF n f k s h e i).1.2 = true ∧ spP n f k s h m e (ixF n f k s h e i).1.1 (ixF n f k s h e i).1.2 = (i : Int) := by
  obtain ⟨x1, x2⟩ := ix_at g hi
  have hh : spH n f k s h m e (ixF n f k s h e i).1.1 (ixF n f k s h e i).1.2 = true := spH_t.2 ⟨g, x1, by rw [x2]; exact bsB_t.2 ⟨i, hi, rfl⟩⟩
  refine ⟨hh, ?_⟩
  unfold spP
  rw [if_pos hh, x2, bsI_at (sp_bs g).1 hi]
theorem ix_of (g : spE n f k s h m e = 0) : ofE n f k s h m (ixF n f k s h e) = 0 ∧ osN n f k s h m (ixF n f k s h e) = m ∧ ∀ i, i < m → osF n f k s h m (ixF n f k s h e) i = e i := by
  obtain ⟨b, hm, _, _, h3⟩ := sp_bs g
  have eL : psL n f k s h m (ixF n f k s h e) = nl m e := by
    unfold psL nl
    exact List.map_congr_left fun i hi => (ix_at g (List.mem_range.1 hi)).2
  have eO : ofL (nl m e) = nl m e := asc_eq (asc_ofL _) (asc_nl b) fun x => mem_ofL _
  have eN : osN n f k s h m (ixF n f k s h e) = m := by unfold osN; rw [eL, eO, nl_len]
  refine ⟨?_, eN, fun i hi => ?_⟩
  · unfold ofE
    rw [if_neg (fun x => x (spE_zero.1 g).1), if_neg (by omega), if_neg (by rw [ofOk_t.2 fun i hi => (ix_at g hi).1]; decide), if_neg (by rw [eL, eO, nl_len]; omega)]
  · unfold osF
    rw [eL, eO]; exact lF_nl hi
end
end Go.RX.Span

/- Sparse domains: the law of sets. -/
set_option linter.unusedVariables false
set_option linter.unusedSimpArgs false
set_option maxRecDepth 100000
namespace Go.RX.Span
open Go Go.RX
attribute [local irreducible] sx conB

structure XS1 where
  (n : Nat) (f : Nat → R3) (k s h : Int) (m : Nat) (e : Nat → R1) (n1 : Nat) (f1 : Nat → R3) (k1 s1 h1 : Int) (m1 : Nat) (e1 : Nat → R1) (i : Nat)
noncomputable abbrev VS1 (q : XS1) : Few := (slS1 q.m (ixF q.n q.f q.k q.s q.h q.e) q.i, memS1 q.n q.f q.k q.s q.h q.m q.e q.n1 q.f1 q.k1 q.s1 q.h1 q.m1 q.e1)
noncomputable def OS1 (q : XS1) : Ex × Few := (.exit 0, ([.ptr 0 0, .ptr 1 0, .ptr 2 0, .ptr 3 0, .row [.sl [.int .i64]] q.m (ixF q.n q.f q.k q.s q.h q.e), .any, .any, .any, .any, .any, .any, .any, .any, .any], memS1 q.n q.f q.k q.s q.h q.m q.e q.n1 q.f1 q.k1 q.s1 q.h1 q.m1 q.e1))
def PhiS1 (n0 : Nat) (q : XS1) : Prop := (n0 = 0 ∧ Row64 q.n q.f ∧ spE q.n q.f q.k q.s q.h q.m q.e = 0) ∧ q.i ≤ q.m
theorem mem4_rl {n : Nat} {f : Nat → R3} {k s h : Int} {m : Nat} {e : Nat → R1} {n1 : Nat} {f1 : Nat → R3} {k1 s1 h1 : Int} {m1 : Nat} {e1 : Nat → R1} : RlM [some 0, some 1, some 2, some 3] (memS1 n f k s h m e n1 f1 k1 s1 h1 m1 e1) 0 (memS1 n f k s h m e n1 f1 k1 s1 h1 m1 e1) :=
  ⟨⟨rfl, bx_rl⟩, ⟨rfl, bx_rl⟩, ⟨rfl, bx_rl⟩, ⟨rfl, bx_rl⟩, trivial⟩
theorem roundS1 (n0 : Nat) (q : XS1) (hq : PhiS1 n0 q) : ((sx ESe [] n0 (loopOf P 5 8) (mkS 246 [2,3,5,6,7,9,10,11,12,13,14,65,66,67] (VS1 q).1, (VS1 q).2)).bind (proj 246 [2,3,5,6,7,9,10,11,12,13,14,65,66,67])).All fun r => match r.1 with
      | .normal => ∃ q', PhiS1 n0 q' ∧ q'.m - q'.i < q.m - q.i ∧ Wk 246 [2,3,5,6,7,9,10,11,12,13,14,65,66,67] n0 r.2 (VS1 q') ∧ ∀ o, o = OS1 q' → o = OS1 q
      | e => ∃ s, (e, s) = OS1 q ∧ Wk 246 [2,3,5,6,7,9,10,11,12,13,14,65,66,67] n0 r.2 s := by
  obtain ⟨n, f, k, s, h, m, e, n1, f1, k1, s1, h1, m1, e1, i⟩ := q
  obtain ⟨⟨h0, hr, g⟩, hi⟩ := hq
  have h0 : n0 = 0 := h0
  have hr : Row64 n f := hr
  have g : spE n f k s h m e = 0 := g
  have hi : i ≤ m := hi
  subst h0
  have hm := (sp_bs g).2.1
  refine T.all_of_eq (t_S1 n f k s h m e n1 f1 k1 s1 h1 m1 e1 m (ixF n f k s h e) (i : Int)) ?_
  by_cases hlt : i < m
  · rw [add1p (j := i) (by omega), tnH]
    obtain ⟨x1, x2⟩ := ix_at g hlt
    obtain ⟨y1, y2⟩ := ix_pos g hlt
    simp only [lk_eq]
    rw [x1, x2, y1, y2]
    refine ⟨fun _ => ⟨⟨by omega, by omega⟩, hr, hr, fun b => absurd (U.not_t.mp b) (by decide), fun _ => ⟨fun b => absurd rfl (U.ne_t.mp b), fun _ => ⟨fun b => absurd (U.not_t.mp b) (by decide), fun _ => ⟨⟨by omega, by omega⟩, fun b => absurd rfl (U.ne_t.mp b), fun _ =>
      ⟨⟨n, f, k, s, h, m, e, n1, f1, k1, s1, h1, m1, e1, i + 1⟩, ⟨⟨rfl, hr, g⟩, hlt⟩, (show m - (i + 1) < m - i by omega), ?_, fun o ho => ho⟩⟩⟩⟩⟩, fun b => absurd (U.lt_f.mp b) (by simp only [Int.ofNat_eq_natCast]; omega)⟩
    exact wk_of [some 0, some 1, some 2, some 3] rfl (Nat.zero_le _) (ren1z _) ⟨⟨rfl, rfl⟩, ⟨rfl, rfl⟩, ⟨rfl, rfl⟩, ⟨rfl, rfl⟩, ⟨rfl, rowRL fun _ _ => rfl⟩, rl_any _, rl_any _, rl_any _, rl_any _, rl_any _, rl_any _, ⟨rfl, rowRL fun _ _ => rfl⟩, rfl, rfl, trivial⟩ mem4_rl
  · obtain rfl : i = m := by omega
    refine ⟨fun b => absurd (U.lt_t.mp b) (by simp only [Int.ofNat_eq_natCast]; omega), fun _ => ⟨_, rfl, ?_⟩⟩
    exact wk_of [some 0, some 1, some 2, some 3] rfl (Nat.zero_le _) (ren1z _) ⟨⟨rfl, rfl⟩, ⟨rfl, rfl⟩, ⟨rfl, rfl⟩, ⟨rfl, rfl⟩, ⟨rfl, rowRL fun _ _ => rfl⟩, rl_any _, rl_any _, rl_any _, rl_any _, rl_any _, rl_any _, rl_any _, rl_any _, rl_any _, trivial⟩ mem4_rl
theorem loopS1' : LoopOK P (loopOf P 5 8) (few 246 [2,3,5,6,7,9,10,11,12,13,14,65,66,67] gS1') :=
  loop_few (E := ESe) mixed ESe_ok loopsOK_none 246 [2,3,5,6,7,9,10,11,12,13,14,65,66,67] (X := XS1) gS1' (fun _ x => VS1 x) PhiS1 (fun q => q.m - q.i) (fun _ x o => o = OS1 x)
    (fun n0 st r hh => by
      unfold gS1' at hh
      split at hh
      · rename_i n0 p0 q0 p1 q1 p2 q2 p3 q3 M F a1 a2 a3 a4 a5 a6 M' F' N z w0 n f k s h m e t0 w1 n1 f1 k1 s1 h1 m1 e1 t1 w2 xs t2 w3 ys t3
        obtain ⟨hp, rfl, rfl, rfl, rfl, rfl, rfl, rfl, rfl, rfl, rfl, rfl, rfl, rfl, rfl, rfl, rfl, rfl⟩ := (T.is_ask hh).1
        obtain rfl := T.is_ret (T.is_ask hh).2
        rw [lk_eq] at hp
        obtain ⟨h0, hr, g, rfl, rfl, rfl⟩ := hp
        subst h0
        refine ⟨⟨n, f, k, s, h, M', e, n1, f1, k1, s1, h1, m1, e1, 0⟩, ⟨⟨rfl, hr, g⟩, Nat.zero_le _⟩, ?_, fun o ho => ho⟩
        exact wk_of [some 0, some 1, some 2, some 3] rfl (Nat.zero_le _) (ren1z _) ⟨⟨rfl, rfl⟩, ⟨rfl, rfl⟩, ⟨rfl, rfl⟩, ⟨rfl, rfl⟩, ⟨rfl, rowRL fun _ _ => rfl⟩, rl_any _, rl_any _, rl_any _, rl_any _, rl_any _, rl_any _, ⟨rfl, rowRL fun _ _ => rfl⟩, rfl, rfl, trivial⟩ ⟨⟨rfl, bx_rl⟩, ⟨rfl, bx_rl⟩, ⟨rfl, bx_rl⟩, ⟨rfl, bx_rl⟩, trivial⟩
      · exact hh.elim)
    roundS1
structure XS2 where
  (n : Nat) (f : Nat → R3) (k s h : Int) (m : Nat) (e : Nat → R1) (n1 : Nat) (f1 : Nat → R3) (k1 s1 h1 : Int) (m1 : Nat) (e1 : Nat → R1) (c0 c1 c2 : C7) (C : Nat) (H : Nat → R1) (i : Nat)
noncomputable abbrev VS2 (q : XS2) : Few := (slS2 q.C q.H q.i, memS2 q.n q.f q.k q.s q.h q.m q.e q.n1 q.f1 q.k1 q.s1 q.h1 q.m1 q.e1 q.c0 q.c1 q.c2 (mgN 82 q.m q.e q.m1 q.e1) (mgF 82 q.m q.e q.m1 q.e1) (mgN 83 q.m q.e q.m1 q.e1) (mgF 83 q.m q.e q.m1 q.e1) (mgN 84 q.m q.e q.m1 q.e1) (mgF 84 q.m q.e q.m1 q.e1))
noncomputable def OS2 : Ex × Few := (.exit 2, ([.any, .any, .any, .any, .any, .any, .any, .any, .any, .any, .any, .any], [(0, none), (0, none), (0, none), (0, none), (0, none), (0, none), (0, none), (0, none), (0, none)]))
def PhiS2 (n0 : Nat) (q : XS2) : Prop := (n0 = 0 ∧ q.m ≤ 5000 ∧ q.m1 ≤ 5000 ∧ q.C = q.m + q.m1 ∧ ∀ i, i < q.C → q.H i = U.cat q.m q.e q.e1 i) ∧ q.i ≤ q.C
theorem roundS2 (n0 : Nat) (q : XS2) (hq : PhiS2 n0 q) : ((sx ESe [] n0 (loopOf P 5 28) (mkS 246 [2,3,4,16,17,19,22,23,24,202,203,204] (VS2 q).1, (VS2 q).2)).bind (proj 246 [2,3,4,16,17,19,22,23,24,202,203,204])).All fun r => match r.1 with
      | .normal => ∃ q', PhiS2 n0 q' ∧ q'.C - q'.i < q.C - q.i ∧ Wk 246 [2,3,4,16,17,19,22,23,24,202,203,204] n0 r.2 (VS2 q') ∧ ∀ o, o = OS2 → o = OS2
      | e => ∃ s, (e, s) = OS2 ∧ Wk 246 [2,3,4,16,17,19,22,23,24,202,203,204] n0 r.2 s := by
  obtain ⟨n, f, k, s, h, m, e, n1, f1, k1, s1, h1, m1, e1, c0, c1, c2, C, H, i⟩ := q
  obtain ⟨⟨h0, hm, hm1, hC, hH⟩, hi⟩ := hq
  have h0 : n0 = 0 := h0
  have hm : m ≤ 5000 := hm
  have hm1 : m1 ≤ 5000 := hm1
  have hC : C = m + m1 := hC
  have hH : ∀ i, i < C → H i = U.cat m e e1 i := hH
  have hi : i ≤ C := hi
  subst h0
  refine T.all_of_eq (t_S2 n f k s h m e n1 f1 k1 s1 h1 m1 e1 c0 c1 c2 (mgN 82 m e m1 e1) (mgF 82 m e m1 e1) (mgN 83 m e m1 e1) (mgF 83 m e m1 e1) (mgN 84 m e m1 e1) (mgF 84 m e m1 e1) C H (i : Int)) ?_
  by_cases hlt : i < C
  · rw [add1p (j := i) (by omega), tnH]
    have l0 : mgN 82 m e m1 e1 ≤ 100000 := by have := mgN_le (m := m) (e := e) (m1 := m1) (e1 := e1) 82; omega
    have l1 : mgN 83 m e m1 e1 ≤ 100000 := by have := mgN_le (m := m) (e := e) (m1 := m1) (e1 := e1) 83; omega
    have l2 : mgN 84 m e m1 e1 ≤ 100000 := by have := mgN_le (m := m) (e := e) (m1 := m1) (e1 := e1) 84; omega
    have hAB : bsB m e (H i).1 = true ∨ bsB m1 e1 (H i).1 = true := by
      rw [hH i hlt, U.cat_eq]
      by_cases hb : i < m
      · exact .inl (bsB_t.2 ⟨i, hb, by rw [if_pos hb]; rfl⟩)
      · exact .inr (bsB_t.2 ⟨i - m, by omega, by rw [if_neg hb]; rfl⟩)
    have b0 := bsB_mg (g := 82) (m := m) (e := e) (m1 := m1) (e1 := e1) (p := (H i).1)
    have b1 := bsB_mg (g := 83) (m := m) (e := e) (m1 := m1) (e1 := e1) (p := (H i).1)
    have b2 := bsB_mg (g := 84) (m := m) (e := e) (m1 := m1) (e1 := e1) (p := (H i).1)
    rw [tk82] at b0; rw [tk83] at b1; rw [tk84] at b2
    simp only [lk_eq]
    rw [b0, b1, b2]
    have nxt : ∀ {vs : List SV}, RlL [some 0, some 1, none, none, none, some 5, some 6, some 7] vs (slS2 C H ((i + 1 : Nat) : Int)) → ∃ q', PhiS2 0 q' ∧ q'.C - q'.i < C - i ∧ Wk 246 [2,3,4,16,17,19,22,23,24,202,203,204] 0 (vs, memS2 n f k s h m e n1 f1 k1 s1 h1 m1 e1 c0 c1 c2 (mgN 82 m e m1 e1) (mgF 82 m e m1 e1) (mgN 83 m e m1 e1) (mgF 83 m e m1 e1) (mgN 84 m e m1 e1) (mgF 84 m e m1 e1)) (VS2 q') ∧ ∀ o, o = OS2 → o = OS2 := fun hv =>
      ⟨⟨n, f, k, s, h, m, e, n1, f1, k1, s1, h1, m1, e1, c0, c1, c2, C, H, i + 1⟩, ⟨⟨rfl, hm, hm1, hC, hH⟩, hlt⟩, (show C - (i + 1) < C - i by omega), wk_of [some 0, some 1, none, none, none, some 5, some 6, some 7] rfl (Nat.zero_le _) (ren1z _) hv ⟨⟨rfl, bx_rl⟩, ⟨rfl, bx_rl⟩, ⟨rfl, bx_rl⟩, ⟨rfl, bx_rl⟩, ⟨rfl, bx_rl⟩, trivial⟩, fun o ho => ho⟩
    have sl : ∀ {v1 v2 v3 : SV}, RlL [some 0, some 1, none, none, none, some 5, some 6, some 7] [.ptr 0 0, .ptr 1 0, .any, .ptr 5 0, .ptr 6 0, .ptr 7 0, v1, v2, v3, .row [.int .i64] C H, .lit (.int .i64 (C : Int)), .lit (.int .i64 ((i + 1 : Nat) : Int))] (slS2 C H ((i + 1 : Nat) : Int)) := ⟨⟨rfl, rfl⟩, ⟨rfl, rfl⟩, rl_any _, ⟨rfl, rfl⟩, ⟨rfl, rfl⟩, ⟨rfl, rfl⟩, rl_any _, rl_any _, rl_any _, ⟨rfl, row1H fun _ _ => rfl⟩, rfl, rfl, trivial⟩
    generalize bsB m e (H i).1 = A at hAB ⊢
    generalize bsB m1 e1 (H i).1 = B at hAB ⊢
    refine ⟨fun _ => ⟨⟨by omega, by omega⟩, by omega, by omega, l0, ?_⟩, fun b => absurd (U.lt_f.mp b) (by simp only [Int.ofNat_eq_natCast]; omega)⟩
    have D : ∀ {P : Prop} {x y : Bool}, x ≠ y → x = y → P := fun h g => absurd g h
    cases A <;> cases B
    · exact absurd hAB (by decide)
    · simp only [U.not_eq, U.beq_eq]
      exact ⟨D (by decide), fun _ => ⟨l1, D (by decide), fun _ => ⟨D (by decide), fun _ => ⟨l2, D (by decide), fun _ => ⟨D (by decide), fun _ => nxt sl⟩⟩⟩⟩⟩
    · simp only [U.not_eq, U.beq_eq]
      exact ⟨D (by decide), fun _ => ⟨l1, fun _ => ⟨D (by decide), fun _ => ⟨l2, fun _ => ⟨D (by decide), fun _ => nxt sl⟩, D (by decide)⟩⟩, D (by decide)⟩⟩
    · simp only [U.not_eq, U.beq_eq]
      exact ⟨D (by decide), fun _ => ⟨l1, fun _ => ⟨D (by decide), fun _ => ⟨l2, fun _ => ⟨D (by decide), fun _ => nxt sl⟩, D (by decide)⟩⟩, D (by decide)⟩⟩
  · obtain rfl : i = C := by omega
    refine ⟨fun b => absurd (U.lt_t.mp b) (by simp only [Int.ofNat_eq_natCast]; omega), fun _ => ⟨_, rfl, ?_⟩⟩
    exact wk_of [none, none, none, none, none, none, none, none, none] rfl (Nat.zero_le _) (ren1z _) ⟨rl_any _, rl_any _, rl_any _, rl_any _, rl_any _, rl_any _, rl_any _, rl_any _, rl_any _, rl_any _, rl_any _, rl_any _, trivial⟩ trivial
theorem loopS2' : LoopOK P (loopOf P 5 28) (few 246 [2,3,4,16,17,19,22,23,24,202,203,204] gS2') :=
  loop_few (E := ESe) mixed ESe_ok loopsOK_none 246 [2,3,4,16,17,19,22,23,24,202,203,204] (X := XS2) gS2' (fun _ x => VS2 x) PhiS2 (fun q => q.C - q.i) (fun _ x o => o = OS2)
    (fun n0 st r hh => by
      unfold gS2' at hh
      split at hh
      · rename_i n0 p0 q0 p1 q1 a1 p5 q5 p6 q6 p7 q7 a2 a3 a4 C H C' z M
        obtain ⟨rfl, rfl, rfl, rfl, rfl, rfl, rfl, rfl, rfl, rfl, rfl⟩ := (T.is_ask hh).1
        have hh := (T.is_ask hh).2
        unfold gS2m at hh
        split at hh
        · rename_i w0 x0 t0 w1 x1 t1 b2 b3 b4 w5 x5 t5 w6 x6 t6 w7 x7 t7 b8
          split at hh
          · rename_i d0 m e d1 m1 e1 z0 z1
            split at hh
            · rename_i d5 N0 G0 d6 N1 G1 d7 N2 G2 z5 z6 z7
              obtain rfl := asSp_eq z0
              obtain rfl := asSp_eq z1
              obtain rfl := asSp_eq z5
              obtain rfl := asSp_eq z6
              obtain rfl := asSp_eq z7
              obtain ⟨hp, rfl, rfl, rfl, rfl, rfl⟩ := (T.is_ask hh).1
              obtain rfl := T.is_ret (T.is_ask hh).2
              rw [lk_eq] at hp
              obtain ⟨h0, hm, hm1, rfl, rfl, rfl, rfl, rfl, rfl, hC, rfl, hH⟩ := hp
              subst h0
              refine ⟨⟨d0.n, d0.f, d0.k, d0.s, d0.h, m, e, d1.n, d1.f, d1.k, d1.s, d1.h, m1, e1, d5, d6, d7, C, H, 0⟩, ⟨⟨rfl, hm, hm1, hC, hH⟩, Nat.zero_le _⟩, ?_, fun o ho => ho⟩
              exact wk_of [some 0, some 1, none, none, none, some 5, some 6, some 7] rfl (Nat.zero_le _) (ren1z _) ⟨⟨rfl, rfl⟩, ⟨rfl, rfl⟩, rl_any _, ⟨rfl, rfl⟩, ⟨rfl, rfl⟩, ⟨rfl, rfl⟩, rl_any _, rl_any _, rl_any _, ⟨rfl, row1H fun _ _ => rfl⟩, rfl, rfl, trivial⟩ ⟨⟨rfl, bx_rl⟩, ⟨rfl, bx_rl⟩, ⟨rfl, bx_rl⟩, ⟨rfl, bx_rl⟩, ⟨rfl, bx_rl⟩, trivial⟩
            · exact hh.elim
          · exact hh.elim
        · exact hh.elim
      · exact hh.elim)
    roundS2
theorem lSt_ok : ∀ p ∈ lSt, LoopsOK P p.2 (bodyOf P p.1) := by
  intro p hp
  simp only [lSt, List.mem_singleton] at hp
  subst hp
  refine loopsOK_of (by kernel_rfl) fun k g hk => ?_
  simp only [List.mem_cons, List.not_mem_nil, or_false, Prod.mk.injEq, LoopC.sum.injEq] at hk
  rcases hk with ⟨rfl, rfl⟩ | ⟨rfl, rfl⟩
  · exact loopS1'
  · exact loopS2'
noncomputable def c_IrregularSets : Con := fun args => match args with
  | [.agg [.row [.int .i64, .int .i64, .int .i64] n f, .lit (.int .i64 k), .lit (.int .i64 s), .lit (.int .i64 h), .row [.int .i64] m e], .agg [.row [.int .i64, .int .i64, .int .i64] n1 f1, .lit (.int .i64 k1), .lit (.int .i64 s1), .lit (.int .i64 h1), .row [.int .i64] m1 e1]] => .ask (Row64 n f ∧ Row64 n1 f1) (.ret (.lit (.bool true)))
  | _ => .stuck 1
theorem IrregularSets_ok : ConOK P 5 c_IrregularSets := con_of (allOKL mixed kSe_ok lSt_ok) 10 5 fun args r hh => by
  unfold c_IrregularSets at hh
  split at hh
  · rename_i n f k s h m e n1 f1 k1 s1 h1 m1 e1
    obtain ⟨hp, hp1⟩ := (T.is_ask hh).1
    obtain rfl := T.is_ret (T.is_ask hh).2
    refine T.all_of_eq (t_ISets n f k s h m e n1 f1 k1 s1 h1 m1 e1) ?_
    simp only [lk_eq]
    refine ⟨hp, fun a => rfl, fun a => ⟨hp1, fun b => rfl, fun b => ⟨hp, fun g1 => rfl, fun g1 => ⟨hp1, fun g2 => rfl, fun g2 => ?_⟩⟩⟩⟩
    obtain ⟨hn, hm, _⟩ := fw_is (U.not_f.mp a)
    obtain ⟨hn1, hm1, _⟩ := fw_is (U.not_f.mp b)
    have g1 := U.ne_f.mp g1
    have g2 := U.ne_f.mp g2
    obtain ⟨o1, o2, o3⟩ := ix_of g1
    simp only [g1, zn_0, o1, zi_0, o2]
    rw [smB_ext (fun _ _ => rfl) o3]
    refine ⟨hp, fun x => absurd rfl (U.ne_t.mp x), fun _ => ⟨fun x => absurd rfl (U.ne_t.mp x), fun _ => ⟨⟨⟨rfl, hp, g1, rfl, rfl, rfl⟩, trivial, trivial, trivial, trivial, trivial, trivial, trivial, trivial, trivial, trivial, trivial, trivial, trivial, trivial, trivial, trivial, trivial⟩, hp, fun x => absurd rfl (U.ne_t.mp x), fun _ => ⟨⟨by show n ≤ 9223372036854775807; omega, by show m ≤ 9223372036854775807; omega⟩, fun x => absurd (U.not_t.mp x) (by decide), fun _ => ⟨⟨hp, hp1⟩, ⟨hp, hp1⟩, ⟨hp, hp1⟩, fun x => absurd (pa_same (by omega) (by omega)) (U.ne_t.mp x), fun _ => ⟨fun x => absurd (pa_same (by omega) (by omega)) (U.ne_t.mp x), fun _ => ?_⟩⟩⟩⟩⟩⟩
    rcases pa_or (g := 82) g1 g2 (by omega) (by omega) with h5 | ⟨z0, hb⟩
    · rw [h5]
      exact ⟨fun _ => ⟨fun _ => rfl, fun x => absurd rfl (U.eq_f.mp x)⟩, fun x => absurd (U.ne_f.mp x) (by decide)⟩
    · have z1 : paE 83 n f k s h m e n1 f1 k1 s1 h1 m1 e1 = 0 := (pa_same (by omega) (by omega)).trans z0
      have z2 : paE 84 n f k s h m e n1 f1 k1 s1 h1 m1 e1 = 0 := (pa_same (by omega) (by omega)).trans z0
      have r0 := pa_right 82 g1 g2 hb (by omega) (by omega)
      have r1 := pa_right 83 g1 g2 hb (by omega) (by omega)
      have r2 := pa_right 84 g1 g2 hb (by omega) (by omega)
      have sA1 := asc_nl (sp_bs g1).1
      have sB1 := asc_nl (sp_bs g2).1
      have e1' := len_1 sA1 sB1
      have e2' := len_2 sA1 sB1
      rw [nl_len, nl_len] at e1'
      rw [nl_len] at e2'
      have e1' : mgN 82 m e m1 e1 + mgN 83 m e m1 e1 = m + m1 := e1'
      have e2' : mgN 83 m e m1 e1 + mgN 84 m e m1 e1 = m := e2'
      simp only [z0, z1, z2, zn_0, zi_0, r0, r1, r2, Int.ofNat_eq_natCast]
      have a1 : U.add .i64 (mgN 82 m e m1 e1 : Int) (mgN 83 m e m1 e1 : Int) = ((m + m1 : Nat) : Int) := by rw [U.add64 (by unfold I64; omega)]; omega
      have a2 : U.add .i64 (m : Int) (m1 : Int) = ((m + m1 : Nat) : Int) := by rw [U.add64 (by unfold I64; omega)]; omega
      have a3 : U.add .i64 (mgN 83 m e m1 e1 : Int) (mgN 84 m e m1 e1 : Int) = (m : Int) := by rw [U.add64 (by unfold I64; omega)]; omega
      rw [a1, a2, a3]
      refine ⟨fun x => absurd rfl (U.ne_t.mp x), fun _ => ⟨hp, fun x => absurd rfl (U.ne_t.mp x), fun _ => ⟨hp, fun x => absurd rfl (U.ne_t.mp x), fun _ => ⟨hp, fun x => absurd rfl (U.ne_t.mp x), fun _ => ⟨fun x => absurd rfl (U.ne_t.mp x), fun _ => ⟨fun x => absurd rfl (U.ne_t.mp x), fun _ => ⟨⟨by omega, by omega⟩, ⟨trivial, trivial, trivial, trivial, trivial, trivial, trivial, trivial, trivial, trivial, trivial⟩, ⟨⟨rfl, by omega, by omega, rfl, rfl, rfl, rfl, rfl, rfl, rfl, rfl, fun i hi => rfl⟩, trivial, trivial, trivial, trivial, trivial⟩, rfl⟩⟩⟩⟩⟩⟩⟩
  · exact hh.elim
end Go.RX.Span

