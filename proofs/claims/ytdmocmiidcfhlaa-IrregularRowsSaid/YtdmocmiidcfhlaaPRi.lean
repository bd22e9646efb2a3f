/- Sparse domains: the reference's ByRows: the walks. -/
import Derived.Test.YtdmocmiidcfhlaaPRh
set_option linter.unusedVariables false
set_option linter.unusedSimpArgs false
set_option maxRecDepth 100000
namespace Go.RX.Span
open Go Go.RX
attribute [local irreducible] sx conB

--%R < ↑(\w)\b => < ((\1 : Nat) : Int)
set_option maxRecDepth 100000 in
theorem t_Qi (n : Nat) (f : Nat → R3) (k s h : Int) (m : Nat) (e : Nat → R1) (R C r i : Int) (v : Bool) (S : Nat) (H : Nat → R1) (u : Bool) (N : Nat) (G : Nat → R1) : (sx EBr [] 0 (loopOf P 13 13) (mkS 79 [1,2,3,5,6,7,8,9] (slQi R C r i), memQ n f k s h m e v S H u N G)).bind (proj 79 [1,2,3,5,6,7,8,9]) =
    T.br (U.lt i (Int.ofNat m)) (.ask ((0 : Int) ≤ i ∧ i < ((m : Nat) : Int)) (.ask (C ≠ (0 : Int)) (.br (U.eq (U.quo .i64 (e (U.toNat i)).1 C) r) (.ask ((0 : Int) ≤ i ∧ i < ((m : Nat)
      : Int)) (.ask (C ≠ (0 : Int)) (.ask ((N + (1 : Nat)) * nat_lit 8 ≤ nat_lit 140737488351232) (.ret (Ex.normal, [SV.ptr (nat_lit 0) (nat_lit 0), SV.ptr (nat_lit 1) (nat_lit 0),
      SV.any, .lit (.int .i64 R), .lit (.int .i64 C), SV.ptr (nat_lit 2) (nat_lit 0), .lit (.int .i64 r), .lit (.int .i64 (U.add .i64 i (1 : Int)))], [(nat_lit 0, some (Blk.cells [.row
      [.int .i64, .int .i64, .int .i64] n f, .lit (.int .i64 k), .lit (.int .i64 s), .lit (.int .i64 h), .row [.int .i64] m e] (nat_lit 29))), (nat_lit 0, some (Blk.cells [.lit (.slice
      none (nat_lit 0) (nat_lit 0)), .lit (.slice none (nat_lit 0) (nat_lit 0))] (nat_lit 31))), (nat_lit 1, some (Blk.cells [SV.own v (nat_lit 3) S, SV.own false (nat_lit 6) (N.add
      (nat_lit 1))] (nat_lit 31))), (nat_lit 0, some (Blk.row v S [.int .i64] H (nat_lit 3))), (nat_lit 1, none), (nat_lit 0, some (Blk.cells [.lit (.int .i64 (U.rem (e (U.toNat i)).1
      C))] (nat_lit 3))), (nat_lit 0, some (Blk.row false (N.add (nat_lit 1)) [.int .i64] (U.cat N G fun x => (U.rem (e (U.toNat i)).1 C, PUnit.unit)) (nat_lit 3)))]))))) (.ret
      (Ex.normal, [SV.ptr (nat_lit 0) (nat_lit 0), SV.ptr (nat_lit 1) (nat_lit 0), SV.any, .lit (.int .i64 R), .lit (.int .i64 C), SV.ptr (nat_lit 2) (nat_lit 0), .lit (.int .i64 r), .lit
      (.int .i64 (U.add .i64 i (1 : Int)))], [(nat_lit 0, some (Blk.cells [.row [.int .i64, .int .i64, .int .i64] n f, .lit (.int .i64 k), .lit (.int .i64 s), .lit (.int .i64 h), .row
      [.int .i64] m e] (nat_lit 29))), (nat_lit 0, some (Blk.cells [.lit (.slice none (nat_lit 0) (nat_lit 0)), .lit (.slice none (nat_lit 0) (nat_lit 0))] (nat_lit 31))), (nat_lit 0,
      some (Blk.cells [SV.own v (nat_lit 3) S, SV.own u (nat_lit 4) N] (nat_lit 31))), (nat_lit 0, some (Blk.row v S [.int .i64] H (nat_lit 3))), (nat_lit 0, some (Blk.row u N [.int .i64]
      G (nat_lit 3)))]))))) (.ret (Ex.exit (nat_lit 2), [SV.ptr (nat_lit 0) (nat_lit 0), SV.ptr (nat_lit 1) (nat_lit 0), SV.any, .lit (.int .i64 R), .lit (.int .i64 C), SV.ptr (nat_lit 2)
      (nat_lit 0), .lit (.int .i64 r), .lit (.int .i64 i)], [(nat_lit 0, some (Blk.cells [.row [.int .i64, .int .i64, .int .i64] n f, .lit (.int .i64 k), .lit (.int .i64 s), .lit (.int
      .i64 h), .row [.int .i64] m e] (nat_lit 29))), (nat_lit 0, some (Blk.cells [.lit (.slice none (nat_lit 0) (nat_lit 0)), .lit (.slice none (nat_lit 0) (nat_lit 0))] (nat_lit 31))),
      (nat_lit 0, some (Blk.cells [SV.own v (nat_lit 3) S, SV.own u (nat_lit 4) N] (nat_lit 31))), (nat_lit 0, some (Blk.row v S [.int .i64] H (nat_lit 3))), (nat_lit 0, some (Blk.row u N
      [.int .i64] G (nat_lit 3)))])) := by kernel_rfl
set_option maxRecDepth 100000 in
theorem t_Qo (n : Nat) (f : Nat → R3) (k s h : Int) (m : Nat) (e : Nat → R1) (R C r : Int) (v : Bool) (S : Nat) (H : Nat → R1) (u : Bool) (N : Nat) (G : Nat → R1) : (sx EBr LQi 0 (loopOf P 13 9) (mkS 79 [1,2,3,5,6,7,8] (slQo R C r), memQ n f k s h m e v S H u N G)).bind (proj 79 [1,2,3,5,6,7,8]) =
    T.br (U.lt r R) (.ask ((S + (1 : Nat)) * nat_lit 8 ≤ nat_lit 140737488351232) (.ask (lk PreQi (0 : Nat) R C m e r u N G ∧ (0 : Nat) = (0 : Nat) ∧ (0 : Nat) = (0 : Nat) ∧ (1 : Nat) =
      (1 : Nat) ∧ (0 : Nat) = (0 : Nat) ∧ (2 : Nat) = (2 : Nat) ∧ (0 : Nat) = (0 : Nat) ∧ (0 : Int) = (0 : Int) ∧ (29 : TypeId) = (29 : TypeId) ∧ [.lit (.slice none (0 : Nat) (0 : Nat)),
      .lit (.slice none (0 : Nat) (0 : Nat))] = nn2 ∧ (31 : TypeId) = (31 : TypeId) ∧ (6 : Nat) = (6 : Nat) ∧ (4 : Nat) = (4 : Nat) ∧ (31 : TypeId) = (31 : TypeId) ∧ u = u ∧ N = N ∧ (3 :
      TypeId) = (3 : TypeId) ∧ false = false ∧ S + (1 : Nat) = S + (1 : Nat) ∧ (3 : Nat) = (3 : TypeId)) (.ret (Ex.normal, [SV.ptr (nat_lit 0) (nat_lit 0), SV.ptr (nat_lit 1) (nat_lit 0),
      SV.any, .lit (.int .i64 R), .lit (.int .i64 C), SV.ptr (nat_lit 2) (nat_lit 0), .lit (.int .i64 (U.add .i64 r (1 : Int)))], [(nat_lit 1, some (Blk.cells [.row [.int .i64, .int .i64,
      .int .i64] n f, .lit (.int .i64 k), .lit (.int .i64 s), .lit (.int .i64 h), .row [.int .i64] m e] (nat_lit 29))), (nat_lit 1, some (Blk.cells [.lit (.slice none (nat_lit 0) (nat_lit
      0)), .lit (.slice none (nat_lit 0) (nat_lit 0))] (nat_lit 31))), (nat_lit 2, some (Blk.cells [SV.own false (nat_lit 3) (S.add (nat_lit 1)), SV.own (U.isz (lk rwP C m e ((U.toNat
      r).add (nat_lit 1)))) (nat_lit 4) (lk rwP C m e ((U.toNat r).add (nat_lit 1)))] (nat_lit 31))), (nat_lit 2, some (Blk.row false (S.add (nat_lit 1)) [.int .i64] (U.cat S H fun x =>
      (Int.ofNat N, PUnit.unit)) (nat_lit 3))), (nat_lit 1, some (Blk.row (U.isz (lk rwP C m e ((U.toNat r).add (nat_lit 1)))) (lk rwP C m e ((U.toNat r).add (nat_lit 1))) [.int .i64] (lk
      coF C e) (nat_lit 3))), (nat_lit 1, none), (nat_lit 1, none)])))) (.ret (Ex.exit (nat_lit 0), [SV.ptr (nat_lit 0) (nat_lit 0), SV.ptr (nat_lit 1) (nat_lit 0), SV.any, .lit (.int
      .i64 R), .lit (.int .i64 C), SV.ptr (nat_lit 2) (nat_lit 0), .lit (.int .i64 r)], [(nat_lit 0, some (Blk.cells [.row [.int .i64, .int .i64, .int .i64] n f, .lit (.int .i64 k), .lit
      (.int .i64 s), .lit (.int .i64 h), .row [.int .i64] m e] (nat_lit 29))), (nat_lit 0, some (Blk.cells [.lit (.slice none (nat_lit 0) (nat_lit 0)), .lit (.slice none (nat_lit 0)
      (nat_lit 0))] (nat_lit 31))), (nat_lit 0, some (Blk.cells [SV.own v (nat_lit 3) S, SV.own u (nat_lit 4) N] (nat_lit 31))), (nat_lit 0, some (Blk.row v S [.int .i64] H (nat_lit 3))),
      (nat_lit 0, some (Blk.row u N [.int .i64] G (nat_lit 3)))])) := by kernel_rfl
set_option maxRecDepth 100000 in
theorem t_ByQ (n : Nat) (f : Nat → R3) (k s h : Int) (m : Nat) (e : Nat → R1) : conB Go.Proofs.Try.prog (conOf kBr) (loopsOf lQo) 10 13 [.agg [.row [.int .i64, .int .i64, .int .i64] n f, .lit (.int .i64 k), .lit (.int .i64 s), .lit (.int .i64 h), .row [.int .i64] m e]] =
    T.ask (Row64 n f) (.br (U.ne (lk spE n f k s h m e) (0 : Int)) (.ret (.tup [.agg [.lit (.slice none (nat_lit 0) (nat_lit 0)), .lit (.slice none (nat_lit 0) (nat_lit 0))], .lit (.int
      .i64 (lk spE n f k s h m e))])) (.br (U.ne (Int.ofNat n) (2 : Int)) (.ret (.tup [.agg [.lit (.slice none (nat_lit 0) (nat_lit 0)), .lit (.slice none (nat_lit 0) (nat_lit 0))], .lit
      (.int .i64 50)])) (.ask ((0 : Int) ≤ (0 : Int) ∧ (0 : Int) < ((n : Nat) : Int)) (.ask (I64 (f (U.toNat (0 : Int))).1 ∧ I64 (f (U.toNat (0 : Int))).2.1 ∧ I64 (f (U.toNat (0 :
      Int))).2.2.1) (.ask ((0 : Int) ≤ (1 : Int) ∧ (1 : Int) < ((n : Nat) : Int)) (.ask (I64 (f (U.toNat (1 : Int))).1 ∧ I64 (f (U.toNat (1 : Int))).2.1 ∧ I64 (f (U.toNat (1 :
      Int))).2.2.1) (.ask (lk PreTp (nat_lit 0) (lk size (f (U.toNat (0 : Int))).1 (f (U.toNat (0 : Int))).2.1 (f (U.toNat (0 : Int))).2.2.1) (lk size (f (U.toNat (1 : Int))).1 (f
      (U.toNat (1 : Int))).2.1 (f (U.toNat (1 : Int))).2.2.1) m e ∧ (0 : Nat) = (0 : Nat) ∧ (0 : Nat) = (0 : Nat) ∧ (1 : Nat) = (1 : Nat) ∧ (0 : Nat) = (0 : Nat) ∧ (3 : Nat) = (3 : Nat) ∧
      (0 : Nat) = (0 : Nat) ∧ (0 : Int) = (0 : Int) ∧ (29 : Nat) = (29 : TypeId) ∧ [.lit (.slice none (0 : Nat) (0 : Nat)), .lit (.slice none (0 : Nat) (0 : Nat))] = nn2 ∧ (31 : Nat) =
      (31 : TypeId) ∧ [.lit (.slice none (0 : Nat) (0 : Nat)), .lit (.slice none (0 : Nat) (0 : Nat))] = nn2 ∧ (31 : Nat) = (31 : TypeId)) (.ask ((lk Int.toNat (lk size (f (U.toNat (0 :
      Int))).1 (f (U.toNat (0 : Int))).2.1 (f (U.toNat (0 : Int))).2.2.1) + (1 : Nat)) * nat_lit 8 ≤ nat_lit 140737488351232) (.ret (.tup [.agg [.row [.int .i64] ((lk Int.toNat (lk size
      (f (U.toNat (0 : Int))).1 (f (U.toNat (0 : Int))).2.1 (f (U.toNat (0 : Int))).2.2.1)).add (nat_lit 1)) (U.cat (lk Int.toNat (lk size (f (U.toNat (0 : Int))).1 (f (U.toNat (0 :
      Int))).2.1 (f (U.toNat (0 : Int))).2.2.1)) (lk stF (lk size (f (U.toNat (1 : Int))).1 (f (U.toNat (1 : Int))).2.1 (f (U.toNat (1 : Int))).2.2.1) m e) fun x => (Int.ofNat (lk rwP (lk
      size (f (U.toNat (1 : Int))).1 (f (U.toNat (1 : Int))).2.1 (f (U.toNat (1 : Int))).2.2.1) m e (lk Int.toNat (lk size (f (U.toNat (0 : Int))).1 (f (U.toNat (0 : Int))).2.1 (f
      (U.toNat (0 : Int))).2.2.1))), PUnit.unit)), .row [.int .i64] (lk rwP (lk size (f (U.toNat (1 : Int))).1 (f (U.toNat (1 : Int))).2.1 (f (U.toNat (1 : Int))).2.2.1) m e (lk Int.toNat
      (lk size (f (U.toNat (0 : Int))).1 (f (U.toNat (0 : Int))).2.1 (f (U.toNat (0 : Int))).2.2.1))) (lk coF (lk size (f (U.toNat (1 : Int))).1 (f (U.toNat (1 : Int))).2.1 (f (U.toNat (1
      : Int))).2.2.1) e)], .lit (.int .i64 0)])))))))))) := by kernel_rfl
end Go.RX.Span

/- Sparse domains: the reference's ByRows. -/
set_option linter.unusedVariables false
set_option linter.unusedSimpArgs false
set_option maxRecDepth 100000
namespace Go.RX.Span
open Go Go.RX
attribute [local irreducible] sx conB

theorem div_row {R C : Int} {m : Nat} {e : Nat → R1} (ha : AscR m e) (hC : 0 < C) {r i : Nat} (hi : i < m) : nv e i / C = (r : Int) ↔ rwP C m e r ≤ i ∧ i < rwP C m e (r + 1) := by
  obtain ⟨a1, a2, a3⟩ := bs_spec ha.1 ((r : Int) * C)
  obtain ⟨b1, b2, b3⟩ := bs_spec ha.1 (((r + 1 : Nat) : Int) * C)
  have p0 : rwP C m e r = bsI m e ((r : Int) * C) := rfl
  have p1 : rwP C m e (r + 1) = bsI m e (((r + 1 : Nat) : Int) * C) := rfl
  rw [p0, p1]
  have e1 : (r : Int) ≤ nv e i / C ↔ (r : Int) * C ≤ nv e i := Int.le_ediv_iff_mul_le hC
  have e2 : nv e i / C < ((r + 1 : Nat) : Int) ↔ nv e i < ((r + 1 : Nat) : Int) * C := Int.ediv_lt_iff_lt_mul hC
  constructor
  · intro h
    have h1 := e1.1 (by omega)
    have h2 := e2.1 (by omega)
    constructor
    · rcases Nat.lt_or_ge i (bsI m e ((r : Int) * C)) with g | g
      · have := a2 i g; omega
      · exact g
    · rcases Nat.lt_or_ge i (bsI m e (((r + 1 : Nat) : Int) * C)) with g | g
      · exact g
      · have := b3 i g hi; omega
  · rintro ⟨h1, h2⟩
    have x := e1.2 (a3 i h1 hi)
    have y := e2.2 (b2 i h2)
    omega
structure XQi where
  (n : Nat) (f : Nat → R3) (k s h : Int) (m : Nat) (e : Nat → R1) (R C : Int) (r : Nat) (v : Bool) (S : Nat) (H : Nat → R1) (i : Nat)
noncomputable abbrev VQi (q : XQi) : Few := (slQi q.R q.C q.r q.i, memQ q.n q.f q.k q.s q.h q.m q.e q.v q.S q.H (U.isz (cnB q.C q.m q.e q.r q.i)) (cnB q.C q.m q.e q.r q.i) (coF q.C q.e))
noncomputable def OQi (q : XQi) : Ex × Few := (.exit 2, (slQi q.R q.C q.r q.m, memQ q.n q.f q.k q.s q.h q.m q.e q.v q.S q.H (U.isz (rwP q.C q.m q.e (q.r + 1))) (rwP q.C q.m q.e (q.r + 1)) (coF q.C q.e) ++ [(0, none), (0, none)]))
def PhiQi (n0 : Nat) (q : XQi) : Prop := PreTp n0 q.R q.C q.m q.e ∧ (q.r : Int) < q.R ∧ q.i ≤ q.m
theorem nn_rl {ρ : Ren} : RlL ρ nn2 nn2 := ⟨rfl, rfl, trivial⟩
theorem oo_rl {ρ : Ren} {v v' u u' : Bool} {a a' b b' S S' N N' : Nat} (ha : ρ.of a' = some a) (hb : ρ.of b' = some b) (hv : v = v') (hS : S = S') (hu : u = u') (hN : N = N') : RlL ρ [.own v a S, .own u b N] [.own v' a' S', .own u' b' N'] := ⟨⟨hv, hS, ha⟩, ⟨hu, hN, hb⟩, trivial⟩
theorem slQi_rl {ρ : Ren} {R C r i : Int} (h0 : ρ.of 0 = some 0) (h1 : ρ.of 1 = some 1) (h2 : ρ.of 2 = some 2) : RlL ρ (slQi R C r i) (slQi R C r i) := ⟨⟨h0, rfl⟩, ⟨h1, rfl⟩, rl_any _, rfl, rfl, ⟨h2, rfl⟩, rfl, rfl, trivial⟩
theorem roundQi (n0 : Nat) (q : XQi) (hq : PhiQi n0 q) : ((sx EBr [] n0 (loopOf P 13 13) (mkS 79 [1,2,3,5,6,7,8,9] (VQi q).1, (VQi q).2)).bind (proj 79 [1,2,3,5,6,7,8,9])).All fun r => match r.1 with
      | .normal => ∃ q', PhiQi n0 q' ∧ q'.m - q'.i < q.m - q.i ∧ Wk 79 [1,2,3,5,6,7,8,9] n0 r.2 (VQi q') ∧ ∀ o, o = OQi q' → o = OQi q
      | e => ∃ s, (e, s) = OQi q ∧ Wk 79 [1,2,3,5,6,7,8,9] n0 r.2 s := by
  obtain ⟨n, f, k, s, h, m, e, R, C, r, v, S, H, i⟩ := q
  obtain ⟨hp, hr, hi⟩ := hq
  have hp : PreTp n0 R C m e := hp
  have hr : (r : Int) < R := hr
  have hi : i ≤ m := hi
  have hp' := hp
  obtain ⟨h0, hm, ⟨R0, R1', C0, C1, ha⟩, hb⟩ := hp'
  subst h0
  have hmo := rwP_mono ha C0 r
  have hle := rwP_le (C := C) ha (r + 1)
  refine T.all_of_eq (t_Qi n f k s h m e R C (r : Int) (i : Int) v S H (U.isz (cnB C m e r i)) (cnB C m e r i) (coF C e)) ?_
  by_cases hlt : i < m
  · rw [add1p (j := i) (by omega), tnH]
    obtain ⟨v0, v1⟩ := ha.2 i hlt
    have hC := cp_of R0 C0 v0 (hb i hlt)
    have eq : U.quo .i64 (e i).1 C = nv e i / C := quo_pos v0 hC (by show nv e i ≤ _; omega)
    have er : U.rem (e i).1 C = nv e i % C := rem_pos v0
    have dr := div_row (R := R) ha hC (r := r) hlt
    have c0 : C ≠ 0 := by omega
    rw [eq, er]
    refine ⟨fun _ => ⟨⟨by omega, by omega⟩, c0, fun g => ?_, fun g => ?_⟩, fun g => absurd (U.lt_f.mp g) (by simp only [Int.ofNat_eq_natCast]; omega)⟩
    · obtain ⟨g1, g2⟩ := dr.1 (U.eq_t.mp g)
      have n1 : cnB C m e r i = i := by unfold cnB; omega
      have n2 : cnB C m e r (i + 1) = i + 1 := by unfold cnB; omega
      rw [n1]
      refine ⟨⟨by omega, by omega⟩, c0, by show (i + 1) * 8 ≤ 140737488351232; omega, ⟨n, f, k, s, h, m, e, R, C, r, v, S, H, i + 1⟩, ⟨hp, hr, hlt⟩, (show m - (i + 1) < m - i by omega), ?_, fun o ho => ho⟩
      show Wk _ _ _ _ (slQi R C r ((i + 1 : Nat) : Int), memQ n f k s h m e v S H (U.isz (cnB C m e r (i + 1))) (cnB C m e r (i + 1)) (coF C e))
      rw [n2]
      refine wk_of [some 0, some 1, some 2, some 3, some 6] rfl (Nat.zero_le _) (ren1z _) (slQi_rl rfl rfl rfl) ⟨⟨rfl, bx_rl⟩, ⟨rfl, nn_rl⟩, ⟨rfl, oo_rl rfl rfl rfl rfl (isz_s i).symm rfl⟩, ⟨rfl, rfl, rfl, row1H fun _ _ => rfl⟩, ⟨rfl, (isz_s i).symm, rfl, row1H fun t ht => ?_⟩, trivial⟩
      refine (U.cat_eq _ _ _ _).trans ?_
      have ht : t < i + 1 := ht
      by_cases h1 : t < i
      · exact if_pos h1
      · obtain rfl : t = i := by omega
        exact if_neg h1
    · have g : ¬ nv e i / C = (r : Int) := U.eq_f.mp g
      have ng : ¬ (rwP C m e r ≤ i ∧ i < rwP C m e (r + 1)) := fun x => g (dr.2 x)
      have n2 : cnB C m e r (i + 1) = cnB C m e r i := by unfold cnB; omega
      refine ⟨⟨n, f, k, s, h, m, e, R, C, r, v, S, H, i + 1⟩, ⟨hp, hr, hlt⟩, (show m - (i + 1) < m - i by omega), ?_, fun o ho => ho⟩
      show Wk _ _ _ _ (slQi R C r ((i + 1 : Nat) : Int), memQ n f k s h m e v S H (U.isz (cnB C m e r (i + 1))) (cnB C m e r (i + 1)) (coF C e))
      rw [n2]
      exact wk_of [some 0, some 1, some 2, some 3, some 4] rfl (Nat.zero_le _) (ren1z _) (slQi_rl rfl rfl rfl) ⟨⟨rfl, bx_rl⟩, ⟨rfl, nn_rl⟩, ⟨rfl, oo_rl rfl rfl rfl rfl rfl rfl⟩, ⟨rfl, rfl, rfl, row1H fun _ _ => rfl⟩, ⟨rfl, rfl, rfl, row1H fun _ _ => rfl⟩, trivial⟩
  · obtain rfl : i = m := by omega
    refine ⟨fun g => absurd (U.lt_t.mp g) (by simp only [Int.ofNat_eq_natCast]; omega), fun _ => ⟨_, rfl, ?_⟩⟩
    have n2 : cnB C i e r i = rwP C i e (r + 1) := by unfold cnB; omega
    rw [n2]
    exact wk_of [some 0, some 1, some 2, some 3, some 4, none, none] rfl (Nat.zero_le _) (ren1z _) (slQi_rl rfl rfl rfl) ⟨⟨rfl, bx_rl⟩, ⟨rfl, nn_rl⟩, ⟨rfl, oo_rl rfl rfl rfl rfl rfl rfl⟩, ⟨rfl, rfl, rfl, row1H fun _ _ => rfl⟩, ⟨rfl, rfl, rfl, row1H fun _ _ => rfl⟩, trivial⟩
theorem loopQi : LoopOK P (loopOf P 13 13) (few 79 [1,2,3,5,6,7,8,9] gQi) :=
  loop_few (E := EBr) mixed EBr_ok loopsOK_none 79 [1,2,3,5,6,7,8,9] (X := XQi) gQi (fun _ x => VQi x) PhiQi (fun q => q.m - q.i) (fun _ x o => o = OQi x)
    (fun n0 st r hh => by
      unfold gQi at hh
      split at hh
      · rename_i n0 p0 q0 p1 q1 s2 R C p2 q2 r z e0 n f k s h m e t0 e1 zs t1 e2 v bS S u bC N t2 e3 e4 u' N' G t4 e5 e6 v' S' H t6
        obtain ⟨hp, rfl, rfl, rfl, rfl, rfl, rfl, rfl, rfl, rfl, rfl, rfl, rfl, rfl, rfl, rfl, rfl, rfl, rfl, rfl⟩ := (T.is_ask hh).1
        obtain rfl := T.is_ret (T.is_ask hh).2
        rw [lk_eq] at hp
        obtain ⟨ht, r0, r1, rfl, rfl, hG⟩ := hp
        have h0 := ht.1
        subst h0
        obtain ⟨rr, rfl⟩ : ∃ rr : Nat, r = (rr : Int) := ⟨r.toNat, by omega⟩
        have n0' : cnB C m e rr 0 = rwP C m e rr := by unfold cnB; omega
        refine ⟨⟨n, f, k, s, h, m, e, R, C, rr, v', S', H, 0⟩, ⟨ht, r1, Nat.zero_le _⟩, ?_, fun o ho => ?_⟩
        · show Wk _ _ _ _ (slQi R C rr ((0 : Nat) : Int), memQ n f k s h m e v' S' H (U.isz (cnB C m e rr 0)) (cnB C m e rr 0) (coF C e))
          rw [n0']
          exact wk_of [some 0, some 1, some 2, some 6, some 4] rfl (Nat.zero_le _) (ren1z _) ⟨⟨rfl, rfl⟩, ⟨rfl, rfl⟩, rl_any _, rfl, rfl, ⟨rfl, rfl⟩, rfl, rfl, trivial⟩ ⟨⟨rfl, bx_rl⟩, ⟨rfl, nn_rl⟩, ⟨rfl, oo_rl rfl rfl rfl rfl rfl rfl⟩, ⟨rfl, rfl, rfl, row1H fun _ _ => rfl⟩, ⟨rfl, rfl, rfl, row1H fun t ht => hG t ht⟩, trivial⟩
        · rw [ho]
          simp only [lk_eq, tnH]; rfl
      · exact hh.elim)
    roundQi
theorem LQi_ok : LoopsOK P LQi (bodyOf P 13) := loopsOK_of (by kernel_rfl) fun k g hk => by
  simp only [List.mem_singleton, Prod.mk.injEq, LoopC.sum.injEq] at hk
  obtain ⟨rfl, rfl⟩ := hk
  exact loopQi
theorem LQi_sub : LoopsOK P LQi (loopOf P 13 9) := LQi_ok.sub (fun l hl => by
  rw [show loopsIn (bodyOf P 13) = loopOf P 13 9 :: loopsIn (loopOf P 13 9) by kernel_rfl]
  exact List.mem_cons_of_mem _ hl) fun l hl => by
  rw [show rangesIn (loopOf P 13 9) = [] by kernel_rfl] at hl; cases hl
structure XQo where
  (n : Nat) (f : Nat → R3) (k s h : Int) (m : Nat) (e : Nat → R1) (R C : Int) (r : Nat)
noncomputable abbrev VQo (q : XQo) : Few := (slQo q.R q.C q.r, memQ q.n q.f q.k q.s q.h q.m q.e (U.isz q.r) q.r (stF q.C q.m q.e) (U.isz (rwP q.C q.m q.e q.r)) (rwP q.C q.m q.e q.r) (coF q.C q.e))
noncomputable def OQo (q : XQo) : Ex × Few := (.exit 0, VQo { q with r := q.R.toNat })
def PhiQo (n0 : Nat) (q : XQo) : Prop := PreTp n0 q.R q.C q.m q.e ∧ (q.r : Int) ≤ q.R
theorem slQo_rl {ρ : Ren} {R C r : Int} (h0 : ρ.of 0 = some 0) (h1 : ρ.of 1 = some 1) (h2 : ρ.of 2 = some 2) : RlL ρ (slQo R C r) (slQo R C r) := ⟨⟨h0, rfl⟩, ⟨h1, rfl⟩, rl_any _, rfl, rfl, ⟨h2, rfl⟩, rfl, trivial⟩
theorem roundQo (n0 : Nat) (q : XQo) (hq : PhiQo n0 q) : ((sx EBr LQi n0 (loopOf P 13 9) (mkS 79 [1,2,3,5,6,7,8] (VQo q).1, (VQo q).2)).bind (proj 79 [1,2,3,5,6,7,8])).All fun r => match r.1 with
      | .normal => ∃ q', PhiQo n0 q' ∧ q'.R.toNat - q'.r < q.R.toNat - q.r ∧ Wk 79 [1,2,3,5,6,7,8] n0 r.2 (VQo q') ∧ ∀ o, o = OQo q' → o = OQo q
      | e => ∃ s, (e, s) = OQo q ∧ Wk 79 [1,2,3,5,6,7,8] n0 r.2 s := by
  obtain ⟨n, f, k, s, h, m, e, R, C, r⟩ := q
  obtain ⟨hp, hr⟩ := hq
  have hp : PreTp n0 R C m e := hp
  have hr : (r : Int) ≤ R := hr
  have hp' := hp
  obtain ⟨h0, hm, ⟨R0, R1', C0, C1, ha⟩, hb⟩ := hp'
  subst h0
  refine T.all_of_eq (t_Qo n f k s h m e R C (r : Int) (U.isz r) r (stF C m e) (U.isz (rwP C m e r)) (rwP C m e r) (coF C e)) ?_
  by_cases hlt : (r : Int) < R
  · have e2 : U.add .i64 (r : Int) 1 = ((r + 1 : Nat) : Int) := by rw [U.add64 (by unfold I64; omega)]; omega
    simp only [lk_eq]
    rw [e2, tnH]
    refine ⟨fun _ => ⟨by show (r + 1) * 8 ≤ 140737488351232; omega, ⟨⟨hp, by omega, hlt, rfl, rfl, fun _ _ => rfl⟩, trivial, trivial, trivial, trivial, trivial, trivial, trivial, trivial, trivial, trivial, trivial, trivial, trivial, trivial, trivial, trivial, trivial, trivial, trivial⟩, ⟨n, f, k, s, h, m, e, R, C, r + 1⟩, ⟨hp, (show ((r + 1 : Nat) : Int) ≤ R by omega)⟩, (show R.toNat - (r + 1) < R.toNat - r by omega), ?_, fun o ho => ho⟩, fun g => absurd (U.lt_f.mp g) (by omega)⟩
    refine wk_of [some 0, some 1, some 2, some 3, some 4] rfl (Nat.zero_le _) (ren1z _) (slQo_rl rfl rfl rfl) ⟨⟨rfl, bx_rl⟩, ⟨rfl, nn_rl⟩, ⟨rfl, oo_rl rfl rfl (isz_s r).symm rfl rfl rfl⟩, ⟨rfl, (isz_s r).symm, rfl, row1H fun t ht => ?_⟩, ⟨rfl, rfl, rfl, row1H fun _ _ => rfl⟩, trivial⟩
    refine (U.cat_eq _ _ _ _).trans ?_
    have ht : t < r + 1 := ht
    by_cases h1 : t < r
    · exact if_pos h1
    · obtain rfl : t = r := by omega
      exact if_neg h1
  · have hR : R = ((r : Nat) : Int) := by omega
    have hR2 : R.toNat = r := by omega
    refine ⟨fun g => absurd (U.lt_t.mp g) hlt, fun _ => ⟨(VQo ⟨n, f, k, s, h, m, e, R, C, r⟩), by unfold OQo; simp only [hR2], ?_⟩⟩
    exact wk_of [some 0, some 1, some 2, some 3, some 4] rfl (Nat.zero_le _) (ren1z _) (slQo_rl rfl rfl rfl) ⟨⟨rfl, bx_rl⟩, ⟨rfl, nn_rl⟩, ⟨rfl, oo_rl rfl rfl rfl rfl rfl rfl⟩, ⟨rfl, rfl, rfl, row1H fun _ _ => rfl⟩, ⟨rfl, rfl, rfl, row1H fun _ _ => rfl⟩, trivial⟩
theorem loopQo : LoopOK P (loopOf P 13 9) (few 79 [1,2,3,5,6,7,8] gQo) :=
  loop_few (E := EBr) mixed EBr_ok LQi_sub 79 [1,2,3,5,6,7,8] (X := XQo) gQo (fun _ x => VQo x) PhiQo (fun q => q.R.toNat - q.r) (fun _ x o => o = OQo x)
    (fun n0 st r hh => by
      unfold gQo at hh
      split at hh
      · rename_i n0 p0 q0 p1 q1 s2 R C p3 q3 z e0 n f k s h m e t0 e1 zs t1 e2 e3 zz t3
        obtain ⟨hp, rfl, rfl, rfl, rfl, rfl, rfl, rfl, rfl, rfl, rfl, rfl, rfl⟩ := (T.is_ask hh).1
        obtain rfl := T.is_ret (T.is_ask hh).2
        rw [lk_eq] at hp
        have h0 := hp.1
        subst h0
        have hp' := hp
        obtain ⟨_, hm, ⟨R0, R1', C0, C1, ha⟩, hb⟩ := hp'
        have zi : U.isz 0 = true := by rw [U.isz_eq]; rfl
        have z : rwP C m e 0 = 0 := rwP_0 ha
        refine ⟨⟨n, f, k, s, h, m, e, R, C, 0⟩, ⟨hp, R0⟩, ?_, fun o ho => ?_⟩
        · show Wk _ _ _ _ (slQo R C ((0 : Nat) : Int), memQ n f k s h m e (U.isz 0) 0 (stF C m e) (U.isz (rwP C m e 0)) (rwP C m e 0) (coF C e))
          rw [z]
          exact wk_of [some 0, some 1, some 3, none, none] rfl (Nat.zero_le _) (ren1z _) ⟨⟨rfl, rfl⟩, ⟨rfl, rfl⟩, rl_any _, rfl, rfl, ⟨rfl, rfl⟩, rfl, trivial⟩ ⟨⟨rfl, bx_rl⟩, ⟨rfl, nn_rl⟩, ⟨rfl, ⟨rfl, zi, rfl⟩, ⟨rfl, zi, rfl⟩, trivial⟩, ⟨zi, rfl⟩, ⟨zi, rfl⟩, trivial⟩
        · rw [ho]
          simp only [lk_eq]
          show (Ex.exit 0, (slQo R C ((R.toNat : Nat) : Int), _)) = _
          rw [Int.toNat_of_nonneg R0]
      · exact hh.elim)
    roundQo
theorem lQo_ok : ∀ p ∈ lQo, LoopsOK P p.2 (bodyOf P p.1) := by
  intro p hp
  simp only [lQo, List.mem_singleton] at hp
  subst hp
  refine loopsOK_of (by kernel_rfl) fun k g hk => ?_
  simp only [List.mem_cons, List.not_mem_nil, or_false, Prod.mk.injEq, LoopC.sum.injEq] at hk
  rcases hk with ⟨rfl, rfl⟩ | ⟨rfl, rfl⟩
  · exact loopQi
  · exact loopQo
theorem QByRows_ok : ConOK P 13 c_ByRows := con_cl (allOKL mixed kBr_ok lQo_ok) 10 13 fun args r hh => by
  unfold c_ByRows at hh
  split at hh
  · rename_i n f k s h m e
    have hp := (T.is_ask hh).1
    obtain rfl := T.is_ret (T.is_ask hh).2
    refine T.all_of_eq (t_ByQ n f k s h m e) ?_
    have tn1' : U.toNat (1 : Int) = 1 := tn 1
    simp only [lk_eq, tn0, tn1', Int.ofNat_eq_natCast]
    refine ⟨hp, fun g => ?_, fun g => ⟨fun g2 => ?_, fun g2 => ?_⟩⟩
    · have g := U.ne_t.mp g
      exact cl_err2 (by unfold brE; rw [if_pos g]) g
    · have g := U.ne_f.mp g
      have g2 := U.ne_t.mp g2
      exact cl_err2 (by unfold brE; rw [if_neg (fun x => x g), if_pos (by omega)]) (by decide)
    · have g := U.ne_f.mp g
      have g2 : (n : Int) = 2 := U.ne_f.mp g2
      have h2 : n = 2 := by omega
      obtain ⟨ta, es, ep⟩ := sp_tab g h2
      have hb := sp_lt g h2
      have hm := (sp_bs g).2.1
      have hR : szR (f 0) ≤ 2000001 := ta.2.1
      have e0 : brE n f k s h m e = 0 := by unfold brE; rw [if_neg (fun x => x g), if_neg (fun x => x h2)]
      rw [e0]
      refine ⟨⟨by omega, by omega⟩, hp 0 (by omega), ⟨by omega, by omega⟩, hp 1 (by omega), ⟨⟨rfl, hm, ta, hb⟩, trivial, trivial, trivial, trivial, trivial, trivial, trivial, trivial, trivial, trivial, trivial, trivial⟩, by show ((szR (f 0)).toNat + 1) * 8 ≤ 140737488351232; omega, ?_⟩
      refine ⟨⟨⟨(st_len f m e).symm, row1H fun t ht => ?_⟩, ⟨?_, row1H fun t ht => ?_⟩, rfl⟩, .inl rfl, rfl⟩
      · have ht : t < (szR (f 0)).toNat + 1 := ht
        refine Eq.trans ?_ (st_get f m e (by rw [st_len]; exact ht)).symm
        refine (U.cat_eq _ _ _ _).trans ?_
        by_cases h1 : t < (szR (f 0)).toNat
        · exact if_pos h1
        · obtain rfl : t = (szR (f 0)).toNat := by omega
          exact if_neg h1
      · show rwP (szR (f 1)) m e (szR (f 0)).toNat = coN f m e
        rw [ep, co_len]
      · have ht : t < rwP (szR (f 1)) m e (szR (f 0)).toNat := ht
        exact (co_get f m e (by rw [co_len]; omega)).symm
  · exact hh.elim
end Go.RX.Span

/- Sparse domains: slices.IsSorted of any numbers: the states. -/
set_option linter.unusedVariables false
set_option linter.unusedSimpArgs false
set_option maxRecDepth 100000
namespace Go.RX.Span
open Go Go.RX
attribute [local irreducible] sx conB

def UpR (n : Nat) (e : Nat → R1) : Prop := ∀ j, j + 1 < n → nv e j ≤ nv e (j + 1)
noncomputable def srB (n : Nat) (e : Nat → R1) : Bool := @decide (UpR n e) (Classical.propDecidable _)
theorem srB_t {n : Nat} {e : Nat → R1} : srB n e = true ↔ UpR n e := by unfold srB; exact @decide_eq_true_iff _ (Classical.propDecidable _)
theorem srB_f {n : Nat} {e : Nat → R1} : srB n e = false ↔ ¬ UpR n e := by unfold srB; exact @decide_eq_false_iff_not _ (Classical.propDecidable _)
def Sm7 (n : Nat) : Prop := n ≤ 10000000
noncomputable def gIs : Nat → Few → T (Ex × Few)
  | n0, ([.row [.int .i64] n e, _, .lit (.int .i64 i)], []) => .ask (n0 = 0 ∧ Sm7 n ∧ i = U.sub .i64 (n : Int) 1) (.br (lk srB n e) (.ret (.exit 0, ([.any, .any, .any], []))) (.ret (.ret, ([.any, .kb false, .any], []))))
  | _, _ => .stuck 1
noncomputable abbrev lIs : List (Nat × Loops) := [(64, [(2, .sum (few 21 [0,2,3] gIs))])] --%K
noncomputable def c_IsS : Con := fun args => match args with
  | [.row [.int .i64] n e] => .ask (lk Sm7 n) (.ret (.lit (.bool (lk srB n e))))
  | _ => .stuck 1
end Go.RX.Span

/- Sparse domains: slices.IsSorted of any numbers: the walks. -/
set_option linter.unusedVariables false
set_option linter.unusedSimpArgs false
set_option maxRecDepth 100000
namespace Go.RX.Span
open Go Go.RX
attribute [local irreducible] sx conB

--%R < ↑(\w)\b => < ((\1 : Nat) : Int)
--%R ↑n = ↑n => ((n : Nat) : Int) = ((n : Nat) : Int)
--%R U.sub IntKind.i64 ↑n => U.sub IntKind.i64 ((n : Nat) : Int)
set_option maxRecDepth 100000 in
theorem t_Is (n : Nat) (e : Nat → R1) (i : Int) : (sx E0 [] 0 (loopOf P 64 2) (mkS 21 [0,2,3] [.row [.int .i64] n e, .any, .lit (.int .i64 i)], [])).bind (proj 21 [0,2,3]) =
    T.br (U.gt i (0 : Int)) (.ask ((0 : Int) ≤ i ∧ i < ((n : Nat) : Int)) (.ask ((0 : Int) ≤ U.sub .i64 i (1 : Int) ∧ U.sub .i64 i (1 : Int) < ((n : Nat) : Int)) (.br (U.ne (e (U.toNat
      i)).1 (e (U.toNat i)).1) (.br (U.not (U.ne (e (U.toNat (U.sub .i64 i (1 : Int)))).1 (e (U.toNat (U.sub .i64 i (1 : Int)))).1)) (.ret (Ex.ret, [.row [.int .i64] n e, SV.kb false,
      .lit (.int .i64 i)], [])) (.br (U.lt (e (U.toNat i)).1 (e (U.toNat (U.sub .i64 i (1 : Int)))).1) (.ret (Ex.ret, [.row [.int .i64] n e, SV.kb false, .lit (.int .i64 i)], [])) (.ret
      (Ex.normal, [.row [.int .i64] n e, SV.any, .lit (.int .i64 (U.sub .i64 i (1 : Int)))], [])))) (.br (U.lt (e (U.toNat i)).1 (e (U.toNat (U.sub .i64 i (1 : Int)))).1) (.ret (Ex.ret,
      [.row [.int .i64] n e, SV.kb false, .lit (.int .i64 i)], [])) (.ret (Ex.normal, [.row [.int .i64] n e, SV.any, .lit (.int .i64 (U.sub .i64 i (1 : Int)))], [])))))) (.ret (Ex.exit
      (nat_lit 0), [.row [.int .i64] n e, SV.any, .lit (.int .i64 i)], [])) := by kernel_rfl
set_option maxRecDepth 100000 in
theorem t_IsC (n : Nat) (e : Nat → R1) : conB Go.Proofs.Try.prog (conOf []) (loopsOf lIs) 10 64 [.row [.int .i64] n e] =
    T.ask (nat_lit 0 = (0 : Nat) ∧ Sm7 n ∧ U.sub .i64 (Int.ofNat n) (1 : Int) = U.sub .i64 (Int.ofNat n) (1 : Int)) (.br (lk srB n e) (.ret (.lit (.bool true))) (.ret (.lit (.bool
      false)))) := by kernel_rfl
end Go.RX.Span

/- Sparse domains: slices.IsSorted of any numbers. -/
set_option linter.unusedVariables false
set_option linter.unusedSimpArgs false
set_option maxRecDepth 100000
namespace Go.RX.Span
open Go Go.RX
attribute [local irreducible] sx conB

structure XIs where
  (n : Nat) (e : Nat → R1) (i : Int)
noncomputable abbrev VIs (q : XIs) : Few := ([.row [.int .i64] q.n q.e, .any, .lit (.int .i64 q.i)], [])
noncomputable def O1Is : Ex × Few := (.exit 0, ([.any, .any, .any], []))
noncomputable def O2Is : Ex × Few := (.ret, ([.any, .kb false, .any], []))
def PhiIs (n0 : Nat) (q : XIs) : Prop := n0 = 0 ∧ Sm7 q.n ∧ -1 ≤ q.i ∧ q.i < q.n ∧ ∀ j : Nat, q.i ≤ j → j + 1 < q.n → nv q.e j ≤ nv q.e (j + 1)
def ZIs (q : XIs) (o : Ex × Few) : Prop := (UpR q.n q.e → o = O1Is) ∧ (¬ UpR q.n q.e → o = O2Is)
theorem w3S {vs vs' : List SV} (h : RlL (idR 0) vs vs') : Wk 21 [0,2,3] 0 (vs, []) (vs', []) := wk_of (idR 0) rfl (Nat.zero_le _) (fun b hb => by omega) h trivial
theorem roundIs (n0 : Nat) (q : XIs) (hq : PhiIs n0 q) : ((sx E0 [] n0 (loopOf P 64 2) (mkS 21 [0,2,3] (VIs q).1, (VIs q).2)).bind (proj 21 [0,2,3])).All fun r => match r.1 with
      | .normal => ∃ q', PhiIs n0 q' ∧ (q'.i + 1).toNat < (q.i + 1).toNat ∧ Wk 21 [0,2,3] n0 r.2 (VIs q') ∧ ∀ o, ZIs q' o → ZIs q o
      | e => ∃ s, ZIs q (e, s) ∧ Wk 21 [0,2,3] n0 r.2 s := by
  obtain ⟨n, e, i⟩ := q
  obtain ⟨h0, hn, h1, h2, hall⟩ := hq
  have h1 : -1 ≤ i := h1
  have h2 : i < (n : Int) := h2
  have hn : n ≤ 10000000 := hn
  have hall : ∀ j : Nat, i ≤ j → j + 1 < n → nv e j ≤ nv e (j + 1) := hall
  have h0 : n0 = 0 := h0
  subst h0
  refine T.all_of_eq (t_Is n e i) ?_
  by_cases hlt : 0 < i
  · have e1 : U.sub .i64 i 1 = i - 1 := U.sub64 (by unfold I64; omega)
    obtain ⟨m, rfl⟩ : ∃ m : Nat, i = (m : Int) + 1 := ⟨(i - 1).toNat, by omega⟩
    have t1 : U.toNat ((m : Int) + 1) = m + 1 := tn (m + 1)
    have t2 : U.toNat ((m : Int) + 1 - 1) = m := by rw [show (m : Int) + 1 - 1 = (m : Int) by omega]; exact tn m
    rw [e1, t1, t2]
    refine ⟨fun _ => ⟨⟨by omega, by omega⟩, ⟨by omega, by omega⟩, fun g => absurd rfl (U.ne_t.mp g), fun _ => ⟨fun g => ?_, fun g => ?_⟩⟩, fun g => absurd (U.gt_f.mp g) (by omega)⟩
    · have g : nv e (m + 1) < nv e m := U.lt_t.mp g
      have b : ¬ UpR n e := fun h => by have := h m (by omega); omega
      exact ⟨O2Is.2, ⟨fun h => absurd h b, fun _ => rfl⟩, w3S ⟨rl_any _, rfl, rl_any _, trivial⟩⟩
    · have g : nv e m ≤ nv e (m + 1) := U.lt_f.mp g
      refine ⟨⟨n, e, (m : Int) + 1 - 1⟩, ⟨rfl, hn, (show -1 ≤ (m : Int) + 1 - 1 by omega), (show (m : Int) + 1 - 1 < (n : Int) by omega), fun j hj hj2 => ?_⟩, (show ((m : Int) + 1 - 1 + 1).toNat < ((m : Int) + 1 + 1).toNat by omega), w3S ⟨⟨rfl, row1H fun _ _ => rfl⟩, rl_any _, rfl, trivial⟩, fun o ho => ho⟩
      have hj : (m : Int) + 1 - 1 ≤ (j : Int) := hj
      by_cases ej : j = m
      · subst ej; exact g
      · exact hall j (by omega) hj2
  · have ok : UpR n e := fun j hj => hall j (by omega) hj
    exact ⟨fun g => absurd (U.gt_t.mp g) (by omega), fun _ => ⟨O1Is.2, ⟨fun _ => rfl, fun h => absurd ok h⟩, w3S ⟨rl_any _, rl_any _, rl_any _, trivial⟩⟩⟩
theorem loopIs : LoopOK P (loopOf P 64 2) (few 21 [0,2,3] gIs) :=
  loop_few (E := E0) mixed E0_ok loopsOK_none 21 [0,2,3] (X := XIs) gIs (fun _ x => VIs x) PhiIs (fun q => (q.i + 1).toNat) (fun _ x o => ZIs x o)
    (fun n0 st r h => by
      unfold gIs at h
      split at h
      · rename_i n0 n e s2 i
        obtain ⟨h0, hp, rfl⟩ := (T.is_ask h).1
        have hb := (T.is_ask h).2
        subst h0
        have hn : n ≤ 10000000 := hp
        have e1 : U.sub .i64 (n : Int) 1 = (n : Int) - 1 := U.sub64 (by unfold I64; omega)
        have ph : PhiIs 0 ⟨n, e, U.sub .i64 (n : Int) 1⟩ := ⟨rfl, hp, (show -1 ≤ U.sub .i64 (n : Int) 1 by omega), (show U.sub .i64 (n : Int) 1 < (n : Int) by omega), fun j hj hj2 => by
          have hj : U.sub .i64 (n : Int) 1 ≤ (j : Int) := hj
          have hj2 : j + 1 < n := hj2
          omega⟩
        have en : Wk 21 [0,2,3] 0 ([.row [.int .i64] n e, s2, .lit (.int .i64 (U.sub .i64 (n : Int) 1))], []) (VIs ⟨n, e, U.sub .i64 (n : Int) 1⟩) := w3S ⟨⟨rfl, row1H fun _ _ => rfl⟩, rl_any _, rfl, trivial⟩
        rcases hb with ⟨he, hb⟩ | ⟨he, hb⟩
        · rw [lk_eq] at he
          obtain rfl := T.is_ret hb
          exact ⟨_, ph, en, fun o ho => ho.1 (srB_t.1 he)⟩
        · rw [lk_eq] at he
          obtain rfl := T.is_ret hb
          exact ⟨_, ph, en, fun o ho => ho.2 (srB_f.1 he)⟩
      · exact h.elim)
    roundIs
theorem lIs_ok : ∀ p ∈ lIs, LoopsOK P p.2 (bodyOf P p.1) := by
  intro p hp
  simp only [lIs, List.mem_singleton] at hp
  subst hp
  refine loopsOK_of (by kernel_rfl) fun k g hk => ?_
  simp only [List.mem_singleton, Prod.mk.injEq, LoopC.sum.injEq] at hk
  obtain ⟨rfl, rfl⟩ := hk
  exact loopIs
theorem IsS_ok : ConOK P 64 c_IsS := con_of (allOKL mixed none_ok lIs_ok) 10 64 fun args r h => by
  unfold c_IsS at h
  split at h
  · rename_i n e
    have hp := (T.is_ask h).1
    obtain rfl := T.is_ret (T.is_ask h).2
    rw [lk_eq] at hp
    refine T.all_of_eq (t_IsC n e) ?_
    simp only [lk_eq]
    exact ⟨⟨trivial, hp, trivial⟩, fun g => by rw [g]; rfl, fun g => by rw [g]; rfl⟩
  · exact h.elim
end Go.RX.Span

/- Sparse domains: the reference's Check of a domain without positions. -/
set_option linter.unusedVariables false
set_option linter.unusedSimpArgs false
set_option maxRecDepth 100000
namespace Go.RX.Span
open Go Go.RX
attribute [local irreducible] sx conB

theorem con_arg {P : Program} {f : FuncId} {c c' : Con} (h : ConOK P f c) (g : ∀ args r, (c' args).Is r → ∃ args' r', ClL args args' ∧ (c args').Is r' ∧ Cl r' r) : ConOK P f c' := by
  intro args r hc lv w vals hlv hr
  obtain ⟨args', r', h1, h2, h3⟩ := g args r hc
  refine (h args' r' h2 lv w vals hlv (ClL.rep args args' vals h1 hr)).mono ?_
  rintro e w' ⟨v, g1, g2, g3⟩
  exact ⟨v, g1, g2, Cl.rep r' r v h3 g3⟩
noncomputable def c_SpCheckN : Con := fun args => match args with
  | [.agg [.row [.int .i64, .int .i64, .int .i64] n f, .lit (.int .i64 k), .lit (.int .i64 s), .lit (.int .i64 h), .row [.int .i64] m e]] => .ask (Row64 n f) (.ret (.lit (.int .i64 (lk spE n f k s h m e))))
  | [.agg [.row [.int .i64, .int .i64, .int .i64] n f, .lit (.int .i64 k), .lit (.int .i64 s), .lit (.int .i64 h), .lit (.slice none 0 0)]] => .ask (Row64 n f) (.ret (.lit (.int .i64 (lk pdE n f k s h))))
  | _ => .stuck 1
theorem spE_nil (n : Nat) (f : Nat → R3) (k s h : Int) (e : Nat → R1) : spE n f k s h 0 e = pdE n f k s h := by
  unfold spE
  by_cases g : pdE n f k s h = 0
  · have z : SpAt (szD n f k s h) 0 e := fun i hi => absurd hi (Nat.not_lt_zero i)
    rw [if_neg (fun x => x g), if_neg (by decide), if_pos z, g]
  · rw [if_pos g]
theorem clL_self4 {n : Nat} {f : Nat → R3} {k s h : Int} {x y : SV} (hx : Cl x y) : ClL [.row [.int .i64, .int .i64, .int .i64] n f, .lit (.int .i64 k), .lit (.int .i64 s), .lit (.int .i64 h), x] [.row [.int .i64, .int .i64, .int .i64] n f, .lit (.int .i64 k), .lit (.int .i64 s), .lit (.int .i64 h), y] :=
  ⟨⟨rfl, sameRow_refl _ _⟩, .inl rfl, .inl rfl, .inl rfl, hx, rfl⟩
theorem SpQCheckN_ok : ConOK P 29 c_SpCheckN := con_arg SpQCheck_ok fun args r hh => by
  unfold c_SpCheckN at hh
  split at hh
  · rename_i n f k s h m e
    have hp := (T.is_ask hh).1
    obtain rfl := T.is_ret (T.is_ask hh).2
    exact ⟨[.agg [.row [.int .i64, .int .i64, .int .i64] n f, .lit (.int .i64 k), .lit (.int .i64 s), .lit (.int .i64 h), .row [.int .i64] m e]], _, ⟨clL_self4 ⟨rfl, sameRow_refl _ _⟩, rfl⟩, ⟨hp, rfl⟩, .inl rfl⟩
  · rename_i n f k s h
    have hp := (T.is_ask hh).1
    obtain rfl := T.is_ret (T.is_ask hh).2
    refine ⟨[.agg [.row [.int .i64, .int .i64, .int .i64] n f, .lit (.int .i64 k), .lit (.int .i64 s), .lit (.int .i64 h), .row [.int .i64] 0 (lF [])]], _, ⟨clL_self4 (.inr ⟨rfl, rfl⟩), rfl⟩, ⟨hp, rfl⟩, ?_⟩
    simp only [lk_eq]
    rw [spE_nil]
    exact .inl rfl
  · exact hh.elim
end Go.RX.Span

/- Sparse domains: FromRows: plain; the states. -/
set_option linter.unusedVariables false
set_option linter.unusedSimpArgs false
set_option maxRecDepth 100000
namespace Go.RX.Span
open Go Go.RX
attribute [local irreducible] sx conB

/-- Where row k starts. -/
def stA (a : Nat → R1) (k : Nat) : Nat := (nv a k).toNat
/-- The positions of the i-th column. -/
def frF (R C : Int) (a b : Nat → R1) (i : Nat) : R1 := (((bsI R.toNat (shF 1 a) ((i : Int) + 1) : Nat) : Int) * C + nv b i, ())
/-- All rows are right. -/
def FrOk (R C : Int) (a b : Nat → R1) : Prop := ∀ k, k < R.toNat → SpAt C (stA a (k + 1) - stA a k) (shF (stA a k) b)
noncomputable def frB (R C : Int) (a b : Nat → R1) : Bool := @decide (FrOk R C a b) (Classical.propDecidable _)
theorem frB_t {R C : Int} {a b : Nat → R1} : frB R C a b = true ↔ FrOk R C a b := by unfold frB; exact @decide_eq_true_iff _ (Classical.propDecidable _)
theorem frB_f {R C : Int} {a b : Nat → R1} : frB R C a b = false ↔ ¬ FrOk R C a b := by unfold frB; exact @decide_eq_false_iff_not _ (Classical.propDecidable _)
def PreFr (n0 : Nat) (R C : Int) (sN : Nat) (a : Nat → R1) (cN : Nat) (b : Nat → R1) : Prop := n0 = 0 ∧ (0 ≤ R ∧ R ≤ 2000001 ∧ 0 ≤ C ∧ C ≤ 2000001) ∧ sN = R.toNat + 1 ∧ cN ≤ 5000 ∧ nv a 0 = 0 ∧ nv a R.toNat = cN ∧ UpR sN a
/-- A row more. -/
def rwG (N : Nat) (G : Nat → R1) (r C : Int) (B : Nat → R1) (t : Nat) : R1 := if t < N then G t else (r * C + nv B (t - N), ())
def PreFi (n0 : Nat) (R C r : Int) (N L : Nat) : Prop := n0 = 0 ∧ 0 ≤ r ∧ r < R ∧ R ≤ 2000001 ∧ 0 ≤ C ∧ C ≤ 2000001 ∧ N ≤ 5000 ∧ L ≤ 5000
noncomputable abbrev slFi (R j r last : Int) (L : Nat) (B : Nat → R1) (i : Int) : List SV := [.ptr 0 0, .ptr 1 0, .any, .ptr 2 0, .ptr 3 0, .lit (.int .i64 R), .lit (.int .i64 j), .lit (.int .i64 r), .lit (.int .i64 last), .row [.int .i64] L B, .lit (.int .i64 (L : Int)), .lit (.int .i64 i)]
noncomputable abbrev slFo (R j : Int) : List SV := [.ptr 0 0, .ptr 1 0, .any, .ptr 2 0, .ptr 3 0, .lit (.int .i64 R), .lit (.int .i64 j)]
noncomputable abbrev memF (n : Nat) (f : Nat → R3) (k s h : Int) (R C : Int) (sN : Nat) (a : Nat → R1) (cN : Nat) (b : Nat → R1) (u : Bool) (N : Nat) (G : Nat → R1) : Mem :=
  [(0, some (.cells [.row [.int .i64] sN a, .row [.int .i64] cN b] 34)), (0, some (.cells zeV 38)), (0, some (.cells [.lit (.int .i64 R), .lit (.int .i64 C)] 96)),
   (0, some (.cells [.row [.int .i64, .int .i64, .int .i64] n f, .lit (.int .i64 k), .lit (.int .i64 s), .lit (.int .i64 h), .own u 4 N] 38)), (0, some (.row u N [.int .i64] G 3))]
noncomputable abbrev badF : List SV × Mem := ([.any, .ptr 1 0, .ki .i64 51, .any, .any, .any, .any], [(0, none), (0, some (.cells zeV 38)), (0, none), (0, none), (0, none), (0, none), (0, none)])
noncomputable def gFi : Nat → Few → T (Ex × Few)
  | n0, ([.ptr p0 q0, .ptr p1 q1, _, .ptr p2 q2, .ptr p3 q3, .lit (.int .i64 R'), .lit (.int .i64 j), .lit (.int .i64 r), .ki .i64 l, .row [.int .i64] L B, .lit (.int .i64 L'), .ki .i64 z], [(_, some (.cells [.row [.int .i64] sN a, .row [.int .i64] cN b] t0)), (_, some (.cells zs t1)), (_, some (.cells [.lit (.int .i64 R), .lit (.int .i64 C)] t2)), (_, some (.cells [.row [.int .i64, .int .i64, .int .i64] n f, .lit (.int .i64 k), .lit (.int .i64 s), .lit (.int .i64 h), .own u bC N] t3)), (_, some (.row u' N' [.int .i64] G t4))]) =>
    .ask (lk PreFi n0 R C r N L ∧ p0 = 0 ∧ q0 = 0 ∧ p1 = 1 ∧ q1 = 0 ∧ p2 = 2 ∧ q2 = 0 ∧ p3 = 3 ∧ q3 = 0 ∧ R' = R ∧ l = -1 ∧ L' = (L : Int) ∧ z = 0 ∧ t0 = 34 ∧ zs = zeV ∧ t1 = 38 ∧ t2 = 96 ∧ t3 = 38 ∧ bC = 4 ∧ u' = u ∧ N' = N ∧ t4 = 3)
      (.br (lk okAt C L B)
        (.ret (.exit 3, (slFo R j ++ [.any, .any, .any, .any, .any], memF n f k s h R C sN a cN b (U.andb u (U.isz L)) (N + L) (lk rwG N G r C B))))
        (.ret (.ret, ([.any, .ptr 1 0, .ki .i64 51, .any, .any, .any, .any, .any, .any, .any, .any, .any], [(0, none), (0, some (.cells zeV 38)), (0, none), (0, none), (0, none)]))))
  | _, _ => .stuck 1
noncomputable abbrev LFi : Loops := [(17, .sum (few 121 [3,4,5,7,9,73,74,10,11,90,91,92] gFi))]
noncomputable def gFo : Nat → Few → T (Ex × Few)
  | n0, ([.ptr p1 q1, .ptr p2 q2, _, .ptr p5 q5, .ptr p6 q6, .lit (.int .i64 R'), .ki .i64 z], [_, (_, some (.cells [.row [.int .i64] sN a, .row [.int .i64] cN b] t1)), (_, some (.cells zs t2)), _, _, (_, some (.cells [.lit (.int .i64 R), .lit (.int .i64 C)] t5)), (_, some (.cells [.row [.int .i64, .int .i64, .int .i64] n f, .lit (.int .i64 k), .lit (.int .i64 s), .lit (.int .i64 h), nilS] t6))]) =>
    .ask (lk PreFr n0 R C sN a cN b ∧ p1 = 1 ∧ q1 = 0 ∧ p2 = 2 ∧ q2 = 0 ∧ p5 = 5 ∧ q5 = 0 ∧ p6 = 6 ∧ q6 = 0 ∧ R' = R ∧ z = 0 ∧ t1 = 34 ∧ zs = zeV ∧ t2 = 38 ∧ t5 = 96 ∧ nilS = .lit (.slice none 0 0) ∧ t6 = 38)
      (.br (lk frB R C a b)
        (.ret (.exit 1, (slFo R R, memF n f k s h R C sN a cN b (U.isz cN) cN (lk frF R C a b) ++ [(0, none), (0, none)])))
        (.ret (.ret, badF)))
  | _, _ => .stuck 1
noncomputable abbrev lFo : List (Nat × Loops) := [(17, [(17, .sum (few 121 [3,4,5,7,9,73,74,10,11,90,91,92] gFi)), (13, .sum (few 121 [3,4,5,7,9,73,74] gFo))])] --%K
noncomputable abbrev kFr : List (Nat × Con) := [(63, c_parented), (65, c_copied), (109, c_Size), (64, c_IsS), (29, c_SpCheckN), (108, c_Size)] --%K
theorem kFr_ok : ∀ p ∈ kFr, ConOK P p.1 p.2 := by
  intro p hp
  simp only [kFr, List.mem_cons, List.not_mem_nil, or_false] at hp
  rcases hp with rfl | rfl | rfl | rfl | rfl | rfl
  · exact parented_ok
  · exact copied_ok
  · exact Size_ok
  · exact IsS_ok
  · exact SpQCheckN_ok
  · exact rSize_ok
noncomputable abbrev EFr : Env := ⟨P, conOf kFr, scall P (conOf kFr) noLoops 10⟩
theorem EFr_ok : EnvOK EFr := envOK (allOK mixed kFr_ok) 10
end Go.RX.Span

/- Sparse domains: FromRows: the walks. -/
set_option linter.unusedVariables false
set_option linter.unusedSimpArgs false
set_option maxRecDepth 100000
namespace Go.RX.Span
open Go Go.RX
attribute [local irreducible] sx conB

--%R \(a \(U\.toNat (j|\(U\.add IntKind\.i64 j \(1 : Int\)\))\)\)\.1 ≤ => nv a (U.toNat \1) ≤
--%R ↑\(U\.nsub => Int.ofNat (U.nsub
--%R < ↑(\w+)\b => < ((\1 : Nat) : Int)
--%R ≤ ↑(\w+)\b => ≤ ((\1 : Nat) : Int)
--%R ↑(\w+) (=|≤) => ((\1 : Nat) : Int) \2
set_option maxRecDepth 100000 in
theorem t_Fi (n : Nat) (f : Nat → R3) (k s h : Int) (R C j r last : Int) (sN : Nat) (a : Nat → R1) (cN : Nat) (b : Nat → R1) (L : Nat) (B : Nat → R1) (i : Int) (u : Bool) (N : Nat) (G : Nat → R1) : (sx EFr [] 0 (loopOf P 17 17) (mkS 121 [3,4,5,7,9,73,74,10,11,90,91,92] (slFi R j r last L B i), memF n f k s h R C sN a cN b u N G)).bind (proj 121 [3,4,5,7,9,73,74,10,11,90,91,92]) =
    T.br (U.lt i (Int.ofNat L)) (.ask ((0 : Int) ≤ i ∧ i < ((L : Nat) : Int)) (.br (U.le (B (U.toNat i)).1 last) (.ret (Ex.ret, [SV.ptr (nat_lit 0) (nat_lit 0), SV.ptr (nat_lit 1)
      (nat_lit 0), SV.ki .i64 51, SV.ptr (nat_lit 2) (nat_lit 0), SV.ptr (nat_lit 3) (nat_lit 0), .lit (.int .i64 R), .lit (.int .i64 j), .lit (.int .i64 r), .lit (.int .i64 last), .row
      [.int .i64] L B, .lit (.int .i64 (Int.ofNat L)), .lit (.int .i64 i)], [(nat_lit 0, some (Blk.cells [.row [.int .i64] sN a, .row [.int .i64] cN b] (nat_lit 34))), (nat_lit 1, some
      (Blk.cells [.lit (.slice none (nat_lit 0) (nat_lit 0)), .lit (.int .i64 0), .lit (.int .i64 0), .lit (.int .i64 0), .lit (.slice none (nat_lit 0) (nat_lit 0))] (nat_lit 38))),
      (nat_lit 0, some (Blk.cells [.lit (.int .i64 R), .lit (.int .i64 C)] (nat_lit 96))), (nat_lit 0, some (Blk.cells [.row [.int .i64, .int .i64, .int .i64] n f, .lit (.int .i64 k),
      .lit (.int .i64 s), .lit (.int .i64 h), SV.own u (nat_lit 4) N] (nat_lit 38))), (nat_lit 0, some (Blk.row u N [.int .i64] G (nat_lit 3)))])) (.br (U.ge (B (U.toNat i)).1 C) (.ret
      (Ex.ret, [SV.ptr (nat_lit 0) (nat_lit 0), SV.ptr (nat_lit 1) (nat_lit 0), SV.ki .i64 51, SV.ptr (nat_lit 2) (nat_lit 0), SV.ptr (nat_lit 3) (nat_lit 0), .lit (.int .i64 R), .lit
      (.int .i64 j), .lit (.int .i64 r), .lit (.int .i64 last), .row [.int .i64] L B, .lit (.int .i64 (Int.ofNat L)), .lit (.int .i64 i)], [(nat_lit 0, some (Blk.cells [.row [.int .i64]
      sN a, .row [.int .i64] cN b] (nat_lit 34))), (nat_lit 1, some (Blk.cells [.lit (.slice none (nat_lit 0) (nat_lit 0)), .lit (.int .i64 0), .lit (.int .i64 0), .lit (.int .i64 0),
      .lit (.slice none (nat_lit 0) (nat_lit 0))] (nat_lit 38))), (nat_lit 0, some (Blk.cells [.lit (.int .i64 R), .lit (.int .i64 C)] (nat_lit 96))), (nat_lit 0, some (Blk.cells [.row
      [.int .i64, .int .i64, .int .i64] n f, .lit (.int .i64 k), .lit (.int .i64 s), .lit (.int .i64 h), SV.own u (nat_lit 4) N] (nat_lit 38))), (nat_lit 0, some (Blk.row u N [.int .i64]
      G (nat_lit 3)))])) (.ask ((N + (1 : Nat)) * nat_lit 8 ≤ nat_lit 140737488351232) (.ret (Ex.normal, [SV.ptr (nat_lit 0) (nat_lit 0), SV.ptr (nat_lit 1) (nat_lit 0), SV.any, SV.ptr
      (nat_lit 2) (nat_lit 0), SV.ptr (nat_lit 3) (nat_lit 0), .lit (.int .i64 R), .lit (.int .i64 j), .lit (.int .i64 r), .lit (.int .i64 (B (U.toNat i)).1), .row [.int .i64] L B, .lit
      (.int .i64 (Int.ofNat L)), .lit (.int .i64 (U.add .i64 i (1 : Int)))], [(nat_lit 0, some (Blk.cells [.row [.int .i64] sN a, .row [.int .i64] cN b] (nat_lit 34))), (nat_lit 0, some
      (Blk.cells [.lit (.slice none (nat_lit 0) (nat_lit 0)), .lit (.int .i64 0), .lit (.int .i64 0), .lit (.int .i64 0), .lit (.slice none (nat_lit 0) (nat_lit 0))] (nat_lit 38))),
      (nat_lit 0, some (Blk.cells [.lit (.int .i64 R), .lit (.int .i64 C)] (nat_lit 96))), (nat_lit 1, some (Blk.cells [.row [.int .i64, .int .i64, .int .i64] n f, .lit (.int .i64 k),
      .lit (.int .i64 s), .lit (.int .i64 h), SV.own false (nat_lit 6) (N.add (nat_lit 1))] (nat_lit 38))), (nat_lit 1, none), (nat_lit 0, some (Blk.cells [.lit (.int .i64 (U.add .i64
      (U.mul .i64 r C) (B (U.toNat i)).1))] (nat_lit 3))), (nat_lit 0, some (Blk.row false (N.add (nat_lit 1)) [.int .i64] (U.cat N G fun x => (U.add .i64 (U.mul .i64 r C) (B (U.toNat
      i)).1, PUnit.unit)) (nat_lit 3)))])))))) (.ret (Ex.exit (nat_lit 3), [SV.ptr (nat_lit 0) (nat_lit 0), SV.ptr (nat_lit 1) (nat_lit 0), SV.any, SV.ptr (nat_lit 2) (nat_lit 0), SV.ptr
      (nat_lit 3) (nat_lit 0), .lit (.int .i64 R), .lit (.int .i64 j), .lit (.int .i64 r), .lit (.int .i64 last), .row [.int .i64] L B, .lit (.int .i64 (Int.ofNat L)), .lit (.int .i64
      i)], [(nat_lit 0, some (Blk.cells [.row [.int .i64] sN a, .row [.int .i64] cN b] (nat_lit 34))), (nat_lit 0, some (Blk.cells [.lit (.slice none (nat_lit 0) (nat_lit 0)), .lit (.int
      .i64 0), .lit (.int .i64 0), .lit (.int .i64 0), .lit (.slice none (nat_lit 0) (nat_lit 0))] (nat_lit 38))), (nat_lit 0, some (Blk.cells [.lit (.int .i64 R), .lit (.int .i64 C)]
      (nat_lit 96))), (nat_lit 0, some (Blk.cells [.row [.int .i64, .int .i64, .int .i64] n f, .lit (.int .i64 k), .lit (.int .i64 s), .lit (.int .i64 h), SV.own u (nat_lit 4) N] (nat_lit
      38))), (nat_lit 0, some (Blk.row u N [.int .i64] G (nat_lit 3)))])) := by kernel_rfl
set_option maxRecDepth 100000 in
theorem t_Fo (n : Nat) (f : Nat → R3) (k s h : Int) (R C j : Int) (sN : Nat) (a : Nat → R1) (cN : Nat) (b : Nat → R1) (u : Bool) (N : Nat) (G : Nat → R1) : (sx EFr LFi 0 (loopOf P 17 13) (mkS 121 [3,4,5,7,9,73,74] (slFo R j), memF n f k s h R C sN a cN b u N G)).bind (proj 121 [3,4,5,7,9,73,74]) =
    T.br (U.lt j R) (.ask ((0 : Int) ≤ j ∧ j < ((sN : Nat) : Int)) (.ask ((0 : Int) ≤ U.add .i64 j (1 : Int) ∧ U.add .i64 j (1 : Int) < ((sN : Nat) : Int)) (.ask ((0 : Int) ≤ (a
      (U.toNat j)).1 ∧ nv a (U.toNat j) ≤ (a (U.toNat (U.add .i64 j (1 : Int)))).1 ∧ nv a (U.toNat (U.add .i64 j (1 : Int))) ≤ ((cN : Nat) : Int)) (.ask (lk PreFi (0 : Nat) R C j N
      (U.nsub (U.toNat (a (U.toNat (U.add .i64 j (1 : Int)))).1) (U.toNat (a (U.toNat j)).1)) ∧ (0 : Nat) = (0 : Nat) ∧ (0 : Nat) = (0 : Nat) ∧ (1 : Nat) = (1 : Nat) ∧ (0 : Nat) = (0 :
      Nat) ∧ (2 : Nat) = (2 : Nat) ∧ (0 : Nat) = (0 : Nat) ∧ (3 : Nat) = (3 : Nat) ∧ (0 : Nat) = (0 : Nat) ∧ R = R ∧ (-1 : Int) = (-1 : Int) ∧ Int.ofNat (U.nsub (U.toNat (a (U.toNat
      (U.add .i64 j (1 : Int)))).1) (U.toNat (a (U.toNat j)).1)) = Int.ofNat (U.nsub (U.toNat (a (U.toNat (U.add .i64 j (1 : Int)))).1) (U.toNat (a (U.toNat j)).1)) ∧ (0 : Int) = (0 :
      Int) ∧ (34 : TypeId) = (34 : TypeId) ∧ [.lit (.slice none (0 : Nat) (0 : Nat)), .lit (.int .i64 0), .lit (.int .i64 0), .lit (.int .i64 0), .lit (.slice none (0 : Nat) (0 : Nat))] =
      zeV ∧ (38 : TypeId) = (38 : TypeId) ∧ (96 : TypeId) = (96 : TypeId) ∧ (38 : TypeId) = (38 : TypeId) ∧ (4 : Nat) = (4 : Nat) ∧ u = u ∧ N = N ∧ (3 : TypeId) = (3 : TypeId)) (.br (lk
      okAt C (U.nsub (U.toNat (a (U.toNat (U.add .i64 j (1 : Int)))).1) (U.toNat (a (U.toNat j)).1)) fun i => b (i + U.toNat (a (U.toNat j)).1)) (.ret (Ex.normal, [SV.ptr (nat_lit 0)
      (nat_lit 0), SV.ptr (nat_lit 1) (nat_lit 0), SV.any, SV.ptr (nat_lit 2) (nat_lit 0), SV.ptr (nat_lit 3) (nat_lit 0), .lit (.int .i64 R), .lit (.int .i64 (U.add .i64 j (1 : Int)))],
      [(nat_lit 1, some (Blk.cells [.row [.int .i64] sN a, .row [.int .i64] cN b] (nat_lit 34))), (nat_lit 1, some (Blk.cells [.lit (.slice none (nat_lit 0) (nat_lit 0)), .lit (.int .i64
      0), .lit (.int .i64 0), .lit (.int .i64 0), .lit (.slice none (nat_lit 0) (nat_lit 0))] (nat_lit 38))), (nat_lit 1, some (Blk.cells [.lit (.int .i64 R), .lit (.int .i64 C)] (nat_lit
      96))), (nat_lit 1, some (Blk.cells [.row [.int .i64, .int .i64, .int .i64] n f, .lit (.int .i64 k), .lit (.int .i64 s), .lit (.int .i64 h), SV.own (U.andb u (U.isz (U.nsub (U.toNat
      (a (U.toNat (U.add .i64 j (1 : Int)))).1) (U.toNat (a (U.toNat j)).1)))) (nat_lit 4) (N + U.nsub (U.toNat (a (U.toNat (U.add .i64 j (1 : Int)))).1) (U.toNat (a (U.toNat j)).1))]
      (nat_lit 38))), (nat_lit 1, some (Blk.row (U.andb u (U.isz (U.nsub (U.toNat (a (U.toNat (U.add .i64 j (1 : Int)))).1) (U.toNat (a (U.toNat j)).1)))) (N + U.nsub (U.toNat (a (U.toNat
      (U.add .i64 j (1 : Int)))).1) (U.toNat (a (U.toNat j)).1)) [.int .i64] (lk rwG N G j C fun i => b (i + U.toNat (a (U.toNat j)).1)) (nat_lit 3)))])) (.ret (Ex.ret, [SV.any, SV.ptr
      (nat_lit 1) (nat_lit 0), SV.ki .i64 51, SV.any, SV.any, SV.any, SV.any], [(nat_lit 1, none), (nat_lit 1, some (Blk.cells [.lit (.slice none (nat_lit 0) (nat_lit 0)), .lit (.int .i64
      0), .lit (.int .i64 0), .lit (.int .i64 0), .lit (.slice none (nat_lit 0) (nat_lit 0))] (nat_lit 38))), (nat_lit 1, none), (nat_lit 1, none), (nat_lit 1, none)]))))))) (.ret
      (Ex.exit (nat_lit 1), [SV.ptr (nat_lit 0) (nat_lit 0), SV.ptr (nat_lit 1) (nat_lit 0), SV.any, SV.ptr (nat_lit 2) (nat_lit 0), SV.ptr (nat_lit 3) (nat_lit 0), .lit (.int .i64 R),
      .lit (.int .i64 j)], [(nat_lit 0, some (Blk.cells [.row [.int .i64] sN a, .row [.int .i64] cN b] (nat_lit 34))), (nat_lit 0, some (Blk.cells [.lit (.slice none (nat_lit 0) (nat_lit
      0)), .lit (.int .i64 0), .lit (.int .i64 0), .lit (.int .i64 0), .lit (.slice none (nat_lit 0) (nat_lit 0))] (nat_lit 38))), (nat_lit 0, some (Blk.cells [.lit (.int .i64 R), .lit
      (.int .i64 C)] (nat_lit 96))), (nat_lit 0, some (Blk.cells [.row [.int .i64, .int .i64, .int .i64] n f, .lit (.int .i64 k), .lit (.int .i64 s), .lit (.int .i64 h), SV.own u (nat_lit
      4) N] (nat_lit 38))), (nat_lit 0, some (Blk.row u N [.int .i64] G (nat_lit 3)))])) := by kernel_rfl
set_option maxRecDepth 100000 in
theorem t_Fr (n : Nat) (f : Nat → R3) (k s h : Int) (sN : Nat) (a : Nat → R1) (cN : Nat) (b : Nat → R1) : conB Go.Proofs.Try.prog (conOf kFr) (loopsOf lFo) 10 17 [.agg [.row [.int .i64, .int .i64, .int .i64] n f, .lit (.int .i64 k), .lit (.int .i64 s), .lit (.int .i64 h)], .agg [.row [.int .i64] sN a, .row [.int .i64] cN b]] =
    T.ask (Row64 n f) (.br (U.ne (lk pdE n f k s h) (0 : Int)) (.ret (.tup [.agg [.lit (.slice none (nat_lit 0) (nat_lit 0)), .lit (.int .i64 0), .lit (.int .i64 0), .lit (.int .i64 0),
      .lit (.slice none (nat_lit 0) (nat_lit 0))], .lit (.int .i64 (lk pdE n f k s h))])) (.br (U.ne (Int.ofNat n) (2 : Int)) (.ret (.tup [.agg [.lit (.slice none (nat_lit 0) (nat_lit
      0)), .lit (.int .i64 0), .lit (.int .i64 0), .lit (.int .i64 0), .lit (.slice none (nat_lit 0) (nat_lit 0))], .lit (.int .i64 50)])) (.ask ((0 : Int) ≤ (0 : Int) ∧ (0 : Int) < ((n :
      Nat) : Int)) (.ask (I64 (f (U.toNat (0 : Int))).1 ∧ I64 (f (U.toNat (0 : Int))).2.1 ∧ I64 (f (U.toNat (0 : Int))).2.2.1) (.ask ((0 : Int) ≤ (1 : Int) ∧ (1 : Int) < ((n : Nat) :
      Int)) (.ask (I64 (f (U.toNat (1 : Int))).1 ∧ I64 (f (U.toNat (1 : Int))).2.1 ∧ I64 (f (U.toNat (1 : Int))).2.2.1) (.br (U.ne (Int.ofNat sN) (U.add .i64 (lk size (f (U.toNat (0 :
      Int))).1 (f (U.toNat (0 : Int))).2.1 (f (U.toNat (0 : Int))).2.2.1) (1 : Int))) (.ret (.tup [.agg [.lit (.slice none (nat_lit 0) (nat_lit 0)), .lit (.int .i64 0), .lit (.int .i64
      0), .lit (.int .i64 0), .lit (.slice none (nat_lit 0) (nat_lit 0))], .lit (.int .i64 5)])) (.br (U.gt (Int.ofNat cN) (5000 : Int)) (.ret (.tup [.agg [.lit (.slice none (nat_lit 0)
      (nat_lit 0)), .lit (.int .i64 0), .lit (.int .i64 0), .lit (.int .i64 0), .lit (.slice none (nat_lit 0) (nat_lit 0))], .lit (.int .i64 5)])) (.ask ((0 : Int) ≤ (0 : Int) ∧ (0 : Int)
      < ((sN : Nat) : Int)) (.br (U.ne (a (U.toNat (0 : Int))).1 (0 : Int)) (.ret (.tup [.agg [.lit (.slice none (nat_lit 0) (nat_lit 0)), .lit (.int .i64 0), .lit (.int .i64 0), .lit
      (.int .i64 0), .lit (.slice none (nat_lit 0) (nat_lit 0))], .lit (.int .i64 51)])) (.ask ((0 : Int) ≤ lk size (f (U.toNat (0 : Int))).1 (f (U.toNat (0 : Int))).2.1 (f (U.toNat (0 :
      Int))).2.2.1 ∧ lk size (f (U.toNat (0 : Int))).1 (f (U.toNat (0 : Int))).2.1 (f (U.toNat (0 : Int))).2.2.1 < ↑sN) (.br (U.ne (a (U.toNat (lk size (f (U.toNat (0 : Int))).fst (f
      (U.toNat (0 : Int))).snd.fst (f (U.toNat (0 : Int))).snd.snd.fst))).1 (Int.ofNat cN)) (.ret (.tup [.agg [.lit (.slice none (nat_lit 0) (nat_lit 0)), .lit (.int .i64 0), .lit (.int
      .i64 0), .lit (.int .i64 0), .lit (.slice none (nat_lit 0) (nat_lit 0))], .lit (.int .i64 51)])) (.ask (lk Sm7 sN) (.br (U.not (lk srB sN a)) (.ret (.tup [.agg [.lit (.slice none
      (nat_lit 0) (nat_lit 0)), .lit (.int .i64 0), .lit (.int .i64 0), .lit (.int .i64 0), .lit (.slice none (nat_lit 0) (nat_lit 0))], .lit (.int .i64 51)])) (.ask ((0 : Nat) < n ∧ n ≤
      (10000 : Nat)) (.ask (lk PreFr (nat_lit 0) (lk size (f (U.toNat (0 : Int))).1 (f (U.toNat (0 : Int))).2.1 (f (U.toNat (0 : Int))).2.2.1) (lk size (f (U.toNat (1 : Int))).1 (f
      (U.toNat (1 : Int))).2.1 (f (U.toNat (1 : Int))).2.2.1) sN a cN b ∧ (1 : Nat) = (1 : Nat) ∧ (0 : Nat) = (0 : Nat) ∧ (2 : Nat) = (2 : Nat) ∧ (0 : Nat) = (0 : Nat) ∧ (5 : Nat) = (5 :
      Nat) ∧ (0 : Nat) = (0 : Nat) ∧ (6 : Nat) = (6 : Nat) ∧ (0 : Nat) = (0 : Nat) ∧ lk size (f (U.toNat (0 : Int))).1 (f (U.toNat (0 : Int))).2.1 (f (U.toNat (0 : Int))).2.2.1 = lk size
      (f (U.toNat (0 : Int))).1 (f (U.toNat (0 : Int))).2.1 (f (U.toNat (0 : Int))).2.2.1 ∧ (0 : Int) = (0 : Int) ∧ (34 : Nat) = (34 : TypeId) ∧ [.lit (.slice none (0 : Nat) (0 : Nat)),
      .lit (.int .i64 0), .lit (.int .i64 0), .lit (.int .i64 0), .lit (.slice none (0 : Nat) (0 : Nat))] = zeV ∧ (38 : Nat) = (38 : TypeId) ∧ (96 : Nat) = (96 : TypeId) ∧ SV.lit
      (Value.slice none (0 : Nat) (0 : Nat)) = SV.lit (Value.slice none (0 : Nat) (0 : Nat)) ∧ (38 : Nat) = (38 : TypeId)) (.br (lk frB (lk size (f (U.toNat (0 : Int))).1 (f (U.toNat (0 :
      Int))).2.1 (f (U.toNat (0 : Int))).2.2.1) (lk size (f (U.toNat (1 : Int))).1 (f (U.toNat (1 : Int))).2.1 (f (U.toNat (1 : Int))).2.2.1) a b) (.ret (.tup [.agg [.row [.int .i64, .int
      .i64, .int .i64] n f, .lit (.int .i64 k), .lit (.int .i64 s), .lit (.int .i64 h), .row [.int .i64] cN (lk frF (lk size (f (U.toNat (0 : Int))).1 (f (U.toNat (0 : Int))).2.1 (f
      (U.toNat (0 : Int))).2.2.1) (lk size (f (U.toNat (1 : Int))).1 (f (U.toNat (1 : Int))).2.1 (f (U.toNat (1 : Int))).2.2.1) a b)], .lit (.int .i64 0)])) (.ret (.tup [.agg [.lit
      (.slice none (nat_lit 0) (nat_lit 0)), .lit (.int .i64 0), .lit (.int .i64 0), .lit (.int .i64 0), .lit (.slice none (nat_lit 0) (nat_lit 0))], .lit (.int .i64
      51)]))))))))))))))))))) := by kernel_rfl
end Go.RX.Span

/- Sparse domains: FromRows: the loops. -/
set_option linter.unusedVariables false
set_option linter.unusedSimpArgs false
set_option maxRecDepth 100000
namespace Go.RX.Span
open Go Go.RX
attribute [local irreducible] sx conB

section
variable {R C : Int} {sN : Nat} {a : Nat → R1} {cN : Nat} {b : Nat → R1} {n0 : Nat}
theorem up_mono {n : Nat} {e : Nat → R1} (h : UpR n e) : ∀ {i j : Nat}, i ≤ j → j < n → nv e i ≤ nv e j := by
  intro i j hij
  induction j with
  | zero => intro _; obtain rfl : i = 0 := by omega
            exact Int.le_refl _
  | succ j ih =>
    intro hj
    by_cases g : i = j + 1
    · subst g; exact Int.le_refl _
    · have := ih (by omega) (by omega)
      have := h j hj
      omega
theorem st_bnd (h : PreFr n0 R C sN a cN b) {k : Nat} (hk : k ≤ R.toNat) : 0 ≤ nv a k ∧ nv a k ≤ cN ∧ ((stA a k : Nat) : Int) = nv a k := by
  obtain ⟨_, _, hs, _, h0, h1, hu⟩ := h
  have x := up_mono hu (Nat.zero_le k) (by omega)
  have y := up_mono hu hk (by omega)
  refine ⟨by omega, by omega, ?_⟩
  unfold stA; omega
theorem st_mono (h : PreFr n0 R C sN a cN b) {i j : Nat} (hij : i ≤ j) (hj : j ≤ R.toNat) : stA a i ≤ stA a j := by
  have x := (st_bnd h (k := i) (by omega)).2.2
  have y := (st_bnd h hj).2.2
  obtain ⟨_, _, hs, _, _, _, hu⟩ := h
  have z := up_mono hu hij (by omega)
  omega
theorem fr_row (h : PreFr n0 R C sN a cN b) {k i : Nat} (hk : k < R.toNat) (h1 : stA a k ≤ i) (h2 : i < stA a (k + 1)) : frF R C a b i = ((k : Int) * C + nv b i, ()) := by
  have x := (st_bnd h (k := k) (by omega)).2.2
  have y := (st_bnd h (k := k + 1) (by omega)).2.2
  have hs := h.2.2.1
  have hu : UpR sN a := h.2.2.2.2.2.2
  have e : bsI R.toNat (shF 1 a) ((i : Int) + 1) = k := by
    refine bsI_of (by omega) (fun j hj => ?_) fun j hj1 hj2 => ?_
    · have := up_mono hu (i := j + 1) (j := k) (by omega) (by omega)
      show nv a (j + 1) < _
      omega
    · have := up_mono hu (i := k + 1) (j := j + 1) (by omega) (by omega)
      show _ ≤ nv a (j + 1)
      omega
  exact congrArg (fun t : Nat => (((t : Int) * C + nv b i, ()) : R1)) e
end
theorem rwG_lt {N : Nat} {G : Nat → R1} {r C : Int} {B : Nat → R1} {t : Nat} (h : t < N) : rwG N G r C B t = G t := if_pos h
theorem rwG_ge {N : Nat} {G : Nat → R1} {r C : Int} {B : Nat → R1} {t i : Nat} (h : t = N + i) : rwG N G r C B t = (r * C + nv B i, ()) :=
  (if_neg (by omega)).trans (congrArg (fun t : Nat => ((r * C + nv B t, ()) : R1)) (by omega))
theorem andb_t (u : Bool) : U.andb u (U.isz 0) = u := by rw [U.andb_eq, U.isz_eq]; simp
theorem andb_s (u : Bool) (i : Nat) : U.andb u (U.isz (i + 1)) = false := by rw [U.andb_eq, isz_s]; simp
structure XFi where
  (n : Nat) (f : Nat → R3) (k s h : Int) (R C j r : Int) (sN : Nat) (a : Nat → R1) (cN : Nat) (b : Nat → R1) (L : Nat) (B : Nat → R1) (u : Bool) (N : Nat) (G : Nat → R1) (i : Nat)
noncomputable abbrev VFi (q : XFi) : Few := (slFi q.R q.j q.r (lastE q.B q.i) q.L q.B q.i, memF q.n q.f q.k q.s q.h q.R q.C q.sN q.a q.cN q.b (U.andb q.u (U.isz q.i)) (q.N + q.i) (rwG q.N q.G q.r q.C q.B))
noncomputable def O1Fi (q : XFi) : Ex × Few := (.exit 3, (slFo q.R q.j ++ [.any, .any, .any, .any, .any], memF q.n q.f q.k q.s q.h q.R q.C q.sN q.a q.cN q.b (U.andb q.u (U.isz q.L)) (q.N + q.L) (rwG q.N q.G q.r q.C q.B)))
noncomputable def O2Fi : Ex × Few := (.ret, ([.any, .ptr 1 0, .ki .i64 51, .any, .any, .any, .any, .any, .any, .any, .any, .any], [(0, none), (0, some (.cells zeV 38)), (0, none), (0, none), (0, none)]))
def PhiFi (n0 : Nat) (q : XFi) : Prop := PreFi n0 q.R q.C q.r q.N q.L ∧ q.i ≤ q.L ∧ SpAt q.C q.i q.B
def ZFi (q : XFi) (o : Ex × Few) : Prop := (SpAt q.C q.L q.B → o = O1Fi q) ∧ (¬ SpAt q.C q.L q.B → o = O2Fi)
theorem rc_rl {ρ : Ren} {sN cN : Nat} {a b : Nat → R1} : RlL ρ [.row [.int .i64] sN a, .row [.int .i64] cN b] [.row [.int .i64] sN a, .row [.int .i64] cN b] := ⟨⟨rfl, sameRow_refl _ _⟩, ⟨rfl, sameRow_refl _ _⟩, trivial⟩
theorem bad_i {vs : List SV} {m : Mem} (h : RlL [none, some 1, none, none, none] vs O2Fi.2.1) (h1 : ∃ g, m.fn 1 = some (.cells g 38) ∧ RlL [none, some 1, none, none, none] g zeV) : Wk 121 [3,4,5,7,9,73,74,10,11,90,91,92] 0 (vs, m) O2Fi.2 := by
  obtain ⟨g, h1, h2⟩ := h1
  refine wk_of [none, some 1, none, none, none] rfl (Nat.zero_le _) (ren1z _) h ⟨?_, trivial⟩
  show RlK _ m 1 (.cells zeV 38)
  unfold RlK
  show (match m.fn 1 with | some (.cells cs1 e1) => e1 = 38 ∧ RlL _ cs1 zeV | _ => False)
  rw [h1]
  exact ⟨rfl, h2⟩
theorem roundFi (n0 : Nat) (q : XFi) (hq : PhiFi n0 q) : ((sx EFr [] n0 (loopOf P 17 17) (mkS 121 [3,4,5,7,9,73,74,10,11,90,91,92] (VFi q).1, (VFi q).2)).bind (proj 121 [3,4,5,7,9,73,74,10,11,90,91,92])).All fun r => match r.1 with
      | .normal => ∃ q', PhiFi n0 q' ∧ q'.L - q'.i < q.L - q.i ∧ Wk 121 [3,4,5,7,9,73,74,10,11,90,91,92] n0 r.2 (VFi q') ∧ ∀ o, ZFi q' o → ZFi q o
      | e => ∃ s, ZFi q (e, s) ∧ Wk 121 [3,4,5,7,9,73,74,10,11,90,91,92] n0 r.2 s := by
  obtain ⟨n, f, k, s, h, R, C, j, r, sN, a, cN, b, L, B, u, N, G, i⟩ := q
  obtain ⟨hp, hi, hs⟩ := hq
  have hp : PreFi n0 R C r N L := hp
  have hi : i ≤ L := hi
  have hs : SpAt C i B := hs
  have hp' := hp
  obtain ⟨h0, r0, r1, R1', C0, C1, hN, hL⟩ := hp'
  subst h0
  refine T.all_of_eq (t_Fi n f k s h R C j r (lastE B i) sN a cN b L B (i : Int) (U.andb u (U.isz i)) (N + i) (rwG N G r C B)) ?_
  by_cases hlt : i < L
  · rw [add1p (j := i) (by omega), tnH]
    have bad : ∀ {vs : List SV} {m : Mem}, ¬ SpAt C (i + 1) B → RlL [none, some 1, none, none, none] vs O2Fi.2.1 → (∃ g, m.fn 1 = some (.cells g 38) ∧ RlL [none, some 1, none, none, none] g zeV) → ∃ s', ZFi ⟨n, f, k, s, h, R, C, j, r, sN, a, cN, b, L, B, u, N, G, i⟩ (.ret, s') ∧ Wk 121 [3,4,5,7,9,73,74,10,11,90,91,92] 0 (vs, m) s' := fun hb h1 h2 =>
      ⟨O2Fi.2, ⟨fun g => absurd (spAt_le g hlt) hb, fun _ => rfl⟩, bad_i h1 h2⟩
    obtain ⟨b0, b1⟩ := rc_bnd r0 (by omega) C0 C1
    refine ⟨fun _ => ⟨⟨by omega, by omega⟩, fun g => bad (fun h => ?_) ⟨rl_any _, ⟨rfl, rfl⟩, ⟨rfl, rfl⟩, rl_any _, rl_any _, rl_any _, rl_any _, rl_any _, rl_any _, rl_any _, rl_any _, rl_any _, trivial⟩ ⟨_, rfl, zeV_rl⟩, fun g => ⟨fun g2 => bad (fun h => ?_) ⟨rl_any _, ⟨rfl, rfl⟩, ⟨rfl, rfl⟩, rl_any _, rl_any _, rl_any _, rl_any _, rl_any _, rl_any _, rl_any _, rl_any _, rl_any _, trivial⟩ ⟨_, rfl, zeV_rl⟩, fun g2 => ?_⟩⟩, fun g => absurd (U.lt_f.mp g) (by simp only [Int.ofNat_eq_natCast]; omega)⟩
    · have g : nv B i ≤ lastE B i := U.le_t.mp g
      have := (spAt_last h).1; omega
    · have g2 : nv B i ≥ C := U.ge_t.mp g2
      have := (spAt_last h).2; omega
    · have g : lastE B i < nv B i := U.le_f.mp g
      have g2 : nv B i < C := U.ge_f.mp g2
      have hs' := spAt_step hs g g2
      have v0 : 0 ≤ nv B i := (spAt_s.1 hs').2.1
      have em : U.add .i64 (U.mul .i64 r C) (B i).1 = r * C + nv B i := by
        show U.add .i64 (U.mul .i64 r C) (nv B i) = _
        rw [U.mul64 (by unfold I64; omega), U.add64 (by unfold I64; omega)]
      rw [em]
      refine ⟨by show (N + i + 1) * 8 ≤ 140737488351232; omega, ⟨n, f, k, s, h, R, C, j, r, sN, a, cN, b, L, B, u, N, G, i + 1⟩, ⟨hp, hlt, hs'⟩, (show L - (i + 1) < L - i by omega), ?_, fun o ho => ho⟩
      refine wk_of [some 0, some 1, some 2, some 3, some 6] rfl (Nat.zero_le _) (ren1z _) ⟨⟨rfl, rfl⟩, ⟨rfl, rfl⟩, rl_any _, ⟨rfl, rfl⟩, ⟨rfl, rfl⟩, rfl, rfl, rfl, ?_, ⟨rfl, row1H fun _ _ => rfl⟩, rfl, rfl, trivial⟩
        ⟨⟨rfl, rc_rl⟩, ⟨rfl, zeV_rl⟩, ⟨rfl, rfl, rfl, trivial⟩, ⟨rfl, out_rl rfl (andb_s u i).symm rfl⟩, ⟨rfl, (andb_s u i).symm, rfl, row1H fun t ht => ?_⟩, trivial⟩
      · show Value.int .i64 (nv B i) = Value.int .i64 (lastE B (i + 1))
        unfold lastE; rw [if_neg (by omega), Nat.add_sub_cancel]
      · refine (U.cat_eq _ _ _ _).trans ?_
        have ht : t < N + i + 1 := ht
        by_cases h1 : t < N + i
        · exact if_pos h1
        · obtain rfl : t = N + i := by omega
          exact (if_neg h1).trans (rwG_ge rfl).symm
  · obtain rfl : i = L := by omega
    refine ⟨fun g => absurd (U.lt_t.mp g) (by simp only [Int.ofNat_eq_natCast]; omega), fun _ => ⟨(O1Fi ⟨n, f, k, s, h, R, C, j, r, sN, a, cN, b, i, B, u, N, G, i⟩).2, ⟨fun _ => rfl, fun h => absurd hs h⟩, ?_⟩⟩
    exact wk_of [some 0, some 1, some 2, some 3, some 4] rfl (Nat.zero_le _) (ren1z _) ⟨⟨rfl, rfl⟩, ⟨rfl, rfl⟩, rl_any _, ⟨rfl, rfl⟩, ⟨rfl, rfl⟩, rfl, rfl, rl_any _, rl_any _, rl_any _, rl_any _, rl_any _, trivial⟩
        ⟨⟨rfl, rc_rl⟩, ⟨rfl, zeV_rl⟩, ⟨rfl, rfl, rfl, trivial⟩, ⟨rfl, out_rl rfl rfl rfl⟩, ⟨rfl, rfl, rfl, row1H fun _ _ => rfl⟩, trivial⟩
theorem loopFi : LoopOK P (loopOf P 17 17) (few 121 [3,4,5,7,9,73,74,10,11,90,91,92] gFi) :=
  loop_few (E := EFr) mixed EFr_ok loopsOK_none 121 [3,4,5,7,9,73,74,10,11,90,91,92] (X := XFi) gFi (fun _ x => VFi x) PhiFi (fun q => q.L - q.i) (fun _ x o => ZFi x o)
    (fun n0 st rr hh => by
      unfold gFi at hh
      split at hh
      · rename_i n0 p0 q0 p1 q1 s2 p2 q2 p3 q3 R' j r l L B L' z e0 sN a cN b t0 e1 zs t1 e2 R C t2 e3 n f k s h u bC N t3 e4 u' N' G t4
        obtain ⟨hp, rfl, rfl, rfl, rfl, rfl, rfl, rfl, rfl, rfl, rfl, rfl, rfl, rfl, rfl, rfl, rfl, rfl, rfl, rfl, rfl, rfl⟩ := (T.is_ask hh).1
        have hb := (T.is_ask hh).2
        rw [lk_eq] at hp
        have h0 := hp.1
        subst h0
        refine ⟨⟨n, f, k, s, h, R', C, j, r, sN, a, cN, b, L, B, u', N', G, 0⟩, ⟨hp, Nat.zero_le _, fun i hi => absurd hi (Nat.not_lt_zero i)⟩, ?_, fun o ho => ?_⟩
        · refine wk_of [some 0, some 1, some 2, some 3, some 4] rfl (Nat.zero_le _) (ren1z _) ⟨⟨rfl, rfl⟩, ⟨rfl, rfl⟩, rl_any _, ⟨rfl, rfl⟩, ⟨rfl, rfl⟩, rfl, rfl, rfl, rfl, ⟨rfl, row1H fun _ _ => rfl⟩, rfl, rfl, trivial⟩
            ⟨⟨rfl, rc_rl⟩, ⟨rfl, zeV_rl⟩, ⟨rfl, rfl, rfl, trivial⟩, ⟨rfl, out_rl rfl (andb_t u').symm rfl⟩, ⟨rfl, (andb_t u').symm, rfl, row1H fun t ht => ?_⟩, trivial⟩
          exact (rwG_lt ht).symm
        · rcases hb with ⟨he, hb⟩ | ⟨he, hb⟩
          · rw [lk_eq] at he
            obtain rfl := T.is_ret hb
            rw [ho.1 (okAt_t.1 he)]
            simp only [lk_eq]; rfl
          · rw [lk_eq] at he
            obtain rfl := T.is_ret hb
            exact ho.2 (okAt_f.1 he)
      · exact hh.elim)
    roundFi
theorem LFi_ok : LoopsOK P LFi (bodyOf P 17) := loopsOK_of (by kernel_rfl) fun k g hk => by
  simp only [List.mem_singleton, Prod.mk.injEq, LoopC.sum.injEq] at hk
  obtain ⟨rfl, rfl⟩ := hk
  exact loopFi
theorem LFi_sub : LoopsOK P LFi (loopOf P 17 13) := LFi_ok.sub (fun l hl => by
  rw [show loopsIn (bodyOf P 17) = loopOf P 17 13 :: loopsIn (loopOf P 17 13) by kernel_rfl]
  exact List.mem_cons_of_mem _ hl) fun l hl => by
  rw [show rangesIn (loopOf P 17 13) = [] by kernel_rfl] at hl; cases hl
end Go.RX.Span

/- Sparse domains: FromRows. -/
set_option linter.unusedVariables false
set_option linter.unusedSimpArgs false
set_option maxRecDepth 100000
namespace Go.RX.Span
open Go Go.RX
attribute [local irreducible] sx conB

structure XFo where
  (n : Nat) (f : Nat → R3) (k s h : Int) (R C : Int) (sN : Nat) (a : Nat → R1) (cN : Nat) (b : Nat → R1) (j : Nat)
noncomputable abbrev VFo (q : XFo) : Few := (slFo q.R q.j, memF q.n q.f q.k q.s q.h q.R q.C q.sN q.a q.cN q.b (U.isz (stA q.a q.j)) (stA q.a q.j) (frF q.R q.C q.a q.b))
noncomputable def O1Fo (q : XFo) : Ex × Few := (.exit 1, (slFo q.R q.R, memF q.n q.f q.k q.s q.h q.R q.C q.sN q.a q.cN q.b (U.isz q.cN) q.cN (frF q.R q.C q.a q.b) ++ [(0, none), (0, none)]))
noncomputable def O2Fo : Ex × Few := (.ret, badF)
def PhiFo (n0 : Nat) (q : XFo) : Prop := PreFr n0 q.R q.C q.sN q.a q.cN q.b ∧ q.j ≤ q.R.toNat ∧ ∀ k, k < q.j → SpAt q.C (stA q.a (k + 1) - stA q.a k) (shF (stA q.a k) q.b)
def ZFo (q : XFo) (o : Ex × Few) : Prop := (FrOk q.R q.C q.a q.b → o = O1Fo q) ∧ (¬ FrOk q.R q.C q.a q.b → o = O2Fo)
theorem slFo_rl {ρ : Ren} {R j : Int} (h0 : ρ.of 0 = some 0) (h1 : ρ.of 1 = some 1) (h2 : ρ.of 2 = some 2) (h3 : ρ.of 3 = some 3) : RlL ρ (slFo R j) (slFo R j) := ⟨⟨h0, rfl⟩, ⟨h1, rfl⟩, rl_any _, ⟨h2, rfl⟩, ⟨h3, rfl⟩, rfl, rfl, trivial⟩
theorem roundFo (n0 : Nat) (q : XFo) (hq : PhiFo n0 q) : ((sx EFr LFi n0 (loopOf P 17 13) (mkS 121 [3,4,5,7,9,73,74] (VFo q).1, (VFo q).2)).bind (proj 121 [3,4,5,7,9,73,74])).All fun r => match r.1 with
      | .normal => ∃ q', PhiFo n0 q' ∧ q'.R.toNat - q'.j < q.R.toNat - q.j ∧ Wk 121 [3,4,5,7,9,73,74] n0 r.2 (VFo q') ∧ ∀ o, ZFo q' o → ZFo q o
      | e => ∃ s, ZFo q (e, s) ∧ Wk 121 [3,4,5,7,9,73,74] n0 r.2 s := by
  obtain ⟨n, f, k, s, h, R, C, sN, a, cN, b, j⟩ := q
  obtain ⟨hp, hj, hall⟩ := hq
  have hp : PreFr n0 R C sN a cN b := hp
  have hj : j ≤ R.toNat := hj
  have hall : ∀ k, k < j → SpAt C (stA a (k + 1) - stA a k) (shF (stA a k) b) := hall
  have hp' := hp
  obtain ⟨h0, ⟨R0, R1', C0, C1⟩, hs, hcN, a0, aR, hu⟩ := hp'
  subst h0
  refine T.all_of_eq (t_Fo n f k s h R C (j : Int) sN a cN b (U.isz (stA a j)) (stA a j) (frF R C a b)) ?_
  by_cases hlt : (j : Int) < R
  · have e2 : U.add .i64 (j : Int) 1 = ((j + 1 : Nat) : Int) := by rw [U.add64 (by unfold I64; omega)]; omega
    have hj1 : j + 1 ≤ R.toNat := by omega
    obtain ⟨x0, x1, x2⟩ := st_bnd hp (k := j) hj
    obtain ⟨y0, y1, y2⟩ := st_bnd hp (k := j + 1) hj1
    have mo := st_mono hp (Nat.le_add_right j 1) hj1
    have ta : U.toNat (a j).1 = stA a j := U.toNat_eq _
    have tb : U.toNat (a (j + 1)).1 = stA a (j + 1) := U.toNat_eq _
    have hz : (nv a j : Int) = (a j).1 := rfl
    rw [e2, tnH, tnH]
    simp only [lk_eq]
    rw [ta, tb, U.nsub_eq]
    have eB : (fun i => b (i + stA a j)) = shF (stA a j) b := rfl
    rw [eB]
    refine ⟨fun _ => ⟨⟨by omega, by omega⟩, ⟨by omega, by omega⟩, ⟨x0, (show nv a j ≤ nv a (j + 1) by omega), y1⟩, ⟨⟨rfl, by omega, hlt, R1', C0, C1, by omega, by omega⟩, trivial, trivial, trivial, trivial, trivial, trivial, trivial, trivial, trivial, trivial, trivial, trivial, trivial, trivial, trivial, trivial, trivial, trivial, trivial, trivial, trivial⟩, fun g => ?_, fun g => ?_⟩, fun g => absurd (U.lt_f.mp g) (by omega)⟩
    · have ok := okAt_t.1 g
      refine ⟨⟨n, f, k, s, h, R, C, sN, a, cN, b, j + 1⟩, ⟨hp, hj1, fun t ht => ?_⟩, (show R.toNat - (j + 1) < R.toNat - j by omega), ?_, fun o ho => ho⟩
      · have ht : t < j + 1 := ht
        by_cases et : t = j
        · subst et; exact ok
        · exact hall t (by omega)
      · have eN : stA a j + (stA a (j + 1) - stA a j) = stA a (j + 1) := by omega
        rw [isz_add, eN]
        refine wk_of [some 0, some 1, some 2, some 3, some 4] rfl (Nat.zero_le _) (ren1z _) (slFo_rl rfl rfl rfl rfl) ⟨⟨rfl, rc_rl⟩, ⟨rfl, zeV_rl⟩, ⟨rfl, rfl, rfl, trivial⟩, ⟨rfl, out_rl rfl rfl rfl⟩, ⟨rfl, rfl, rfl, row1H fun t ht => ?_⟩, trivial⟩
        have ht : t < stA a (j + 1) := ht
        by_cases h1 : t < stA a j
        · exact rwG_lt h1
        · obtain ⟨d, rfl⟩ : ∃ d, t = stA a j + d := ⟨t - stA a j, by omega⟩
          refine (rwG_ge rfl).trans (Eq.trans ?_ (fr_row hp (by omega) (by omega) ht).symm)
          exact congrArg (fun t : Nat => (((j : Int) * C + nv b t, ()) : R1)) (Nat.add_comm d (stA a j))
    · have nok := okAt_f.1 g
      refine ⟨badF, ⟨fun hk => absurd (hk j (show j < R.toNat by omega)) nok, fun _ => rfl⟩, ?_⟩
      exact wk_of [none, some 1, none, none, none, none, none] rfl (Nat.zero_le _) (ren1z _) ⟨rl_any _, ⟨rfl, rfl⟩, ⟨rfl, rfl⟩, rl_any _, rl_any _, rl_any _, rl_any _, trivial⟩ ⟨⟨rfl, zeV_rl⟩, trivial⟩
  · have hR : R = ((j : Nat) : Int) := by omega
    have hR2 : R.toNat = j := by omega
    have ok : FrOk R C a b := fun k hk => hall k (by omega)
    have ec : stA a j = cN := by
      have e1 := (st_bnd hp (k := j) hj).2.2
      have e2 : nv a j = cN := by rw [← hR2]; exact aR
      omega
    refine ⟨fun g => absurd (U.lt_t.mp g) hlt, fun _ => ⟨(O1Fo ⟨n, f, k, s, h, R, C, sN, a, cN, b, j⟩).2, ⟨fun _ => rfl, fun hk => absurd ok hk⟩, ?_⟩⟩
    rw [ec]
    exact wk_of [some 0, some 1, some 2, some 3, some 4, none, none] rfl (Nat.zero_le _) (ren1z _) ⟨⟨rfl, rfl⟩, ⟨rfl, rfl⟩, rl_any _, ⟨rfl, rfl⟩, ⟨rfl, rfl⟩, rfl, (by show Value.int .i64 (j : Int) = Value.int .i64 R; rw [hR]), trivial⟩ ⟨⟨rfl, rc_rl⟩, ⟨rfl, zeV_rl⟩, ⟨rfl, rfl, rfl, trivial⟩, ⟨rfl, out_rl rfl rfl rfl⟩, ⟨rfl, rfl, rfl, row1H fun _ _ => rfl⟩, trivial⟩
theorem loopFo : LoopOK P (loopOf P 17 13) (few 121 [3,4,5,7,9,73,74] gFo) :=
  loop_few (E := EFr) mixed EFr_ok LFi_sub 121 [3,4,5,7,9,73,74] (X := XFo) gFo (fun _ x => VFo x) PhiFo (fun q => q.R.toNat - q.j) (fun _ x o => ZFo x o)
    (fun n0 st rr hh => by
      unfold gFo at hh
      split at hh
      · rename_i n0 p1 q1 p2 q2 s3 p5 q5 p6 q6 R' z e0 e1 sN a cN b t1 e2 zs t2 e3 e4 e5 R C t5 e6 n f k s h nilS t6
        obtain ⟨hp, rfl, rfl, rfl, rfl, rfl, rfl, rfl, rfl, rfl, rfl, rfl, rfl, rfl, rfl, rfl, rfl⟩ := (T.is_ask hh).1
        have hb := (T.is_ask hh).2
        rw [lk_eq] at hp
        have h0 := hp.1
        subst h0
        have st0 : stA a 0 = 0 := by unfold stA; rw [hp.2.2.2.2.1]; rfl
        have zi : U.isz 0 = true := by rw [U.isz_eq]; rfl
        refine ⟨⟨n, f, k, s, h, R', C, sN, a, cN, b, 0⟩, ⟨hp, Nat.zero_le _, fun i hi => absurd hi (Nat.not_lt_zero i)⟩, ?_, fun o ho => ?_⟩
        · show Wk _ _ _ _ (slFo R' ((0 : Nat) : Int), memF n f k s h R' C sN a cN b (U.isz (stA a 0)) (stA a 0) (frF R' C a b))
          rw [st0]
          exact wk_of [some 1, some 2, some 5, some 6, none] rfl (Nat.zero_le _) (ren1z _) ⟨⟨rfl, rfl⟩, ⟨rfl, rfl⟩, rl_any _, ⟨rfl, rfl⟩, ⟨rfl, rfl⟩, rfl, rfl, trivial⟩ ⟨⟨rfl, rc_rl⟩, ⟨rfl, zeV_rl⟩, ⟨rfl, rfl, rfl, trivial⟩, ⟨rfl, ⟨rfl, sameRow_refl _ _⟩, rfl, rfl, rfl, ⟨rfl, zi, rfl⟩, trivial⟩, ⟨zi, rfl⟩, trivial⟩
        · rcases hb with ⟨he, hb⟩ | ⟨he, hb⟩
          · rw [lk_eq] at he
            obtain rfl := T.is_ret hb
            rw [ho.1 (frB_t.1 he)]
            simp only [lk_eq]; rfl
          · rw [lk_eq] at he
            obtain rfl := T.is_ret hb
            exact ho.2 (frB_f.1 he)
      · exact hh.elim)
    roundFo
theorem lFo_ok : ∀ p ∈ lFo, LoopsOK P p.2 (bodyOf P p.1) := by
  intro p hp
  simp only [lFo, List.mem_singleton] at hp
  subst hp
  refine loopsOK_of (by kernel_rfl) fun k g hk => ?_
  simp only [List.mem_cons, List.not_mem_nil, or_false, Prod.mk.injEq, LoopC.sum.injEq] at hk
  rcases hk with ⟨rfl, rfl⟩ | ⟨rfl, rfl⟩
  · exact loopFi
  · exact loopFo
section
variable (n : Nat) (f : Nat → R3) (k s h : Int) (sN : Nat) (a : Nat → R1) (cN : Nat) (b : Nat → R1)
open Classical in
noncomputable def frE : Int := if pdE n f k s h ≠ 0 then pdE n f k s h else if n ≠ 2 then 50 else if (sN : Int) ≠ szR (f 0) + 1 ∨ 5000 < cN then 5
  else if nv a 0 ≠ 0 ∨ nv a (szR (f 0)).toNat ≠ cN ∨ ¬ UpR sN a ∨ ¬ FrOk (szR (f 0)) (szR (f 1)) a b then 51 else 0
end
noncomputable def c_FromRows : Con := fun args => match args with
  | [.agg [.row [.int .i64, .int .i64, .int .i64] n f, .lit (.int .i64 k), .lit (.int .i64 s), .lit (.int .i64 h)], .agg [.row [.int .i64] sN a, .row [.int .i64] cN b]] => .ask (Row64 n f)
    (.ret (.tup [.agg [.row [.int .i64, .int .i64, .int .i64] (lk zn (lk frE n f k s h sN a cN b) n) f, .lit (.int .i64 (lk zi (lk frE n f k s h sN a cN b) k)), .lit (.int .i64 (lk zi (lk frE n f k s h sN a cN b) s)), .lit (.int .i64 (lk zi (lk frE n f k s h sN a cN b) h)),
      .row [.int .i64] (lk zn (lk frE n f k s h sN a cN b) cN) (lk frF (lk szR (f 0)) (lk szR (f 1)) a b)], .lit (.int .i64 (lk frE n f k s h sN a cN b))]))
  | _ => .stuck 1
/-! The cases of the error. -/
section
variable {n : Nat} {f : Nat → R3} {k s h : Int} {sN : Nat} {a : Nat → R1} {cN : Nat} {b : Nat → R1}
theorem frE_1 (g : pdE n f k s h ≠ 0) : pdE n f k s h = frE n f k s h sN a cN b := by unfold frE; rw [if_pos g]
theorem frE_2 (g : pdE n f k s h = 0) (g2 : n ≠ 2) : (50 : Int) = frE n f k s h sN a cN b := by unfold frE; rw [if_neg (fun x => x g), if_pos g2]
theorem frE_3 (g : pdE n f k s h = 0) (g2 : n = 2) (g3 : (sN : Int) ≠ szR (f 0) + 1 ∨ 5000 < cN) : (5 : Int) = frE n f k s h sN a cN b := by unfold frE; rw [if_neg (fun x => x g), if_neg (fun x => x g2), if_pos g3]
theorem frE_4 (g : pdE n f k s h = 0) (g2 : n = 2) (g3 : (sN : Int) = szR (f 0) + 1) (g4 : cN ≤ 5000) (g5 : nv a 0 ≠ 0 ∨ nv a (szR (f 0)).toNat ≠ cN ∨ ¬ UpR sN a ∨ ¬ FrOk (szR (f 0)) (szR (f 1)) a b) : (51 : Int) = frE n f k s h sN a cN b := by
  unfold frE; rw [if_neg (fun x => x g), if_neg (fun x => x g2), if_neg (fun x => x.elim (fun y => y g3) (fun y => by omega)), if_pos g5]
theorem frE_5 (g : pdE n f k s h = 0) (g2 : n = 2) (g3 : (sN : Int) = szR (f 0) + 1) (g4 : cN ≤ 5000) (h1 : nv a 0 = 0) (h2 : nv a (szR (f 0)).toNat = cN) (h3 : UpR sN a) (h4 : FrOk (szR (f 0)) (szR (f 1)) a b) : frE n f k s h sN a cN b = 0 := by
  unfold frE; rw [if_neg (fun x => x g), if_neg (fun x => x g2), if_neg (fun x => x.elim (fun y => y g3) (fun y => by omega)), if_neg (fun x => x.elim (fun y => y h1) fun x => x.elim (fun y => y h2) fun x => x.elim (fun y => y h3) fun y => y h4)]
theorem pd_sz (g : pdE n f k s h = 0) (g2 : n = 2) : 0 ≤ szR (f 0) ∧ szR (f 0) ≤ 2000001 ∧ 0 ≤ szR (f 1) ∧ szR (f 1) ≤ 2000001 := by
  obtain ⟨⟨_, d2⟩, _⟩ := chD_zero.1 (pdE_zero.1 g).1
  obtain ⟨_, a1, a2⟩ := rr_size (d2 0 (by omega))
  obtain ⟨_, b1, b2⟩ := rr_size (d2 1 (by omega))
  exact ⟨a1, a2, b1, b2⟩
end
theorem FromRows_ok : ConOK P 17 c_FromRows := con_cl (allOKL mixed kFr_ok lFo_ok) 10 17 fun args r hh => by
  unfold c_FromRows at hh
  split at hh
  · rename_i n f k s h sN a cN b
    have hp := (T.is_ask hh).1
    obtain rfl := T.is_ret (T.is_ask hh).2
    refine T.all_of_eq (t_Fr n f k s h sN a cN b) ?_
    have tn1' : U.toNat (1 : Int) = 1 := tn 1
    simp only [lk_eq, tn0, tn1', Int.ofNat_eq_natCast]
    refine ⟨hp, fun g => ?_, fun g => ⟨fun g2 => ?_, fun g2 => ?_⟩⟩
    · have g := U.ne_t.mp g
      exact cl_err (frE_1 g) g
    · have g := U.ne_f.mp g
      have g2 := U.ne_t.mp g2
      exact cl_err (frE_2 g (by omega)) (by decide)
    · have g := U.ne_f.mp g
      have g2 : (n : Int) = 2 := U.ne_f.mp g2
      have h2 : n = 2 := by omega
      obtain ⟨R0, R1', C0, C1⟩ := pd_sz g h2
      have ea : U.add .i64 (size (f 0).1 (f 0).2.1 (f 0).2.2.1) 1 = szR (f 0) + 1 := U.add64 (by show I64 (szR (f 0) + 1); unfold I64; omega)
      have et : U.toNat (size (f 0).1 (f 0).2.1 (f 0).2.2.1) = (szR (f 0)).toNat := by rw [U.toNat_eq]; rfl
      rw [ea, et]
      refine ⟨⟨by omega, by omega⟩, hp 0 (by omega), ⟨by omega, by omega⟩, hp 1 (by omega), fun g3 => ?_, fun g3 => ⟨fun g4 => ?_, fun g4 => ⟨?_, fun g5 => ?_, fun g5 => ⟨?_, fun g6 => ?_, fun g6 => ⟨?_, fun g7 => ?_, fun g7 => ⟨⟨by omega, by omega⟩, ?_, fun g8 => ?_, fun g8 => ?_⟩⟩⟩⟩⟩⟩
      · exact cl_err (frE_3 g h2 (.inl (U.ne_t.mp g3))) (by decide)
      · exact cl_err (frE_3 g h2 (.inr (by have := U.gt_t.mp g4; omega))) (by decide)
      all_goals have g3 : (sN : Int) = szR (f 0) + 1 := U.ne_f.mp g3
      all_goals have g4 : cN ≤ 5000 := by have := U.gt_f.mp g4; omega
      · exact ⟨by omega, by omega⟩
      · exact cl_err (frE_4 g h2 g3 g4 (.inl (U.ne_t.mp g5))) (by decide)
      · show 0 ≤ szR (f 0) ∧ szR (f 0) < (sN : Int)
        omega
      · exact cl_err (frE_4 g h2 g3 g4 (.inr (.inl (U.ne_t.mp g6)))) (by decide)
      · show sN ≤ 10000000
        omega
      · exact cl_err (frE_4 g h2 g3 g4 (.inr (.inr (.inl (srB_f.1 (U.not_t.mp g7)))))) (by decide)
      · exact ⟨⟨rfl, ⟨R0, R1', C0, C1⟩, (by show sN = (szR (f 0)).toNat + 1; omega), g4, U.ne_f.mp g5, U.ne_f.mp g6, srB_t.1 (U.not_f.mp g7)⟩, trivial, trivial, trivial, trivial, trivial, trivial, trivial, trivial, trivial, trivial, trivial, trivial, trivial, trivial, trivial, trivial⟩
      · have e0 := frE_5 g h2 g3 g4 (U.ne_f.mp g5) (U.ne_f.mp g6) (srB_t.1 (U.not_f.mp g7)) (frB_t.1 g8)
        rw [e0]
        exact ⟨⟨⟨rfl, sameRow_refl _ _⟩, .inl rfl, .inl rfl, .inl rfl, ⟨rfl, row1H fun _ _ => rfl⟩, rfl⟩, .inl rfl, rfl⟩
      · exact cl_err (frE_4 g h2 g3 g4 (.inr (.inr (.inr (frB_f.1 g8))))) (by decide)
  · exact hh.elim
end Go.RX.Span

/- Sparse domains: the reference's FromRows: the states. -/
set_option linter.unusedVariables false
set_option linter.unusedSimpArgs false
set_option maxRecDepth 100000
namespace Go.RX.Span
open Go Go.RX
attribute [local irreducible] sx conB

def PreR1 (n0 : Nat) (R : Int) (sN : Nat) : Prop := n0 = 0 ∧ 0 ≤ R ∧ R ≤ 2000001 ∧ sN = R.toNat + 1
noncomputable abbrev slR1 (R C i : Int) : List SV := [.ptr 0 0, .ptr 1 0, .ptr 2 0, .any, .lit (.int .i64 R), .lit (.int .i64 C), .lit (.int .i64 i)]
noncomputable abbrev mmR (n : Nat) (f : Nat → R3) (k s h : Int) (sN : Nat) (a : Nat → R1) (cN : Nat) (b : Nat → R1) : Mem :=
  [(0, some (.cells [.row [.int .i64, .int .i64, .int .i64] n f, .lit (.int .i64 k), .lit (.int .i64 s), .lit (.int .i64 h)] 26)), (0, some (.cells [.row [.int .i64] sN a, .row [.int .i64] cN b] 31)), (0, some (.cells zeV 29))]
noncomputable def gR1 : Nat → Few → T (Ex × Few)
  | n0, ([.ptr p0 q0, .ptr p1 q1, .ptr p2 q2, _, .lit (.int .i64 R), .lit (.int .i64 C), .ki .i64 z], [(_, some (.cells [.row [.int .i64, .int .i64, .int .i64] n f, .lit (.int .i64 k), .lit (.int .i64 s), .lit (.int .i64 h)] t0)), (_, some (.cells [.row [.int .i64] sN a, .row [.int .i64] cN b] t1)), (_, some (.cells zs t2)), _]) =>
    .ask (lk PreR1 n0 R sN ∧ p0 = 0 ∧ q0 = 0 ∧ p1 = 1 ∧ q1 = 0 ∧ p2 = 2 ∧ q2 = 0 ∧ z = 0 ∧ t0 = 26 ∧ t1 = 31 ∧ zs = zeV ∧ t2 = 29)
      (.br (lk srB sN a) (.ret (.exit 0, (slR1 R C R, mmR n f k s h sN a cN b ++ [(0, none)]))) (.ret (.ret, ([.any, .any, .ptr 2 0, .ki .i64 51, .any, .any, .any], [(0, none), (0, none), (0, some (.cells zeV 29)), (0, none)]))))
  | _, _ => .stuck 1
noncomputable abbrev slR2 (R C : Int) (N : Nat) (j : Int) : List SV := [.ptr 0 0, .ptr 1 0, .ptr 2 0, .any, .lit (.int .i64 R), .lit (.int .i64 C), .own false 3 N, .lit (.int .i64 j)]
noncomputable abbrev slR3 (R C : Int) (N : Nat) (j i : Int) : List SV := [.ptr 0 0, .ptr 1 0, .ptr 2 0, .any, .lit (.int .i64 R), .lit (.int .i64 C), .own false 3 N, .lit (.int .i64 j), .lit (.int .i64 i)]
noncomputable abbrev mmS (n : Nat) (f : Nat → R3) (k s h : Int) (sN : Nat) (a : Nat → R1) (cN : Nat) (b : Nat → R1) (N : Nat) (G : Nat → R1) : Mem := mmR n f k s h sN a cN b ++ [(0, some (.row false N [.int .i64] G 3))]
def PreR3 (n0 : Nat) (R C : Int) (sN : Nat) (a : Nat → R1) (cN : Nat) (b : Nat → R1) (N : Nat) (G : Nat → R1) (j i : Int) : Prop := PreFr n0 R C sN a cN b ∧ 0 ≤ j ∧ j < R ∧ i = nv a j.toNat ∧ N = stA a j.toNat ∧ ∀ t, t < N → G t = frF R C a b t
noncomputable def gR3 : Nat → Few → T (Ex × Few)
  | n0, ([.ptr p0 q0, .ptr p1 q1, .ptr p2 q2, _, .lit (.int .i64 R), .lit (.int .i64 C), .own v bO N, .lit (.int .i64 j), .lit (.int .i64 i)], [(_, some (.cells [.row [.int .i64, .int .i64, .int .i64] n f, .lit (.int .i64 k), .lit (.int .i64 s), .lit (.int .i64 h)] t0)), (_, some (.cells [.row [.int .i64] sN a, .row [.int .i64] cN b] t1)), (_, some (.cells zs t2)), (_, some (.row v' N' [.int .i64] G t3))]) =>
    .ask (lk PreR3 n0 R C sN a cN b N G j i ∧ p0 = 0 ∧ q0 = 0 ∧ p1 = 1 ∧ q1 = 0 ∧ p2 = 2 ∧ q2 = 0 ∧ v = false ∧ bO = 3 ∧ t0 = 26 ∧ t1 = 31 ∧ zs = zeV ∧ t2 = 29 ∧ v' = false ∧ N' = N ∧ t3 = 3)
      (.br (lk okAt C (U.nsub (lk stA a (U.toNat j + 1)) (lk stA a (U.toNat j))) (lk shF (lk stA a (U.toNat j)) b))
        (.ret (.exit 4, (slR2 R C (lk stA a (U.toNat j + 1)) j ++ [.any], mmS n f k s h sN a cN b (lk stA a (U.toNat j + 1)) (lk frF R C a b))))
        (.ret (.ret, ([.any, .any, .ptr 2 0, .ki .i64 51, .any, .any, .any, .any, .any], [(0, none), (0, none), (0, some (.cells zeV 29)), (0, none)]))))
  | _, _ => .stuck 1
noncomputable abbrev LR3 : Loops := [(21, .sum (few 143 [2,3,4,5,7,8,10,11,12] gR3))]
noncomputable def gR2 : Nat → Few → T (Ex × Few)
  | n0, ([.ptr p0 q0, .ptr p1 q1, .ptr p2 q2, _, .lit (.int .i64 R), .lit (.int .i64 C), .own v bO 0, .ki .i64 z], [(_, some (.cells [.row [.int .i64, .int .i64, .int .i64] n f, .lit (.int .i64 k), .lit (.int .i64 s), .lit (.int .i64 h)] t0)), (_, some (.cells [.row [.int .i64] sN a, .row [.int .i64] cN b] t1)), (_, some (.cells zs t2)), _, (_, some (.row v' 0 [.int .i64] G t3))]) =>
    .ask (lk PreFr n0 R C sN a cN b ∧ p0 = 0 ∧ q0 = 0 ∧ p1 = 1 ∧ q1 = 0 ∧ p2 = 2 ∧ q2 = 0 ∧ v = false ∧ bO = 4 ∧ z = 0 ∧ t0 = 26 ∧ t1 = 31 ∧ zs = zeV ∧ t2 = 29 ∧ v' = false ∧ t3 = 3)
      (.br (lk frB R C a b)
        (.ret (.exit 2, (slR2 R C cN R, mmS n f k s h sN a cN b cN (lk frF R C a b) ++ [(0, none)])))
        (.ret (.ret, ([.any, .any, .ptr 2 0, .ki .i64 51, .any, .any, .any, .any], [(0, none), (0, none), (0, some (.cells zeV 29)), (0, none), (0, none)]))))
  | _, _ => .stuck 1
noncomputable abbrev lR0 : List (Nat × Loops) := [(18, [(12, .sum (few 143 [2,3,4,5,7,8,9] gR1)), (21, .sum (few 143 [2,3,4,5,7,8,10,11,12] gR3)), (18, .sum (few 143 [2,3,4,5,7,8,10,11] gR2))])] --%K
end Go.RX.Span

/- Sparse domains: the reference's FromRows: the walks. -/
set_option linter.unusedVariables false
set_option linter.unusedSimpArgs false
set_option maxRecDepth 100000
namespace Go.RX.Span
open Go Go.RX
attribute [local irreducible] sx conB

--%R \(a \(U\.toNat (j|i|\(U\.add IntKind\.i64 j \(1 : Int\)\))\)\)\.1 ≤ => nv a (U.toNat \1) ≤
--%R < ↑(\w+)\b => < ((\1 : Nat) : Int)
--%R ≤ ↑(\w+)\b => ≤ ((\1 : Nat) : Int)
--%R ↑(\w+) (=|≤) => ((\1 : Nat) : Int) \2
set_option maxRecDepth 100000 in
theorem t_R1 (n : Nat) (f : Nat → R3) (k s h : Int) (R C i : Int) (sN : Nat) (a : Nat → R1) (cN : Nat) (b : Nat → R1) : (sx EFr [] 0 (loopOf P 18 12) (mkS 143 [2,3,4,5,7,8,9] (slR1 R C i), mmR n f k s h sN a cN b)).bind (proj 143 [2,3,4,5,7,8,9]) =
    T.br (U.lt i R) (.ask ((0 : Int) ≤ i ∧ i < ((sN : Nat) : Int)) (.ask ((0 : Int) ≤ U.add .i64 i (1 : Int) ∧ U.add .i64 i (1 : Int) < ((sN : Nat) : Int)) (.br (U.gt (a (U.toNat i)).1
      (a (U.toNat (U.add .i64 i (1 : Int)))).1) (.ret (Ex.ret, [SV.ptr (nat_lit 0) (nat_lit 0), SV.ptr (nat_lit 1) (nat_lit 0), SV.ptr (nat_lit 2) (nat_lit 0), SV.ki .i64 51, .lit (.int
      .i64 R), .lit (.int .i64 C), .lit (.int .i64 i)], [(nat_lit 0, some (Blk.cells [.row [.int .i64, .int .i64, .int .i64] n f, .lit (.int .i64 k), .lit (.int .i64 s), .lit (.int .i64
      h)] (nat_lit 26))), (nat_lit 0, some (Blk.cells [.row [.int .i64] sN a, .row [.int .i64] cN b] (nat_lit 31))), (nat_lit 1, some (Blk.cells [.lit (.slice none (nat_lit 0) (nat_lit
      0)), .lit (.int .i64 0), .lit (.int .i64 0), .lit (.int .i64 0), .lit (.slice none (nat_lit 0) (nat_lit 0))] (nat_lit 29)))])) (.ret (Ex.normal, [SV.ptr (nat_lit 0) (nat_lit 0),
      SV.ptr (nat_lit 1) (nat_lit 0), SV.ptr (nat_lit 2) (nat_lit 0), SV.any, .lit (.int .i64 R), .lit (.int .i64 C), .lit (.int .i64 (U.add .i64 i (1 : Int)))], [(nat_lit 0, some
      (Blk.cells [.row [.int .i64, .int .i64, .int .i64] n f, .lit (.int .i64 k), .lit (.int .i64 s), .lit (.int .i64 h)] (nat_lit 26))), (nat_lit 0, some (Blk.cells [.row [.int .i64] sN
      a, .row [.int .i64] cN b] (nat_lit 31))), (nat_lit 0, some (Blk.cells [.lit (.slice none (nat_lit 0) (nat_lit 0)), .lit (.int .i64 0), .lit (.int .i64 0), .lit (.int .i64 0), .lit
      (.slice none (nat_lit 0) (nat_lit 0))] (nat_lit 29)))]))))) (.ret (Ex.exit (nat_lit 0), [SV.ptr (nat_lit 0) (nat_lit 0), SV.ptr (nat_lit 1) (nat_lit 0), SV.ptr (nat_lit 2) (nat_lit
      0), SV.any, .lit (.int .i64 R), .lit (.int .i64 C), .lit (.int .i64 i)], [(nat_lit 0, some (Blk.cells [.row [.int .i64, .int .i64, .int .i64] n f, .lit (.int .i64 k), .lit (.int
      .i64 s), .lit (.int .i64 h)] (nat_lit 26))), (nat_lit 0, some (Blk.cells [.row [.int .i64] sN a, .row [.int .i64] cN b] (nat_lit 31))), (nat_lit 0, some (Blk.cells [.lit (.slice
      none (nat_lit 0) (nat_lit 0)), .lit (.int .i64 0), .lit (.int .i64 0), .lit (.int .i64 0), .lit (.slice none (nat_lit 0) (nat_lit 0))] (nat_lit 29)))])) := by kernel_rfl
set_option maxRecDepth 100000 in
theorem t_R2 (n : Nat) (f : Nat → R3) (k s h : Int) (R C j : Int) (sN : Nat) (a : Nat → R1) (cN : Nat) (b : Nat → R1) (N : Nat) (G : Nat → R1) : (sx EFr LR3 0 (loopOf P 18 18) (mkS 143 [2,3,4,5,7,8,10,11] (slR2 R C N j), mmS n f k s h sN a cN b N G)).bind (proj 143 [2,3,4,5,7,8,10,11]) =
    T.br (U.lt j R) (.ask ((0 : Int) ≤ j ∧ j < ((sN : Nat) : Int)) (.ask (lk PreR3 (0 : Nat) R C sN a cN b N G j (a (U.toNat j)).1 ∧ (0 : Nat) = (0 : Nat) ∧ (0 : Nat) = (0 : Nat) ∧ (1 :
      Nat) = (1 : Nat) ∧ (0 : Nat) = (0 : Nat) ∧ (2 : Nat) = (2 : Nat) ∧ (0 : Nat) = (0 : Nat) ∧ false = false ∧ (3 : Nat) = (3 : Nat) ∧ (26 : TypeId) = (26 : TypeId) ∧ (31 : TypeId) =
      (31 : TypeId) ∧ [.lit (.slice none (0 : Nat) (0 : Nat)), .lit (.int .i64 0), .lit (.int .i64 0), .lit (.int .i64 0), .lit (.slice none (0 : Nat) (0 : Nat))] = zeV ∧ (29 : TypeId) =
      (29 : TypeId) ∧ false = false ∧ N = N ∧ (3 : TypeId) = (3 : TypeId)) (.br (lk okAt C (U.nsub (lk stA a ((U.toNat j).add (nat_lit 1))) (lk stA a (U.toNat j))) (lk shF (lk stA a
      (U.toNat j)) b)) (.ret (Ex.normal, [SV.ptr (nat_lit 0) (nat_lit 0), SV.ptr (nat_lit 1) (nat_lit 0), SV.ptr (nat_lit 2) (nat_lit 0), SV.any, .lit (.int .i64 R), .lit (.int .i64 C),
      SV.own false (nat_lit 3) (lk stA a ((U.toNat j).add (nat_lit 1))), .lit (.int .i64 (U.add .i64 j (1 : Int)))], [(nat_lit 1, some (Blk.cells [.row [.int .i64, .int .i64, .int .i64] n
      f, .lit (.int .i64 k), .lit (.int .i64 s), .lit (.int .i64 h)] (nat_lit 26))), (nat_lit 1, some (Blk.cells [.row [.int .i64] sN a, .row [.int .i64] cN b] (nat_lit 31))), (nat_lit 1,
      some (Blk.cells [.lit (.slice none (nat_lit 0) (nat_lit 0)), .lit (.int .i64 0), .lit (.int .i64 0), .lit (.int .i64 0), .lit (.slice none (nat_lit 0) (nat_lit 0))] (nat_lit 29))),
      (nat_lit 1, some (Blk.row false (lk stA a ((U.toNat j).add (nat_lit 1))) [.int .i64] (lk frF R C a b) (nat_lit 3)))])) (.ret (Ex.ret, [SV.any, SV.any, SV.ptr (nat_lit 2) (nat_lit
      0), SV.ki .i64 51, SV.any, SV.any, SV.any, SV.any], [(nat_lit 1, none), (nat_lit 1, none), (nat_lit 1, some (Blk.cells [.lit (.slice none (nat_lit 0) (nat_lit 0)), .lit (.int .i64
      0), .lit (.int .i64 0), .lit (.int .i64 0), .lit (.slice none (nat_lit 0) (nat_lit 0))] (nat_lit 29))), (nat_lit 1, none)]))))) (.ret (Ex.exit (nat_lit 2), [SV.ptr (nat_lit 0)
      (nat_lit 0), SV.ptr (nat_lit 1) (nat_lit 0), SV.ptr (nat_lit 2) (nat_lit 0), SV.any, .lit (.int .i64 R), .lit (.int .i64 C), SV.own false (nat_lit 3) N, .lit (.int .i64 j)],
      [(nat_lit 0, some (Blk.cells [.row [.int .i64, .int .i64, .int .i64] n f, .lit (.int .i64 k), .lit (.int .i64 s), .lit (.int .i64 h)] (nat_lit 26))), (nat_lit 0, some (Blk.cells
      [.row [.int .i64] sN a, .row [.int .i64] cN b] (nat_lit 31))), (nat_lit 0, some (Blk.cells [.lit (.slice none (nat_lit 0) (nat_lit 0)), .lit (.int .i64 0), .lit (.int .i64 0), .lit
      (.int .i64 0), .lit (.slice none (nat_lit 0) (nat_lit 0))] (nat_lit 29))), (nat_lit 0, some (Blk.row false N [.int .i64] G (nat_lit 3)))])) := by kernel_rfl
set_option maxRecDepth 100000 in
theorem t_R3 (n : Nat) (f : Nat → R3) (k s h : Int) (R C j i : Int) (sN : Nat) (a : Nat → R1) (cN : Nat) (b : Nat → R1) (N : Nat) (G : Nat → R1) : (sx EFr [] 0 (loopOf P 18 21) (mkS 143 [2,3,4,5,7,8,10,11,12] (slR3 R C N j i), mmS n f k s h sN a cN b N G)).bind (proj 143 [2,3,4,5,7,8,10,11,12]) =
    T.ask ((0 : Int) ≤ U.add .i64 j (1 : Int) ∧ U.add .i64 j (1 : Int) < ((sN : Nat) : Int)) (.br (U.lt i (a (U.toNat (U.add .i64 j (1 : Int)))).1) (.ask ((0 : Int) ≤ i ∧ i < ((cN :
      Nat) : Int)) (.br (U.lt (b (U.toNat i)).1 (0 : Int)) (.ret (Ex.ret, [SV.ptr (nat_lit 0) (nat_lit 0), SV.ptr (nat_lit 1) (nat_lit 0), SV.ptr (nat_lit 2) (nat_lit 0), SV.ki .i64 51,
      .lit (.int .i64 R), .lit (.int .i64 C), SV.own false (nat_lit 3) N, .lit (.int .i64 j), .lit (.int .i64 i)], [(nat_lit 0, some (Blk.cells [.row [.int .i64, .int .i64, .int .i64] n
      f, .lit (.int .i64 k), .lit (.int .i64 s), .lit (.int .i64 h)] (nat_lit 26))), (nat_lit 0, some (Blk.cells [.row [.int .i64] sN a, .row [.int .i64] cN b] (nat_lit 31))), (nat_lit 1,
      some (Blk.cells [.lit (.slice none (nat_lit 0) (nat_lit 0)), .lit (.int .i64 0), .lit (.int .i64 0), .lit (.int .i64 0), .lit (.slice none (nat_lit 0) (nat_lit 0))] (nat_lit 29))),
      (nat_lit 0, some (Blk.row false N [.int .i64] G (nat_lit 3)))])) (.br (U.ge (b (U.toNat i)).1 C) (.ret (Ex.ret, [SV.ptr (nat_lit 0) (nat_lit 0), SV.ptr (nat_lit 1) (nat_lit 0),
      SV.ptr (nat_lit 2) (nat_lit 0), SV.ki .i64 51, .lit (.int .i64 R), .lit (.int .i64 C), SV.own false (nat_lit 3) N, .lit (.int .i64 j), .lit (.int .i64 i)], [(nat_lit 0, some
      (Blk.cells [.row [.int .i64, .int .i64, .int .i64] n f, .lit (.int .i64 k), .lit (.int .i64 s), .lit (.int .i64 h)] (nat_lit 26))), (nat_lit 0, some (Blk.cells [.row [.int .i64] sN
      a, .row [.int .i64] cN b] (nat_lit 31))), (nat_lit 1, some (Blk.cells [.lit (.slice none (nat_lit 0) (nat_lit 0)), .lit (.int .i64 0), .lit (.int .i64 0), .lit (.int .i64 0), .lit
      (.slice none (nat_lit 0) (nat_lit 0))] (nat_lit 29))), (nat_lit 0, some (Blk.row false N [.int .i64] G (nat_lit 3)))])) (.ask ((0 : Int) ≤ j ∧ j < ((sN : Nat) : Int)) (.br (U.gt i
      (a (U.toNat j)).1) (.ask ((0 : Int) ≤ U.sub .i64 i (1 : Int) ∧ U.sub .i64 i (1 : Int) < ((cN : Nat) : Int)) (.br (U.le (b (U.toNat i)).1 (b (U.toNat (U.sub .i64 i (1 : Int)))).1)
      (.ret (Ex.ret, [SV.ptr (nat_lit 0) (nat_lit 0), SV.ptr (nat_lit 1) (nat_lit 0), SV.ptr (nat_lit 2) (nat_lit 0), SV.ki .i64 51, .lit (.int .i64 R), .lit (.int .i64 C), SV.own false
      (nat_lit 3) N, .lit (.int .i64 j), .lit (.int .i64 i)], [(nat_lit 0, some (Blk.cells [.row [.int .i64, .int .i64, .int .i64] n f, .lit (.int .i64 k), .lit (.int .i64 s), .lit (.int
      .i64 h)] (nat_lit 26))), (nat_lit 0, some (Blk.cells [.row [.int .i64] sN a, .row [.int .i64] cN b] (nat_lit 31))), (nat_lit 1, some (Blk.cells [.lit (.slice none (nat_lit 0)
      (nat_lit 0)), .lit (.int .i64 0), .lit (.int .i64 0), .lit (.int .i64 0), .lit (.slice none (nat_lit 0) (nat_lit 0))] (nat_lit 29))), (nat_lit 0, some (Blk.row false N [.int .i64] G
      (nat_lit 3)))])) (.ask ((N + (1 : Nat)) * nat_lit 8 ≤ nat_lit 140737488351232) (.ret (Ex.normal, [SV.ptr (nat_lit 0) (nat_lit 0), SV.ptr (nat_lit 1) (nat_lit 0), SV.ptr (nat_lit 2)
      (nat_lit 0), SV.any, .lit (.int .i64 R), .lit (.int .i64 C), SV.own false (nat_lit 5) (N.add (nat_lit 1)), .lit (.int .i64 j), .lit (.int .i64 (U.add .i64 i (1 : Int)))], [(nat_lit
      0, some (Blk.cells [.row [.int .i64, .int .i64, .int .i64] n f, .lit (.int .i64 k), .lit (.int .i64 s), .lit (.int .i64 h)] (nat_lit 26))), (nat_lit 0, some (Blk.cells [.row [.int
      .i64] sN a, .row [.int .i64] cN b] (nat_lit 31))), (nat_lit 0, some (Blk.cells [.lit (.slice none (nat_lit 0) (nat_lit 0)), .lit (.int .i64 0), .lit (.int .i64 0), .lit (.int .i64
      0), .lit (.slice none (nat_lit 0) (nat_lit 0))] (nat_lit 29))), (nat_lit 1, none), (nat_lit 0, some (Blk.cells [.lit (.int .i64 (U.add .i64 (U.mul .i64 j C) (b (U.toNat i)).1))]
      (nat_lit 3))), (nat_lit 0, some (Blk.row false (N.add (nat_lit 1)) [.int .i64] (U.cat N G fun x => (U.add .i64 (U.mul .i64 j C) (b (U.toNat i)).1, PUnit.unit)) (nat_lit 3)))])))))
      (.ask ((N + (1 : Nat)) * nat_lit 8 ≤ nat_lit 140737488351232) (.ret (Ex.normal, [SV.ptr (nat_lit 0) (nat_lit 0), SV.ptr (nat_lit 1) (nat_lit 0), SV.ptr (nat_lit 2) (nat_lit 0),
      SV.any, .lit (.int .i64 R), .lit (.int .i64 C), SV.own false (nat_lit 5) (N.add (nat_lit 1)), .lit (.int .i64 j), .lit (.int .i64 (U.add .i64 i (1 : Int)))], [(nat_lit 0, some
      (Blk.cells [.row [.int .i64, .int .i64, .int .i64] n f, .lit (.int .i64 k), .lit (.int .i64 s), .lit (.int .i64 h)] (nat_lit 26))), (nat_lit 0, some (Blk.cells [.row [.int .i64] sN
      a, .row [.int .i64] cN b] (nat_lit 31))), (nat_lit 0, some (Blk.cells [.lit (.slice none (nat_lit 0) (nat_lit 0)), .lit (.int .i64 0), .lit (.int .i64 0), .lit (.int .i64 0), .lit
      (.slice none (nat_lit 0) (nat_lit 0))] (nat_lit 29))), (nat_lit 1, none), (nat_lit 0, some (Blk.cells [.lit (.int .i64 (U.add .i64 (U.mul .i64 j C) (b (U.toNat i)).1))] (nat_lit
      3))), (nat_lit 0, some (Blk.row false (N.add (nat_lit 1)) [.int .i64] (U.cat N G fun x => (U.add .i64 (U.mul .i64 j C) (b (U.toNat i)).1, PUnit.unit)) (nat_lit 3)))])))))))) (.ret
      (Ex.exit (nat_lit 4), [SV.ptr (nat_lit 0) (nat_lit 0), SV.ptr (nat_lit 1) (nat_lit 0), SV.ptr (nat_lit 2) (nat_lit 0), SV.any, .lit (.int .i64 R), .lit (.int .i64 C), SV.own false
      (nat_lit 3) N, .lit (.int .i64 j), .lit (.int .i64 i)], [(nat_lit 0, some (Blk.cells [.row [.int .i64, .int .i64, .int .i64] n f, .lit (.int .i64 k), .lit (.int .i64 s), .lit (.int
      .i64 h)] (nat_lit 26))), (nat_lit 0, some (Blk.cells [.row [.int .i64] sN a, .row [.int .i64] cN b] (nat_lit 31))), (nat_lit 0, some (Blk.cells [.lit (.slice none (nat_lit 0)
      (nat_lit 0)), .lit (.int .i64 0), .lit (.int .i64 0), .lit (.int .i64 0), .lit (.slice none (nat_lit 0) (nat_lit 0))] (nat_lit 29))), (nat_lit 0, some (Blk.row false N [.int .i64] G
      (nat_lit 3)))]))) := by kernel_rfl
set_option maxRecDepth 100000 in
theorem t_FrQ (n : Nat) (f : Nat → R3) (k s h : Int) (sN : Nat) (a : Nat → R1) (cN : Nat) (b : Nat → R1) : conB Go.Proofs.Try.prog (conOf kFr) (loopsOf lR0) 10 18 [.agg [.row [.int .i64, .int .i64, .int .i64] n f, .lit (.int .i64 k), .lit (.int .i64 s), .lit (.int .i64 h)], .agg [.row [.int .i64] sN a, .row [.int .i64] cN b]] =
    T.ask (Row64 n f) (.br (U.ne (lk pdE n f k s h) (0 : Int)) (.ret (.tup [.agg [.lit (.slice none (nat_lit 0) (nat_lit 0)), .lit (.int .i64 0), .lit (.int .i64 0), .lit (.int .i64 0),
      .lit (.slice none (nat_lit 0) (nat_lit 0))], .lit (.int .i64 (lk pdE n f k s h))])) (.br (U.ne (Int.ofNat n) (2 : Int)) (.ret (.tup [.agg [.lit (.slice none (nat_lit 0) (nat_lit
      0)), .lit (.int .i64 0), .lit (.int .i64 0), .lit (.int .i64 0), .lit (.slice none (nat_lit 0) (nat_lit 0))], .lit (.int .i64 50)])) (.ask ((0 : Int) ≤ (0 : Int) ∧ (0 : Int) < ((n :
      Nat) : Int)) (.ask (I64 (f (U.toNat (0 : Int))).1 ∧ I64 (f (U.toNat (0 : Int))).2.1 ∧ I64 (f (U.toNat (0 : Int))).2.2.1) (.ask ((0 : Int) ≤ (1 : Int) ∧ (1 : Int) < ((n : Nat) :
      Int)) (.ask (I64 (f (U.toNat (1 : Int))).1 ∧ I64 (f (U.toNat (1 : Int))).2.1 ∧ I64 (f (U.toNat (1 : Int))).2.2.1) (.br (U.ne (Int.ofNat sN) (U.add .i64 (lk size (f (U.toNat (0 :
      Int))).1 (f (U.toNat (0 : Int))).2.1 (f (U.toNat (0 : Int))).2.2.1) (1 : Int))) (.ret (.tup [.agg [.lit (.slice none (nat_lit 0) (nat_lit 0)), .lit (.int .i64 0), .lit (.int .i64
      0), .lit (.int .i64 0), .lit (.slice none (nat_lit 0) (nat_lit 0))], .lit (.int .i64 5)])) (.br (U.gt (Int.ofNat cN) (5000 : Int)) (.ret (.tup [.agg [.lit (.slice none (nat_lit 0)
      (nat_lit 0)), .lit (.int .i64 0), .lit (.int .i64 0), .lit (.int .i64 0), .lit (.slice none (nat_lit 0) (nat_lit 0))], .lit (.int .i64 5)])) (.ask ((0 : Int) ≤ (0 : Int) ∧ (0 : Int)
      < ((sN : Nat) : Int)) (.br (U.ne (a (U.toNat (0 : Int))).1 (0 : Int)) (.ret (.tup [.agg [.lit (.slice none (nat_lit 0) (nat_lit 0)), .lit (.int .i64 0), .lit (.int .i64 0), .lit
      (.int .i64 0), .lit (.slice none (nat_lit 0) (nat_lit 0))], .lit (.int .i64 51)])) (.ask ((0 : Int) ≤ lk size (f (U.toNat (0 : Int))).1 (f (U.toNat (0 : Int))).2.1 (f (U.toNat (0 :
      Int))).2.2.1 ∧ lk size (f (U.toNat (0 : Int))).1 (f (U.toNat (0 : Int))).2.1 (f (U.toNat (0 : Int))).2.2.1 < ↑sN) (.br (U.ne (a (U.toNat (lk size (f (U.toNat (0 : Int))).fst (f
      (U.toNat (0 : Int))).snd.fst (f (U.toNat (0 : Int))).snd.snd.fst))).1 (Int.ofNat cN)) (.ret (.tup [.agg [.lit (.slice none (nat_lit 0) (nat_lit 0)), .lit (.int .i64 0), .lit (.int
      .i64 0), .lit (.int .i64 0), .lit (.slice none (nat_lit 0) (nat_lit 0))], .lit (.int .i64 51)])) (.ask (lk PreR1 (nat_lit 0) (lk size (f (U.toNat (0 : Int))).1 (f (U.toNat (0 :
      Int))).2.1 (f (U.toNat (0 : Int))).2.2.1) sN ∧ (0 : Nat) = (0 : Nat) ∧ (0 : Nat) = (0 : Nat) ∧ (1 : Nat) = (1 : Nat) ∧ (0 : Nat) = (0 : Nat) ∧ (2 : Nat) = (2 : Nat) ∧ (0 : Nat) = (0
      : Nat) ∧ (0 : Int) = (0 : Int) ∧ (26 : Nat) = (26 : TypeId) ∧ (31 : Nat) = (31 : TypeId) ∧ [.lit (.slice none (0 : Nat) (0 : Nat)), .lit (.int .i64 0), .lit (.int .i64 0), .lit
      (.int .i64 0), .lit (.slice none (0 : Nat) (0 : Nat))] = zeV ∧ (29 : Nat) = (29 : TypeId)) (.br (lk srB sN a) (.ask (lk PreFr (nat_lit 0) (lk size (f (U.toNat (0 : Int))).1 (f
      (U.toNat (0 : Int))).2.1 (f (U.toNat (0 : Int))).2.2.1) (lk size (f (U.toNat (1 : Int))).1 (f (U.toNat (1 : Int))).2.1 (f (U.toNat (1 : Int))).2.2.1) sN a cN b ∧ (0 : Nat) = (0 :
      Nat) ∧ (0 : Nat) = (0 : Nat) ∧ (1 : Nat) = (1 : Nat) ∧ (0 : Nat) = (0 : Nat) ∧ (2 : Nat) = (2 : Nat) ∧ (0 : Nat) = (0 : Nat) ∧ false = false ∧ (4 : Nat) = (4 : Nat) ∧ (0 : Int) = (0
      : Int) ∧ (26 : TypeId) = (26 : TypeId) ∧ (31 : TypeId) = (31 : TypeId) ∧ [.lit (.slice none (0 : Nat) (0 : Nat)), .lit (.int .i64 0), .lit (.int .i64 0), .lit (.int .i64 0), .lit
      (.slice none (0 : Nat) (0 : Nat))] = zeV ∧ (29 : TypeId) = (29 : TypeId) ∧ false = false ∧ (3 : Nat) = (3 : TypeId)) (.br (lk frB (lk size (f (U.toNat (0 : Int))).1 (f (U.toNat (0 :
      Int))).2.1 (f (U.toNat (0 : Int))).2.2.1) (lk size (f (U.toNat (1 : Int))).1 (f (U.toNat (1 : Int))).2.1 (f (U.toNat (1 : Int))).2.2.1) a b) (.ret (.tup [.agg [.row [.int .i64, .int
      .i64, .int .i64] n f, .lit (.int .i64 k), .lit (.int .i64 s), .lit (.int .i64 h), .row [.int .i64] cN (lk frF (lk size (f (U.toNat (0 : Int))).1 (f (U.toNat (0 : Int))).2.1 (f
      (U.toNat (0 : Int))).2.2.1) (lk size (f (U.toNat (1 : Int))).1 (f (U.toNat (1 : Int))).2.1 (f (U.toNat (1 : Int))).2.2.1) a b)], .lit (.int .i64 0)])) (.ret (.tup [.agg [.lit
      (.slice none (nat_lit 0) (nat_lit 0)), .lit (.int .i64 0), .lit (.int .i64 0), .lit (.int .i64 0), .lit (.slice none (nat_lit 0) (nat_lit 0))], .lit (.int .i64 51)])))) (.ret (.tup
      [.agg [.lit (.slice none (nat_lit 0) (nat_lit 0)), .lit (.int .i64 0), .lit (.int .i64 0), .lit (.int .i64 0), .lit (.slice none (nat_lit 0) (nat_lit 0))], .lit (.int .i64
      51)])))))))))))))))) := by kernel_rfl
end Go.RX.Span

/- Sparse domains: the reference's FromRows: the loops. -/
set_option linter.unusedVariables false
set_option linter.unusedSimpArgs false
set_option maxRecDepth 100000
namespace Go.RX.Span
open Go Go.RX
attribute [local irreducible] sx conB

structure XR1 where
  (n : Nat) (f : Nat → R3) (k s h : Int) (R C : Int) (sN : Nat) (a : Nat → R1) (cN : Nat) (b : Nat → R1) (i : Nat)
noncomputable abbrev VR1 (q : XR1) : Few := (slR1 q.R q.C q.i, mmR q.n q.f q.k q.s q.h q.sN q.a q.cN q.b)
noncomputable def O1R1 (q : XR1) : Ex × Few := (.exit 0, (slR1 q.R q.C q.R, mmR q.n q.f q.k q.s q.h q.sN q.a q.cN q.b ++ [(0, none)]))
noncomputable def O2R1 : Ex × Few := (.ret, ([.any, .any, .ptr 2 0, .ki .i64 51, .any, .any, .any], [(0, none), (0, none), (0, some (.cells zeV 29)), (0, none)]))
def PhiR1 (n0 : Nat) (q : XR1) : Prop := PreR1 n0 q.R q.sN ∧ q.i ≤ q.R.toNat ∧ ∀ j, j < q.i → nv q.a j ≤ nv q.a (j + 1)
def ZR1 (q : XR1) (o : Ex × Few) : Prop := (UpR q.sN q.a → o = O1R1 q) ∧ (¬ UpR q.sN q.a → o = O2R1)
theorem roundR1 (n0 : Nat) (q : XR1) (hq : PhiR1 n0 q) : ((sx EFr [] n0 (loopOf P 18 12) (mkS 143 [2,3,4,5,7,8,9] (VR1 q).1, (VR1 q).2)).bind (proj 143 [2,3,4,5,7,8,9])).All fun r => match r.1 with
      | .normal => ∃ q', PhiR1 n0 q' ∧ q'.R.toNat - q'.i < q.R.toNat - q.i ∧ Wk 143 [2,3,4,5,7,8,9] n0 r.2 (VR1 q') ∧ ∀ o, ZR1 q' o → ZR1 q o
      | e => ∃ s, ZR1 q (e, s) ∧ Wk 143 [2,3,4,5,7,8,9] n0 r.2 s := by
  obtain ⟨n, f, k, s, h, R, C, sN, a, cN, b, i⟩ := q
  obtain ⟨hp, hi, hall⟩ := hq
  have hp : PreR1 n0 R sN := hp
  have hi : i ≤ R.toNat := hi
  have hall : ∀ j, j < i → nv a j ≤ nv a (j + 1) := hall
  have hp' := hp
  obtain ⟨h0, R0, R1', hs⟩ := hp'
  subst h0
  refine T.all_of_eq (t_R1 n f k s h R C (i : Int) sN a cN b) ?_
  by_cases hlt : (i : Int) < R
  · have e2 : U.add .i64 (i : Int) 1 = ((i + 1 : Nat) : Int) := by rw [U.add64 (by unfold I64; omega)]; omega
    have hi1 : i + 1 ≤ R.toNat := by omega
    rw [e2, tnH, tnH]
    refine ⟨fun _ => ⟨⟨by omega, by omega⟩, ⟨by omega, by omega⟩, fun g => ?_, fun g => ?_⟩, fun g => absurd (U.lt_f.mp g) (by omega)⟩
    · have g : nv a i > nv a (i + 1) := U.gt_t.mp g
      have nb : ¬ UpR sN a := fun hu => by have := hu i (by omega); omega
      refine ⟨O2R1.2, ⟨fun h => absurd h nb, fun _ => rfl⟩, ?_⟩
      exact wk_of [none, none, some 2, none] rfl (Nat.zero_le _) (ren1z _) ⟨rl_any _, rl_any _, ⟨rfl, rfl⟩, ⟨rfl, rfl⟩, rl_any _, rl_any _, rl_any _, trivial⟩ ⟨⟨rfl, zeV_rl⟩, trivial⟩
    · have g : nv a i ≤ nv a (i + 1) := U.gt_f.mp g
      refine ⟨⟨n, f, k, s, h, R, C, sN, a, cN, b, i + 1⟩, ⟨hp, hi1, fun j hj => ?_⟩, (show R.toNat - (i + 1) < R.toNat - i by omega), ?_, fun o ho => ho⟩
      · have hj : j < i + 1 := hj
        by_cases ej : j = i
        · subst ej; exact g
        · exact hall j (by omega)
      · exact wk_of [some 0, some 1, some 2] rfl (Nat.zero_le _) (ren1z _) ⟨⟨rfl, rfl⟩, ⟨rfl, rfl⟩, ⟨rfl, rfl⟩, rl_any _, rfl, rfl, rfl, trivial⟩ ⟨⟨rfl, par_rl⟩, ⟨rfl, rc_rl⟩, ⟨rfl, zeV_rl⟩, trivial⟩
  · have hR : R = ((i : Nat) : Int) := by omega
    have ok : UpR sN a := fun j hj => hall j (by omega)
    refine ⟨fun g => absurd (U.lt_t.mp g) hlt, fun _ => ⟨(O1R1 ⟨n, f, k, s, h, R, C, sN, a, cN, b, i⟩).2, ⟨fun _ => rfl, fun hk => absurd ok hk⟩, ?_⟩⟩
    exact wk_of [some 0, some 1, some 2, none] rfl (Nat.zero_le _) (ren1z _) ⟨⟨rfl, rfl⟩, ⟨rfl, rfl⟩, ⟨rfl, rfl⟩, rl_any _, rfl, rfl, (by show Value.int .i64 (i : Int) = Value.int .i64 R; rw [hR]), trivial⟩ ⟨⟨rfl, par_rl⟩, ⟨rfl, rc_rl⟩, ⟨rfl, zeV_rl⟩, trivial⟩
theorem loopR1 : LoopOK P (loopOf P 18 12) (few 143 [2,3,4,5,7,8,9] gR1) :=
  loop_few (E := EFr) mixed EFr_ok loopsOK_none 143 [2,3,4,5,7,8,9] (X := XR1) gR1 (fun _ x => VR1 x) PhiR1 (fun q => q.R.toNat - q.i) (fun _ x o => ZR1 x o)
    (fun n0 st rr hh => by
      unfold gR1 at hh
      split at hh
      · rename_i n0 p0 q0 p1 q1 p2 q2 s3 R C z e0 n f k s h t0 e1 sN a cN b t1 e2 zs t2 e3
        obtain ⟨hp, rfl, rfl, rfl, rfl, rfl, rfl, rfl, rfl, rfl, rfl, rfl⟩ := (T.is_ask hh).1
        have hb := (T.is_ask hh).2
        rw [lk_eq] at hp
        have h0 := hp.1
        subst h0
        refine ⟨⟨n, f, k, s, h, R, C, sN, a, cN, b, 0⟩, ⟨hp, Nat.zero_le _, fun i hi => absurd hi (Nat.not_lt_zero i)⟩, ?_, fun o ho => ?_⟩
        · exact wk_of [some 0, some 1, some 2] rfl (Nat.zero_le _) (ren1z _) ⟨⟨rfl, rfl⟩, ⟨rfl, rfl⟩, ⟨rfl, rfl⟩, rl_any _, rfl, rfl, rfl, trivial⟩ ⟨⟨rfl, par_rl⟩, ⟨rfl, rc_rl⟩, ⟨rfl, zeV_rl⟩, trivial⟩
        · rcases hb with ⟨he, hb⟩ | ⟨he, hb⟩
          · rw [lk_eq] at he
            obtain rfl := T.is_ret hb
            exact ho.1 (srB_t.1 he)
          · rw [lk_eq] at he
            obtain rfl := T.is_ret hb
            exact ho.2 (srB_f.1 he)
      · exact hh.elim)
    roundR1
structure XR3 where
  (n : Nat) (f : Nat → R3) (k s h : Int) (R C : Int) (sN : Nat) (a : Nat → R1) (cN : Nat) (b : Nat → R1) (j i : Nat)
noncomputable abbrev VR3 (q : XR3) : Few := (slR3 q.R q.C q.i q.j q.i, mmS q.n q.f q.k q.s q.h q.sN q.a q.cN q.b q.i (frF q.R q.C q.a q.b))
noncomputable def O1R3 (q : XR3) : Ex × Few := (.exit 4, (slR2 q.R q.C (stA q.a (q.j + 1)) q.j ++ [.any], mmS q.n q.f q.k q.s q.h q.sN q.a q.cN q.b (stA q.a (q.j + 1)) (frF q.R q.C q.a q.b)))
noncomputable def O2R3 : Ex × Few := (.ret, ([.any, .any, .ptr 2 0, .ki .i64 51, .any, .any, .any, .any, .any], [(0, none), (0, none), (0, some (.cells zeV 29)), (0, none)]))
def PhiR3 (n0 : Nat) (q : XR3) : Prop := PreFr n0 q.R q.C q.sN q.a q.cN q.b ∧ (q.j : Int) < q.R ∧ (stA q.a q.j ≤ q.i ∧ q.i ≤ stA q.a (q.j + 1)) ∧ SpAt q.C (q.i - stA q.a q.j) (shF (stA q.a q.j) q.b)
def ZR3 (q : XR3) (o : Ex × Few) : Prop := (SpAt q.C (stA q.a (q.j + 1) - stA q.a q.j) (shF (stA q.a q.j) q.b) → o = O1R3 q) ∧ (¬ SpAt q.C (stA q.a (q.j + 1) - stA q.a q.j) (shF (stA q.a q.j) q.b) → o = O2R3)
theorem bad_3 {vs : List SV} {m : Mem} (h : RlL [none, none, some 2, none] vs O2R3.2.1) (h1 : ∃ g, m.fn 2 = some (.cells g 29) ∧ RlL [none, none, some 2, none] g zeV) : Wk 143 [2,3,4,5,7,8,10,11,12] 0 (vs, m) O2R3.2 := by
  obtain ⟨g, h1, h2⟩ := h1
  refine wk_of [none, none, some 2, none] rfl (Nat.zero_le _) (ren1z _) h ⟨?_, trivial⟩
  show RlK _ m 2 (.cells zeV 29)
  unfold RlK
  show (match m.fn 2 with | some (.cells cs1 e1) => e1 = 29 ∧ RlL _ cs1 zeV | _ => False)
  rw [h1]
  exact ⟨rfl, h2⟩
theorem badv {a0 a1 a4 a5 a6 a7 a8 : SV} : RlL [none, none, some 2, none] [a0, a1, .ptr 2 0, .ki .i64 51, a4, a5, a6, a7, a8] O2R3.2.1 := ⟨rl_any _, rl_any _, ⟨rfl, rfl⟩, ⟨rfl, rfl⟩, rl_any _, rl_any _, rl_any _, rl_any _, rl_any _, trivial⟩
theorem roundR3 (n0 : Nat) (q : XR3) (hq : PhiR3 n0 q) : ((sx EFr [] n0 (loopOf P 18 21) (mkS 143 [2,3,4,5,7,8,10,11,12] (VR3 q).1, (VR3 q).2)).bind (proj 143 [2,3,4,5,7,8,10,11,12])).All fun r => match r.1 with
      | .normal => ∃ q', PhiR3 n0 q' ∧ stA q'.a (q'.j + 1) - q'.i < stA q.a (q.j + 1) - q.i ∧ Wk 143 [2,3,4,5,7,8,10,11,12] n0 r.2 (VR3 q') ∧ ∀ o, ZR3 q' o → ZR3 q o
      | e => ∃ s, ZR3 q (e, s) ∧ Wk 143 [2,3,4,5,7,8,10,11,12] n0 r.2 s := by
  obtain ⟨n, f, k, s, h, R, C, sN, a, cN, b, j, i⟩ := q
  obtain ⟨hp, hj, ⟨hi0, hi1⟩, hs⟩ := hq
  have hp : PreFr n0 R C sN a cN b := hp
  have hj : (j : Int) < R := hj
  have hi0 : stA a j ≤ i := hi0
  have hi1 : i ≤ stA a (j + 1) := hi1
  have hs : SpAt C (i - stA a j) (shF (stA a j) b) := hs
  have hp' := hp
  obtain ⟨h0, ⟨R0, R1', C0, C1⟩, hsN, hcN, a0, aR, hu⟩ := hp'
  subst h0
  have hj1 : j + 1 ≤ R.toNat := by omega
  obtain ⟨x0, x1, x2⟩ := st_bnd hp (k := j) (by omega)
  obtain ⟨y0, y1, y2⟩ := st_bnd hp (k := j + 1) hj1
  have e2 : U.add .i64 (j : Int) 1 = ((j + 1 : Nat) : Int) := by rw [U.add64 (by unfold I64; omega)]; omega
  refine T.all_of_eq (t_R3 n f k s h R C (j : Int) (i : Int) sN a cN b i (frF R C a b)) ?_
  rw [e2, tnH, tnH, tnH]
  refine ⟨⟨by omega, by omega⟩, ?_⟩
  have ez : (a (j + 1)).1 = nv a (j + 1) := rfl
  have ez0 : (a j).1 = nv a j := rfl
  rw [ez, ez0]
  by_cases hlt : i < stA a (j + 1)
  · have bad : ∀ {vs : List SV} {m : Mem}, ¬ SpAt C (i - stA a j + 1) (shF (stA a j) b) → RlL [none, none, some 2, none] vs O2R3.2.1 → (∃ g, m.fn 2 = some (.cells g 29) ∧ RlL [none, none, some 2, none] g zeV) → ∃ s', ZR3 ⟨n, f, k, s, h, R, C, sN, a, cN, b, j, i⟩ (.ret, s') ∧ Wk 143 [2,3,4,5,7,8,10,11,12] 0 (vs, m) s' := fun hb h1 h2 =>
      ⟨O2R3.2, ⟨fun g => absurd (spAt_le g (show i - stA a j + 1 ≤ stA a (j + 1) - stA a j by omega)) hb, fun _ => rfl⟩, bad_3 h1 h2⟩
    have ei : nv (shF (stA a j) b) (i - stA a j) = nv b i := by show nv b (i - stA a j + stA a j) = nv b i; exact congrArg (nv b) (by omega)
    have ei1 : 0 < i - stA a j → nv (shF (stA a j) b) (i - stA a j - 1) = nv b (i - 1) := fun _ => by show nv b (i - stA a j - 1 + stA a j) = nv b (i - 1); exact congrArg (nv b) (by omega)
    obtain ⟨b0, b1⟩ := rc_bnd (r := (j : Int)) (by omega) (by omega) C0 C1
    have ad : U.add .i64 (i : Int) 1 = ((i + 1 : Nat) : Int) := add1p (by omega)
    have good : ∀ {g0 g1 g2 g3 g4 g5 : Nat} {x : SV}, 0 ≤ nv b i → nv b i < C → (0 < i - stA a j → nv b (i - 1) < nv b i) → (i + 1) * 8 ≤ 140737488351232 ∧ ∃ q', PhiR3 0 q' ∧ stA q'.a (q'.j + 1) - q'.i < stA a (j + 1) - i ∧ Wk 143 [2,3,4,5,7,8,10,11,12] 0
        ([.ptr 0 0, .ptr 1 0, .ptr 2 0, .any, .lit (.int .i64 R), .lit (.int .i64 C), .own false 5 (i + 1), .lit (.int .i64 (j : Int)), .lit (.int .i64 (U.add .i64 (i : Int) 1))],
         [(g0, some (.cells [.row [.int .i64, .int .i64, .int .i64] n f, .lit (.int .i64 k), .lit (.int .i64 s), .lit (.int .i64 h)] 26)), (g1, some (.cells [.row [.int .i64] sN a, .row [.int .i64] cN b] 31)), (g2, some (.cells zeV 29)), (g3, none), (g4, some (.cells [x] 3)),
          (g5, some (.row false (i + 1) [.int .i64] (U.cat i (frF R C a b) fun _ => (U.add .i64 (U.mul .i64 (j : Int) C) (b i).1, PUnit.unit)) 3))]) (VR3 q') ∧ ∀ o, ZR3 q' o → ZR3 ⟨n, f, k, s, h, R, C, sN, a, cN, b, j, i⟩ o := fun v0 v1 v2 => by
      have em : U.add .i64 (U.mul .i64 (j : Int) C) (b i).1 = (j : Int) * C + nv b i := by
        show U.add .i64 (U.mul .i64 (j : Int) C) (nv b i) = _
        rw [U.mul64 (by unfold I64; omega), U.add64 (by unfold I64; omega)]
      rw [em, ad]
      have hs' : SpAt C (i + 1 - stA a j) (shF (stA a j) b) := by
        rw [show i + 1 - stA a j = i - stA a j + 1 by omega]
        exact spAt_s.2 ⟨hs, by rw [ei]; exact v0, by rw [ei]; exact v1, fun h => by rw [ei, ei1 h]; exact v2 h⟩
      refine ⟨by omega, ⟨n, f, k, s, h, R, C, sN, a, cN, b, j, i + 1⟩, ⟨hp, hj, ⟨(show stA a j ≤ i + 1 by omega), hlt⟩, hs'⟩, (show stA a (j + 1) - (i + 1) < stA a (j + 1) - i by omega), ?_, fun o ho => ho⟩
      refine wk_of [some 0, some 1, some 2, some 5] rfl (Nat.zero_le _) (ren1z _) ⟨⟨rfl, rfl⟩, ⟨rfl, rfl⟩, ⟨rfl, rfl⟩, rl_any _, rfl, rfl, ⟨rfl, rfl, rfl⟩, rfl, rfl, trivial⟩ ⟨⟨rfl, par_rl⟩, ⟨rfl, rc_rl⟩, ⟨rfl, zeV_rl⟩, ⟨rfl, rfl, rfl, row1H fun t ht => ?_⟩, trivial⟩
      refine (U.cat_eq _ _ _ _).trans ?_
      have ht : t < i + 1 := ht
      by_cases h1 : t < i
      · exact if_pos h1
      · obtain rfl : t = i := by omega
        exact (if_neg h1).trans (fr_row hp (k := j) hj1 hi0 hlt).symm
    refine ⟨fun _ => ⟨⟨by omega, by omega⟩, fun g => bad (fun h => ?_) badv ⟨_, rfl, zeV_rl⟩, fun g => ⟨fun g2 => bad (fun h => ?_) badv ⟨_, rfl, zeV_rl⟩, fun g2 => ⟨⟨by omega, by omega⟩, fun g3 => ?_, fun g3 => ?_⟩⟩⟩, fun g => absurd (U.lt_f.mp g) (by omega)⟩
    · have g : nv b i < 0 := U.lt_t.mp g
      have := (spAt_s.1 h).2.1
      rw [ei] at this; omega
    · have g2 : nv b i ≥ C := U.ge_t.mp g2
      have := (spAt_s.1 h).2.2.1
      rw [ei] at this; omega
    · have g : 0 ≤ nv b i := U.lt_f.mp g
      have g2 : nv b i < C := U.ge_f.mp g2
      have g3 : (i : Int) > nv a j := U.gt_t.mp g3
      have es : U.sub .i64 (i : Int) 1 = ((i - 1 : Nat) : Int) := by rw [U.sub64 (by unfold I64; omega)]; omega
      rw [es, tnH]
      refine ⟨⟨by omega, by omega⟩, fun g4 => bad (fun h => ?_) badv ⟨_, rfl, zeV_rl⟩, fun g4 => ?_⟩
      · have g4 : nv b i ≤ nv b (i - 1) := U.le_t.mp g4
        have := (spAt_s.1 h).2.2.2 (by omega)
        rw [ei, ei1 (by omega)] at this; omega
      · have g4 : nv b (i - 1) < nv b i := U.le_f.mp g4
        exact good g g2 fun _ => g4
    · have g : 0 ≤ nv b i := U.lt_f.mp g
      have g2 : nv b i < C := U.ge_f.mp g2
      have g3 : (i : Int) ≤ nv a j := U.gt_f.mp g3
      exact good g g2 fun h => by omega
  · have he : i = stA a (j + 1) := by omega
    subst he
    refine ⟨fun g => absurd (U.lt_t.mp g) (by omega), fun _ => ⟨(O1R3 ⟨n, f, k, s, h, R, C, sN, a, cN, b, j, stA a (j + 1)⟩).2, ⟨fun _ => rfl, fun hk => absurd hs hk⟩, ?_⟩⟩
    exact wk_of [some 0, some 1, some 2, some 3] rfl (Nat.zero_le _) (ren1z _) ⟨⟨rfl, rfl⟩, ⟨rfl, rfl⟩, ⟨rfl, rfl⟩, rl_any _, rfl, rfl, ⟨rfl, rfl, rfl⟩, rfl, rl_any _, trivial⟩ ⟨⟨rfl, par_rl⟩, ⟨rfl, rc_rl⟩, ⟨rfl, zeV_rl⟩, ⟨rfl, rfl, rfl, row1H fun _ _ => rfl⟩, trivial⟩
end Go.RX.Span

/- Sparse domains: the reference's FromRows. -/
set_option linter.unusedVariables false
set_option linter.unusedSimpArgs false
set_option maxRecDepth 100000
namespace Go.RX.Span
open Go Go.RX
attribute [local irreducible] sx conB

theorem loopR3 : LoopOK P (loopOf P 18 21) (few 143 [2,3,4,5,7,8,10,11,12] gR3) :=
  loop_few (E := EFr) mixed EFr_ok loopsOK_none 143 [2,3,4,5,7,8,10,11,12] (X := XR3) gR3 (fun _ x => VR3 x) PhiR3 (fun q => stA q.a (q.j + 1) - q.i) (fun _ x o => ZR3 x o)
    (fun n0 st rr hh => by
      unfold gR3 at hh
      split at hh
      · rename_i n0 p0 q0 p1 q1 p2 q2 s3 R C v bO N j i e0 n f k s h t0 e1 sN a cN b t1 e2 zs t2 e3 v' N' G t3
        obtain ⟨hp, rfl, rfl, rfl, rfl, rfl, rfl, rfl, rfl, rfl, rfl, rfl, rfl, rfl, rfl, rfl⟩ := (T.is_ask hh).1
        have hb := (T.is_ask hh).2
        rw [lk_eq] at hp
        obtain ⟨hp, j0, j1, rfl, rfl, hG⟩ := hp
        have h0 := hp.1
        subst h0
        obtain ⟨jj, rfl⟩ : ∃ jj : Nat, j = (jj : Int) := ⟨j.toNat, by omega⟩
        have hR : jj + 1 ≤ R.toNat := by omega
        have x2 := (st_bnd hp (k := jj) (by omega)).2.2
        have mo := st_mono hp (Nat.le_add_right jj 1) hR
        refine ⟨⟨n, f, k, s, h, R, C, sN, a, cN, b, jj, stA a jj⟩, ⟨hp, j1, ⟨Nat.le_refl _, mo⟩, by rw [Nat.sub_self]; exact fun i hi => absurd hi (Nat.not_lt_zero i)⟩, ?_, fun o ho => ?_⟩
        · exact wk_of [some 0, some 1, some 2, some 3] rfl (Nat.zero_le _) (ren1z _) ⟨⟨rfl, rfl⟩, ⟨rfl, rfl⟩, ⟨rfl, rfl⟩, rl_any _, rfl, rfl, ⟨rfl, rfl, rfl⟩, rfl, (by show Value.int .i64 (nv a jj) = Value.int .i64 ((stA a jj : Nat) : Int); rw [x2]), trivial⟩ ⟨⟨rfl, par_rl⟩, ⟨rfl, rc_rl⟩, ⟨rfl, zeV_rl⟩, ⟨rfl, rfl, rfl, row1H fun t ht => hG t ht⟩, trivial⟩
        · simp only [lk_eq, tnH, U.nsub_eq] at hb
          rcases hb with ⟨he, hb⟩ | ⟨he, hb⟩
          · obtain rfl := T.is_ret hb
            exact ho.1 (okAt_t.1 he)
          · obtain rfl := T.is_ret hb
            exact ho.2 (okAt_f.1 he)
      · exact hh.elim)
    roundR3
theorem LR3_ok : LoopsOK P LR3 (bodyOf P 18) := loopsOK_of (by kernel_rfl) fun k g hk => by
  simp only [List.mem_singleton, Prod.mk.injEq, LoopC.sum.injEq] at hk
  obtain ⟨rfl, rfl⟩ := hk
  exact loopR3
theorem LR3_sub : LoopsOK P LR3 (loopOf P 18 18) := LR3_ok.sub (fun l hl => by
  rw [show loopsIn (bodyOf P 18) = loopOf P 18 12 :: loopOf P 18 18 :: loopsIn (loopOf P 18 18) by kernel_rfl]
  exact List.mem_cons_of_mem _ (List.mem_cons_of_mem _ hl)) fun l hl => by
  rw [show rangesIn (loopOf P 18 18) = [] by kernel_rfl] at hl; cases hl
structure XR2 where
  (n : Nat) (f : Nat → R3) (k s h : Int) (R C : Int) (sN : Nat) (a : Nat → R1) (cN : Nat) (b : Nat → R1) (j : Nat)
noncomputable abbrev VR2 (q : XR2) : Few := (slR2 q.R q.C (stA q.a q.j) q.j, mmS q.n q.f q.k q.s q.h q.sN q.a q.cN q.b (stA q.a q.j) (frF q.R q.C q.a q.b))
noncomputable def O1R2 (q : XR2) : Ex × Few := (.exit 2, (slR2 q.R q.C q.cN q.R, mmS q.n q.f q.k q.s q.h q.sN q.a q.cN q.b q.cN (frF q.R q.C q.a q.b) ++ [(0, none)]))
noncomputable def O2R2 : Ex × Few := (.ret, ([.any, .any, .ptr 2 0, .ki .i64 51, .any, .any, .any, .any], [(0, none), (0, none), (0, some (.cells zeV 29)), (0, none), (0, none)]))
def PhiR2 (n0 : Nat) (q : XR2) : Prop := PreFr n0 q.R q.C q.sN q.a q.cN q.b ∧ q.j ≤ q.R.toNat ∧ ∀ k, k < q.j → SpAt q.C (stA q.a (k + 1) - stA q.a k) (shF (stA q.a k) q.b)
def ZR2 (q : XR2) (o : Ex × Few) : Prop := (FrOk q.R q.C q.a q.b → o = O1R2 q) ∧ (¬ FrOk q.R q.C q.a q.b → o = O2R2)
theorem roundR2 (n0 : Nat) (q : XR2) (hq : PhiR2 n0 q) : ((sx EFr LR3 n0 (loopOf P 18 18) (mkS 143 [2,3,4,5,7,8,10,11] (VR2 q).1, (VR2 q).2)).bind (proj 143 [2,3,4,5,7,8,10,11])).All fun r => match r.1 with
      | .normal => ∃ q', PhiR2 n0 q' ∧ q'.R.toNat - q'.j < q.R.toNat - q.j ∧ Wk 143 [2,3,4,5,7,8,10,11] n0 r.2 (VR2 q') ∧ ∀ o, ZR2 q' o → ZR2 q o
      | e => ∃ s, ZR2 q (e, s) ∧ Wk 143 [2,3,4,5,7,8,10,11] n0 r.2 s := by
  obtain ⟨n, f, k, s, h, R, C, sN, a, cN, b, j⟩ := q
  obtain ⟨hp, hj, hall⟩ := hq
  have hp : PreFr n0 R C sN a cN b := hp
  have hj : j ≤ R.toNat := hj
  have hall : ∀ k, k < j → SpAt C (stA a (k + 1) - stA a k) (shF (stA a k) b) := hall
  have hp' := hp
  obtain ⟨h0, ⟨R0, R1', C0, C1⟩, hs, hcN, a0, aR, hu⟩ := hp'
  subst h0
  refine T.all_of_eq (t_R2 n f k s h R C (j : Int) sN a cN b (stA a j) (frF R C a b)) ?_
  by_cases hlt : (j : Int) < R
  · have e2 : U.add .i64 (j : Int) 1 = ((j + 1 : Nat) : Int) := by rw [U.add64 (by unfold I64; omega)]; omega
    have hj1 : j + 1 ≤ R.toNat := by omega
    rw [e2, tnH]
    simp only [lk_eq, U.nsub_eq]
    refine ⟨fun _ => ⟨⟨by omega, by omega⟩, ⟨⟨hp, by omega, hlt, rfl, rfl, fun _ _ => rfl⟩, trivial, trivial, trivial, trivial, trivial, trivial, trivial, trivial, trivial, trivial, trivial, trivial, trivial, trivial, trivial⟩, fun g => ?_, fun g => ?_⟩, fun g => absurd (U.lt_f.mp g) (by omega)⟩
    · have ok := okAt_t.1 g
      refine ⟨⟨n, f, k, s, h, R, C, sN, a, cN, b, j + 1⟩, ⟨hp, hj1, fun t ht => ?_⟩, (show R.toNat - (j + 1) < R.toNat - j by omega), ?_, fun o ho => ho⟩
      · have ht : t < j + 1 := ht
        by_cases et : t = j
        · subst et; exact ok
        · exact hall t (by omega)
      · exact wk_of [some 0, some 1, some 2, some 3] rfl (Nat.zero_le _) (ren1z _) ⟨⟨rfl, rfl⟩, ⟨rfl, rfl⟩, ⟨rfl, rfl⟩, rl_any _, rfl, rfl, ⟨rfl, rfl, rfl⟩, rfl, trivial⟩ ⟨⟨rfl, par_rl⟩, ⟨rfl, rc_rl⟩, ⟨rfl, zeV_rl⟩, ⟨rfl, rfl, rfl, row1H fun _ _ => rfl⟩, trivial⟩
    · have nok := okAt_f.1 g
      refine ⟨O2R2.2, ⟨fun hk => absurd (hk j (show j < R.toNat by omega)) nok, fun _ => rfl⟩, ?_⟩
      exact wk_of [none, none, some 2, none, none] rfl (Nat.zero_le _) (ren1z _) ⟨rl_any _, rl_any _, ⟨rfl, rfl⟩, ⟨rfl, rfl⟩, rl_any _, rl_any _, rl_any _, rl_any _, trivial⟩ ⟨⟨rfl, zeV_rl⟩, trivial⟩
  · have hR : R = ((j : Nat) : Int) := by omega
    have hR2 : R.toNat = j := by omega
    have ok : FrOk R C a b := fun k hk => hall k (by omega)
    have ec : stA a j = cN := by
      have e1 := (st_bnd hp (k := j) hj).2.2
      have e2 : nv a j = cN := by rw [← hR2]; exact aR
      omega
    refine ⟨fun g => absurd (U.lt_t.mp g) hlt, fun _ => ⟨(O1R2 ⟨n, f, k, s, h, R, C, sN, a, cN, b, j⟩).2, ⟨fun _ => rfl, fun hk => absurd ok hk⟩, ?_⟩⟩
    rw [ec]
    exact wk_of [some 0, some 1, some 2, some 3, none] rfl (Nat.zero_le _) (ren1z _) ⟨⟨rfl, rfl⟩, ⟨rfl, rfl⟩, ⟨rfl, rfl⟩, rl_any _, rfl, rfl, ⟨rfl, rfl, rfl⟩, (by show Value.int .i64 (j : Int) = Value.int .i64 R; rw [hR]), trivial⟩ ⟨⟨rfl, par_rl⟩, ⟨rfl, rc_rl⟩, ⟨rfl, zeV_rl⟩, ⟨rfl, rfl, rfl, row1H fun _ _ => rfl⟩, trivial⟩
theorem loopR2 : LoopOK P (loopOf P 18 18) (few 143 [2,3,4,5,7,8,10,11] gR2) :=
  loop_few (E := EFr) mixed EFr_ok LR3_sub 143 [2,3,4,5,7,8,10,11] (X := XR2) gR2 (fun _ x => VR2 x) PhiR2 (fun q => q.R.toNat - q.j) (fun _ x o => ZR2 x o)
    (fun n0 st rr hh => by
      unfold gR2 at hh
      split at hh
      · rename_i n0 p0 q0 p1 q1 p2 q2 s3 R C v bO z e0 n f k s h t0 e1 sN a cN b t1 e2 zs t2 e3 e4 v' G t3
        obtain ⟨hp, rfl, rfl, rfl, rfl, rfl, rfl, rfl, rfl, rfl, rfl, rfl, rfl, rfl, rfl, rfl⟩ := (T.is_ask hh).1
        have hb := (T.is_ask hh).2
        rw [lk_eq] at hp
        have h0 := hp.1
        subst h0
        have st0 : stA a 0 = 0 := by unfold stA; rw [hp.2.2.2.2.1]; rfl
        refine ⟨⟨n, f, k, s, h, R, C, sN, a, cN, b, 0⟩, ⟨hp, Nat.zero_le _, fun i hi => absurd hi (Nat.not_lt_zero i)⟩, ?_, fun o ho => ?_⟩
        · show Wk _ _ _ _ (slR2 R C (stA a 0) ((0 : Nat) : Int), mmS n f k s h sN a cN b (stA a 0) (frF R C a b))
          rw [st0]
          exact wk_of [some 0, some 1, some 2, some 4] rfl (Nat.zero_le _) (ren1z _) ⟨⟨rfl, rfl⟩, ⟨rfl, rfl⟩, ⟨rfl, rfl⟩, rl_any _, rfl, rfl, ⟨rfl, rfl, rfl⟩, rfl, trivial⟩ ⟨⟨rfl, par_rl⟩, ⟨rfl, rc_rl⟩, ⟨rfl, zeV_rl⟩, ⟨rfl, rfl, rfl, row1H fun t ht => absurd ht (Nat.not_lt_zero t)⟩, trivial⟩
        · rcases hb with ⟨he, hb⟩ | ⟨he, hb⟩
          · rw [lk_eq] at he
            obtain rfl := T.is_ret hb
            rw [ho.1 (frB_t.1 he)]
            simp only [lk_eq]; rfl
          · rw [lk_eq] at he
            obtain rfl := T.is_ret hb
            exact ho.2 (frB_f.1 he)
      · exact hh.elim)
    roundR2
theorem lR0_ok : ∀ p ∈ lR0, LoopsOK P p.2 (bodyOf P p.1) := by
  intro p hp
  simp only [lR0, List.mem_singleton] at hp
  subst hp
  refine loopsOK_of (by kernel_rfl) fun k g hk => ?_
  simp only [List.mem_cons, List.not_mem_nil, or_false, Prod.mk.injEq, LoopC.sum.injEq] at hk
  rcases hk with ⟨rfl, rfl⟩ | ⟨rfl, rfl⟩ | ⟨rfl, rfl⟩
  · exact loopR1
  · exact loopR3
  · exact loopR2
end Go.RX.Span

/- Sparse domains: the reference's FromRows: the contract. -/
set_option linter.unusedVariables false
set_option linter.unusedSimpArgs false
set_option maxRecDepth 100000
namespace Go.RX.Span
open Go Go.RX
attribute [local irreducible] sx conB

theorem QFromRows_ok : ConOK P 18 c_FromRows := con_cl (allOKL mixed kFr_ok lR0_ok) 10 18 fun args r hh => by
  unfold c_FromRows at hh
  split at hh
  · rename_i n f k s h sN a cN b
    have hp := (T.is_ask hh).1
    obtain rfl := T.is_ret (T.is_ask hh).2
    refine T.all_of_eq (t_FrQ n f k s h sN a cN b) ?_
    have tn1' : U.toNat (1 : Int) = 1 := tn 1
    simp only [lk_eq, tn0, tn1', Int.ofNat_eq_natCast]
    refine ⟨hp, fun g => ?_, fun g => ⟨fun g2 => ?_, fun g2 => ?_⟩⟩
    · have g := U.ne_t.mp g
      exact cl_err (frE_1 g) g
    · have g := U.ne_f.mp g
      have g2 := U.ne_t.mp g2
      exact cl_err (frE_2 g (by omega)) (by decide)
    · have g := U.ne_f.mp g
      have g2 : (n : Int) = 2 := U.ne_f.mp g2
      have h2 : n = 2 := by omega
      obtain ⟨R0, R1', C0, C1⟩ := pd_sz g h2
      have ea : U.add .i64 (size (f 0).1 (f 0).2.1 (f 0).2.2.1) 1 = szR (f 0) + 1 := U.add64 (by show I64 (szR (f 0) + 1); unfold I64; omega)
      have et : U.toNat (size (f 0).1 (f 0).2.1 (f 0).2.2.1) = (szR (f 0)).toNat := by rw [U.toNat_eq]; rfl
      rw [ea, et]
      refine ⟨⟨by omega, by omega⟩, hp 0 (by omega), ⟨by omega, by omega⟩, hp 1 (by omega), fun g3 => ?_, fun g3 => ⟨fun g4 => ?_, fun g4 => ⟨?_, fun g5 => ?_, fun g5 => ⟨?_, fun g6 => ?_, fun g6 => ⟨?_, fun g7 => ⟨?_, fun g8 => ?_, fun g8 => ?_⟩, fun g7 => ?_⟩⟩⟩⟩⟩
      · exact cl_err (frE_3 g h2 (.inl (U.ne_t.mp g3))) (by decide)
      · exact cl_err (frE_3 g h2 (.inr (by have := U.gt_t.mp g4; omega))) (by decide)
      all_goals have g3 : (sN : Int) = szR (f 0) + 1 := U.ne_f.mp g3
      all_goals have g4 : cN ≤ 5000 := by have := U.gt_f.mp g4; omega
      · exact ⟨by omega, by omega⟩
      · exact cl_err (frE_4 g h2 g3 g4 (.inl (U.ne_t.mp g5))) (by decide)
      · show 0 ≤ szR (f 0) ∧ szR (f 0) < (sN : Int)
        omega
      · exact cl_err (frE_4 g h2 g3 g4 (.inr (.inl (U.ne_t.mp g6)))) (by decide)
      · exact ⟨⟨rfl, R0, R1', (by show sN = (szR (f 0)).toNat + 1; omega)⟩, trivial, trivial, trivial, trivial, trivial, trivial, trivial, trivial, trivial, trivial, trivial⟩
      · exact ⟨⟨rfl, ⟨R0, R1', C0, C1⟩, (by show sN = (szR (f 0)).toNat + 1; omega), g4, U.ne_f.mp g5, U.ne_f.mp g6, srB_t.1 g7⟩, trivial, trivial, trivial, trivial, trivial, trivial, trivial, trivial, trivial, trivial, trivial, trivial, trivial, trivial, trivial⟩
      · have e0 := frE_5 g h2 g3 g4 (U.ne_f.mp g5) (U.ne_f.mp g6) (srB_t.1 g7) (frB_t.1 g8)
        rw [e0]
        exact ⟨⟨⟨rfl, sameRow_refl _ _⟩, .inl rfl, .inl rfl, .inl rfl, ⟨rfl, row1H fun _ _ => rfl⟩, rfl⟩, .inl rfl, rfl⟩
      · exact cl_err (frE_4 g h2 g3 g4 (.inr (.inr (.inr (frB_f.1 g8))))) (by decide)
      · exact cl_err (frE_4 g h2 g3 g4 (.inr (.inr (.inl (srB_f.1 g7))))) (by decide)
  · exact hh.elim
end Go.RX.Span

/- Sparse domains: short, few: what they call. -/
set_option linter.unusedVariables false
set_option linter.unusedSimpArgs false
set_option maxRecDepth 100000
namespace Go.RX.Span
open Go Go.RX
attribute [local irreducible] sx conB

noncomputable abbrev kSh : List (Nat × Con) := [(107, c_Check), (108, c_Size), (66, c_Equal3), (14, c_Equal)] --%K
theorem kSh_ok : ∀ p ∈ kSh, ConOK P p.1 p.2 := by
  intro p hp
  simp only [kSh, List.mem_cons, List.not_mem_nil, or_false] at hp
  rcases hp with rfl | rfl | rfl | rfl
  · exact rCheck_ok
  · exact rSize_ok
  · exact Equal3_ok
  · exact Equal_ok
noncomputable abbrev ESh : Env := ⟨P, conOf kSh, scall P (conOf kSh) noLoops 10⟩
theorem ESh_ok : EnvOK ESh := envOK (allOK mixed kSh_ok) 10
end Go.RX.Span

/- Sparse domains: short, few, same: the states. -/
set_option linter.unusedVariables false
set_option linter.unusedSimpArgs false
set_option maxRecDepth 100000
namespace Go.RX.Span
open Go Go.RX
attribute [local irreducible] sx conB

def longB (r : R3) : Bool := decide (chk r.1 r.2.1 r.2.2.1 = 0 ∧ 1000 < size r.1 r.2.1 r.2.2.1)
def anyB (n : Nat) (f : Nat → R3) : Bool := (List.range n).any fun i => longB (f i)
def shB (n : Nat) (f : Nat → R3) : Bool := decide (n ≤ 10) && !(anyB n f)
def fwB (n : Nat) (f : Nat → R3) (m : Nat) : Bool := shB n f && decide (m ≤ 100)
def PreIx (n0 : Nat) (n : Nat) (f : Nat → R3) : Prop := n0 = 0 ∧ n ≤ 10 ∧ Row64 n f
noncomputable abbrev slIx (n : Nat) (f : Nat → R3) (i : Int) : List SV := [.row [.int .i64, .int .i64, .int .i64] n f, .fn (.func 106) [] [], .any, .lit (.int .i64 (n : Int)), .lit (.int .i64 i)]
open Classical in
noncomputable def fstI (n : Nat) (f : Nat → R3) : Nat := if h : ∃ i, i < n ∧ longB (f i) = true ∧ ∀ j, j < i → longB (f j) = false then h.choose else 0
theorem fstI_eq {n : Nat} {f : Nat → R3} {i : Nat} (h1 : i < n) (h2 : longB (f i) = true) (h3 : ∀ j, j < i → longB (f j) = false) : fstI n f = i := by
  have h : ∃ i, i < n ∧ longB (f i) = true ∧ ∀ j, j < i → longB (f j) = false := ⟨i, h1, h2, h3⟩
  unfold fstI
  rw [dif_pos h]
  obtain ⟨g1, g2, g3⟩ := h.choose_spec
  rcases Nat.lt_trichotomy h.choose i with g | g | g
  · rw [h3 _ g] at g2; cases g2
  · exact g
  · rw [g3 _ g] at h2; cases h2
noncomputable def gIx : Nat → Few → T (Ex × Few)
  | n0, ([.row [.int .i64, .int .i64, .int .i64] n f, .fn (.func g) [] [], _, .lit (.int .i64 N), .ki .i64 z], []) =>
    .ask (lk PreIx n0 n f ∧ g = 106 ∧ N = (n : Int) ∧ z = 0) (.br (lk anyB n f) (.ret (.ret, ([.any, .any, .lit (.int .i64 ((lk fstI n f : Nat) : Int)), .any, .any], []))) (.ret (.exit 0, ([.any, .any, .any, .any, .any], []))))
  | _, _ => .stuck 1
noncomputable abbrev lIx : List (Nat × Loops) := [(136, [(2, .sum (few 19 [0,1,4,7,8] gIx))])] --%K
noncomputable def c_CF : Con := fun args => match args with
  | [.row [.int .i64, .int .i64, .int .i64] n f, .fn (.func g) [] []] => .ask (lk PreIx 0 n f ∧ g = 106) (.ret (.lit (.bool (lk anyB n f))))
  | _ => .stuck 1
noncomputable def c_short : Con := fun args => match args with
  | [.agg [.row [.int .i64, .int .i64, .int .i64] n f, .lit (.int .i64 k), .lit (.int .i64 s), .lit (.int .i64 h)]] => .ask (Row64 n f) (.ret (.lit (.bool (lk shB n f))))
  | _ => .stuck 1
noncomputable def c_few : Con := fun args => match args with
  | [.agg [.row [.int .i64, .int .i64, .int .i64] n f, .lit (.int .i64 k), .lit (.int .i64 s), .lit (.int .i64 h), .row [.int .i64] m e]] => .ask (Row64 n f) (.ret (.lit (.bool (lk fwB n f m))))
  | _ => .stuck 1
noncomputable def smB (n : Nat) (f : Nat → R3) (k s h : Int) (m : Nat) (e : Nat → R1) (n1 : Nat) (f1 : Nat → R3) (k1 s1 h1 : Int) (m1 : Nat) (e1 : Nat → R1) : Bool := eqR3 n f n1 f1 && (decide (k = k1 ∧ s = s1 ∧ h = h1) && eqR m e m1 e1)
noncomputable def c_same : Con := fun args => match args with
  | [.agg [.row [.int .i64, .int .i64, .int .i64] n f, .lit (.int .i64 k), .lit (.int .i64 s), .lit (.int .i64 h), .row [.int .i64] m e], .agg [.row [.int .i64, .int .i64, .int .i64] n1 f1, .lit (.int .i64 k1), .lit (.int .i64 s1), .lit (.int .i64 h1), .row [.int .i64] m1 e1]] =>
    .ask (n ≤ top ∧ m ≤ top) (.ret (.lit (.bool (lk smB n f k s h m e n1 f1 k1 s1 h1 m1 e1))))
  | _ => .stuck 1
noncomputable abbrev kS2 : List (Nat × Con) := (105, c_CF) :: kSh --%K
noncomputable abbrev kS3 : List (Nat × Con) := (57, c_short) :: kS2 --%K
end Go.RX.Span

/- Sparse domains: short, few, same: the walks. -/
set_option linter.unusedVariables false
set_option linter.unusedSimpArgs false
set_option maxRecDepth 100000
namespace Go.RX.Span
open Go Go.RX
attribute [local irreducible] sx conB

--%R < ↑(\w+)\b => < ((\1 : Nat) : Int)
--%R ↑(\w+) (=|≤) => ((\1 : Nat) : Int) \2
set_option maxRecDepth 100000 in
theorem t_Ix (n : Nat) (f : Nat → R3) (i : Int) : (sx ESh [] 0 (loopOf P 136 2) (mkS 19 [0,1,4,7,8] (slIx n f i), [])).bind (proj 19 [0,1,4,7,8]) =
    T.br (U.lt i (Int.ofNat n)) (.ask ((0 : Int) ≤ i ∧ i < ((n : Nat) : Int)) (.ask (I64 (f (U.toNat i)).1 ∧ I64 (f (U.toNat i)).2.1 ∧ I64 (f (U.toNat i)).2.2.1) (.br (U.eq (lk chk (f
      (U.toNat i)).1 (f (U.toNat i)).2.1 (f (U.toNat i)).2.2.1) (0 : Int)) (.ask (I64 (f (U.toNat i)).1 ∧ I64 (f (U.toNat i)).2.1 ∧ I64 (f (U.toNat i)).2.2.1) (.br (U.gt (lk size (f
      (U.toNat i)).1 (f (U.toNat i)).2.1 (f (U.toNat i)).2.2.1) (1000 : Int)) (.ret (Ex.ret, [.row [.int .i64, .int .i64, .int .i64] n f, SV.fn (Fn.func (nat_lit 106)) [] [], .lit (.int
      .i64 i), .lit (.int .i64 (Int.ofNat n)), .lit (.int .i64 i)], [(nat_lit 0, some (Blk.cells [.lit (.int .i64 (f (U.toNat i)).1), .lit (.int .i64 (f (U.toNat i)).2.1), .lit (.int .i64
      (f (U.toNat i)).2.2.1)] (nat_lit 94)))])) (.ret (Ex.normal, [.row [.int .i64, .int .i64, .int .i64] n f, SV.fn (Fn.func (nat_lit 106)) [] [], SV.any, .lit (.int .i64 (Int.ofNat n)),
      .lit (.int .i64 (U.add .i64 i (1 : Int)))], [(nat_lit 0, some (Blk.cells [.lit (.int .i64 (f (U.toNat i)).1), .lit (.int .i64 (f (U.toNat i)).2.1), .lit (.int .i64 (f (U.toNat
      i)).2.2.1)] (nat_lit 94)))])))) (.ret (Ex.normal, [.row [.int .i64, .int .i64, .int .i64] n f, SV.fn (Fn.func (nat_lit 106)) [] [], SV.any, .lit (.int .i64 (Int.ofNat n)), .lit
      (.int .i64 (U.add .i64 i (1 : Int)))], [(nat_lit 0, some (Blk.cells [.lit (.int .i64 (f (U.toNat i)).1), .lit (.int .i64 (f (U.toNat i)).2.1), .lit (.int .i64 (f (U.toNat
      i)).2.2.1)] (nat_lit 94)))]))))) (.ret (Ex.exit (nat_lit 0), [.row [.int .i64, .int .i64, .int .i64] n f, SV.fn (Fn.func (nat_lit 106)) [] [], SV.any, .lit (.int .i64 (Int.ofNat
      n)), .lit (.int .i64 i)], [])) := by kernel_rfl
set_option maxRecDepth 100000 in
theorem t_CF (n : Nat) (f : Nat → R3) : conB Go.Proofs.Try.prog (conOf kSh) (loopsOf lIx) 10 105 [.row [.int .i64, .int .i64, .int .i64] n f, .fn (.func 106) [] []] =
    T.ask (lk PreIx (nat_lit 0) n f ∧ (106 : FuncId) = (106 : FuncId) ∧ ((n : Nat) : Int) = ↑n ∧ (0 : Int) = (0 : Int)) (.br (lk anyB n f) (.ret (.lit (.bool (U.ge (Int.ofNat (lk fstI n
      f)) (0 : Int))))) (.ret (.lit (.bool false)))) := by kernel_rfl
set_option maxRecDepth 100000 in
theorem t_short (n : Nat) (f : Nat → R3) (k s h : Int) : conB Go.Proofs.Try.prog (conOf kS2) noLoops 10 57 [.agg [.row [.int .i64, .int .i64, .int .i64] n f, .lit (.int .i64 k), .lit (.int .i64 s), .lit (.int .i64 h)]] =
    T.br (U.le (Int.ofNat n) (10 : Int)) (.ask (lk PreIx (0 : Nat) n f ∧ (106 : Nat) = (106 : FuncId)) (.ret (.lit (.bool (U.not (lk anyB n f)))))) (.ret (.lit (.bool false))) := by kernel_rfl
set_option maxRecDepth 100000 in
theorem t_few (n : Nat) (f : Nat → R3) (k s h : Int) (m : Nat) (e : Nat → R1) : conB Go.Proofs.Try.prog (conOf kS3) noLoops 10 9 [.agg [.row [.int .i64, .int .i64, .int .i64] n f, .lit (.int .i64 k), .lit (.int .i64 s), .lit (.int .i64 h), .row [.int .i64] m e]] =
    T.ask (Row64 n f) (.br (lk shB n f) (.ret (.lit (.bool (U.le (Int.ofNat m) (100 : Int))))) (.ret (.lit (.bool false)))) := by kernel_rfl
set_option maxRecDepth 100000 in
theorem t_same (n : Nat) (f : Nat → R3) (k s h : Int) (m : Nat) (e : Nat → R1) (n1 : Nat) (f1 : Nat → R3) (k1 s1 h1 : Int) (m1 : Nat) (e1 : Nat → R1) : conB Go.Proofs.Try.prog (conOf kS3) noLoops 10 19 [.agg [.row [.int .i64, .int .i64, .int .i64] n f, .lit (.int .i64 k), .lit (.int .i64 s), .lit (.int .i64 h), .row [.int .i64] m e], .agg [.row [.int .i64, .int .i64, .int .i64] n1 f1, .lit (.int .i64 k1), .lit (.int .i64 s1), .lit (.int .i64 h1), .row [.int .i64] m1 e1]] =
    T.ask (n ≤ nat_lit 9223372036854775807) (.br (lk eqR3 n f n1 f1) (.br (U.andb (U.eq k k1) (U.andb (U.eq s s1) (U.eq h h1))) (.ask (m ≤ nat_lit 9223372036854775807) (.ret (.lit
      (.bool (lk eqR m e m1 e1))))) (.ret (.lit (.bool false)))) (.ret (.lit (.bool false)))) := by kernel_rfl
end Go.RX.Span

/- Sparse domains: short, few, same. -/
set_option linter.unusedVariables false
set_option linter.unusedSimpArgs false
set_option maxRecDepth 100000
namespace Go.RX.Span
open Go Go.RX
attribute [local irreducible] sx conB

theorem anyB_t {n : Nat} {f : Nat → R3} : anyB n f = true ↔ ∃ i, i < n ∧ longB (f i) = true := by
  unfold anyB
  rw [List.any_eq_true]
  exact ⟨fun ⟨i, h1, h2⟩ => ⟨i, List.mem_range.1 h1, h2⟩, fun ⟨i, h1, h2⟩ => ⟨i, List.mem_range.2 h1, h2⟩⟩
structure XIx where
  (n : Nat) (f : Nat → R3) (i : Nat)
noncomputable abbrev VIx (q : XIx) : Few := (slIx q.n q.f q.i, [])
noncomputable def O1Ix (q : XIx) : Ex × Few := (.ret, ([.any, .any, .lit (.int .i64 ((fstI q.n q.f : Nat) : Int)), .any, .any], []))
noncomputable def O2Ix : Ex × Few := (.exit 0, ([.any, .any, .any, .any, .any], []))
def PhiIx (n0 : Nat) (q : XIx) : Prop := PreIx n0 q.n q.f ∧ q.i ≤ q.n ∧ ∀ j, j < q.i → longB (q.f j) = false
def ZIx (q : XIx) (o : Ex × Few) : Prop := (anyB q.n q.f = true → o = O1Ix q) ∧ (anyB q.n q.f = false → o = O2Ix)
theorem wIx {vs vs' : List SV} {m : Mem} (h : RlL (idR 0) vs vs') : Wk 19 [0,1,4,7,8] 0 (vs, m) (vs', []) := wk_of (idR 0) rfl (Nat.zero_le _) (fun b hb => by omega) h trivial
theorem roundIx (n0 : Nat) (q : XIx) (hq : PhiIx n0 q) : ((sx ESh [] n0 (loopOf P 136 2) (mkS 19 [0,1,4,7,8] (VIx q).1, (VIx q).2)).bind (proj 19 [0,1,4,7,8])).All fun r => match r.1 with
      | .normal => ∃ q', PhiIx n0 q' ∧ q'.n - q'.i < q.n - q.i ∧ Wk 19 [0,1,4,7,8] n0 r.2 (VIx q') ∧ ∀ o, ZIx q' o → ZIx q o
      | e => ∃ s, ZIx q (e, s) ∧ Wk 19 [0,1,4,7,8] n0 r.2 s := by
  obtain ⟨n, f, i⟩ := q
  obtain ⟨hp, hi, hall⟩ := hq
  have hp : PreIx n0 n f := hp
  have hi : i ≤ n := hi
  have hall : ∀ j, j < i → longB (f j) = false := hall
  have hp' := hp
  obtain ⟨h0, hn, hr⟩ := hp'
  subst h0
  refine T.all_of_eq (t_Ix n f (i : Int)) ?_
  have st : ∀ (v : SV), RlL (idR 0) [.row [.int .i64, .int .i64, .int .i64] n f, .fn (.func 106) [] [], v, .lit (.int .i64 (n : Int)), .lit (.int .i64 ((i + 1 : Nat) : Int))] (slIx n f ((i + 1 : Nat) : Int)) := fun v => ⟨⟨rfl, sameRow_refl _ _⟩, ⟨rfl, trivial, trivial⟩, rl_any _, rfl, rfl, trivial⟩
  by_cases hlt : i < n
  · rw [add1p (j := i) (by omega), tnH]
    simp only [lk_eq]
    have next : longB (f i) = false → ∀ (v : SV) (m : Mem), ∃ q', PhiIx 0 q' ∧ q'.n - q'.i < n - i ∧ Wk 19 [0,1,4,7,8] 0 ([.row [.int .i64, .int .i64, .int .i64] n f, .fn (.func 106) [] [], v, .lit (.int .i64 (n : Int)), .lit (.int .i64 ((i + 1 : Nat) : Int))], m) (VIx q') ∧ ∀ o, ZIx q' o → ZIx ⟨n, f, i⟩ o := fun hb v m =>
      ⟨⟨n, f, i + 1⟩, ⟨hp, hlt, fun j hj => by
        have hj : j < i + 1 := hj
        by_cases ej : j = i
        · subst ej; exact hb
        · exact hall j (by omega)⟩, (show n - (i + 1) < n - i by omega), wIx (st v), fun o ho => ho⟩
    refine ⟨fun _ => ⟨⟨by omega, by omega⟩, hr i hlt, fun g => ⟨hr i hlt, fun g2 => ?_, fun g2 => ?_⟩, fun g => ?_⟩, fun g => absurd (U.lt_f.mp g) (by simp only [Int.ofNat_eq_natCast]; omega)⟩
    · have hl : longB (f i) = true := decide_eq_true ⟨U.eq_t.mp g, by have := U.gt_t.mp g2; exact this⟩
      have ha : anyB n f = true := anyB_t.2 ⟨i, hlt, hl⟩
      have hf := fstI_eq hlt hl hall
      refine ⟨(O1Ix ⟨n, f, i⟩).2, ⟨fun _ => rfl, fun h => by have h : anyB n f = false := h; rw [ha] at h; cases h⟩, wIx ⟨rl_any _, rl_any _, ?_, rl_any _, rl_any _, trivial⟩⟩
      show Value.int .i64 (i : Int) = Value.int .i64 ((fstI n f : Nat) : Int)
      rw [hf]
    · have hl : longB (f i) = false := decide_eq_false fun h => by have := U.gt_f.mp g2; omega
      exact next hl _ _
    · have hl : longB (f i) = false := decide_eq_false fun h => U.eq_f.mp g h.1
      exact next hl _ _
  · obtain rfl : i = n := by omega
    have ha : anyB i f = false := by
      cases hb : anyB i f
      · rfl
      · obtain ⟨j, h1, h2⟩ := anyB_t.1 hb
        rw [hall j h1] at h2; cases h2
    refine ⟨fun g => absurd (U.lt_t.mp g) (by simp only [Int.ofNat_eq_natCast]; omega), fun _ => ⟨O2Ix.2, ⟨(fun h => by have h : anyB i f = true := h; rw [ha] at h; cases h), fun _ => rfl⟩, wIx ⟨rl_any _, rl_any _, rl_any _, rl_any _, rl_any _, trivial⟩⟩⟩
theorem loopIx : LoopOK P (loopOf P 136 2) (few 19 [0,1,4,7,8] gIx) :=
  loop_few (E := ESh) mixed ESh_ok loopsOK_none 19 [0,1,4,7,8] (X := XIx) gIx (fun _ x => VIx x) PhiIx (fun q => q.n - q.i) (fun _ x o => ZIx x o)
    (fun n0 st r hh => by
      unfold gIx at hh
      split at hh
      · rename_i n0 n f g s2 N z
        obtain ⟨hp, rfl, rfl, rfl⟩ := (T.is_ask hh).1
        have hb := (T.is_ask hh).2
        rw [lk_eq] at hp
        have h0 := hp.1
        subst h0
        refine ⟨⟨n, f, 0⟩, ⟨hp, Nat.zero_le _, fun j hj => absurd hj (Nat.not_lt_zero j)⟩, wIx ⟨⟨rfl, sameRow_refl _ _⟩, ⟨rfl, trivial, trivial⟩, rl_any _, rfl, rfl, trivial⟩, fun o ho => ?_⟩
        rcases hb with ⟨he, hb⟩ | ⟨he, hb⟩
        · rw [lk_eq] at he
          obtain rfl := T.is_ret hb
          rw [ho.1 he]; simp only [lk_eq]; rfl
        · rw [lk_eq] at he
          obtain rfl := T.is_ret hb
          exact ho.2 he
      · exact hh.elim)
    roundIx
theorem lIx_ok : ∀ p ∈ lIx, LoopsOK P p.2 (bodyOf P p.1) := by
  intro p hp
  simp only [lIx, List.mem_singleton] at hp
  subst hp
  refine loopsOK_of (by kernel_rfl) fun k g hk => ?_
  simp only [List.mem_singleton, Prod.mk.injEq, LoopC.sum.injEq] at hk
  obtain ⟨rfl, rfl⟩ := hk
  exact loopIx
theorem lb_eq {x y : Bool} (h : x = y) : SV.lit (.bool x) = SV.lit (.bool y) := by rw [h]
theorem CF_ok : ConOK P 105 c_CF := con_of (allOKL mixed kSh_ok lIx_ok) 10 105 fun args r hh => by
  unfold c_CF at hh
  split at hh
  · rename_i n f g
    obtain ⟨hp, rfl⟩ := (T.is_ask hh).1
    obtain rfl := T.is_ret (T.is_ask hh).2
    rw [lk_eq] at hp
    refine T.all_of_eq (t_CF n f) ?_
    simp only [lk_eq]
    exact ⟨⟨hp, trivial, trivial, trivial⟩, fun g => lb_eq ((U.ge_t.mpr (Int.natCast_nonneg _)).trans g.symm), fun g => lb_eq g.symm⟩
  · exact hh.elim
theorem kS2_ok : ∀ p ∈ kS2, ConOK P p.1 p.2 := by
  intro p hp
  rcases List.mem_cons.1 hp with rfl | hp
  · exact CF_ok
  · exact kSh_ok p hp
theorem short_ok : ConOK P 57 c_short := con_of (allOK mixed kS2_ok) 10 57 fun args r hh => by
  unfold c_short at hh
  split at hh
  · rename_i n f k s h
    have hp := (T.is_ask hh).1
    obtain rfl := T.is_ret (T.is_ask hh).2
    refine T.all_of_eq (t_short n f k s h) ?_
    simp only [lk_eq, Int.ofNat_eq_natCast]
    refine ⟨fun g => ⟨⟨⟨rfl, by have := U.le_t.mp g; omega, hp⟩, trivial⟩, lb_eq ?_⟩, fun g => lb_eq ?_⟩
    · have g := U.le_t.mp g
      unfold shB
      rw [decide_eq_true (show n ≤ 10 by omega), U.not_eq]; rfl
    · have g := U.le_f.mp g
      unfold shB
      rw [decide_eq_false (show ¬ n ≤ 10 by omega)]; rfl
  · exact hh.elim
theorem kS3_ok : ∀ p ∈ kS3, ConOK P p.1 p.2 := by
  intro p hp
  rcases List.mem_cons.1 hp with rfl | hp
  · exact short_ok
  · exact kS2_ok p hp
theorem few_ok : ConOK P 9 c_few := con_of (allOK mixed kS3_ok) 10 9 fun args r hh => by
  unfold c_few at hh
  split at hh
  · rename_i n f k s h m e
    have hp := (T.is_ask hh).1
    obtain rfl := T.is_ret (T.is_ask hh).2
    refine T.all_of_eq (t_few n f k s h m e) ?_
    simp only [lk_eq, Int.ofNat_eq_natCast]
    refine ⟨hp, fun g => lb_eq ?_, fun g => lb_eq ?_⟩
    · unfold fwB
      rw [g, U.le_eq, Bool.true_and]
      exact decide_eq_decide.2 (by omega)
    · unfold fwB; rw [g]; rfl
  · exact hh.elim
theorem same_ok : ConOK P 19 c_same := con_of (allOK mixed kS3_ok) 10 19 fun args r hh => by
  unfold c_same at hh
  split at hh
  · rename_i n f k s h m e n1 f1 k1 s1 h1 m1 e1
    obtain ⟨p1, p2⟩ := (T.is_ask hh).1
    obtain rfl := T.is_ret (T.is_ask hh).2
    refine T.all_of_eq (t_same n f k s h m e n1 f1 k1 s1 h1 m1 e1) ?_
    simp only [lk_eq]
    refine ⟨p1, fun g => ⟨fun g2 => ⟨p2, lb_eq ?_⟩, fun g2 => lb_eq ?_⟩, fun g => lb_eq ?_⟩
    · have g2 := U.andb_t.mp g2
      have g3 := U.andb_t.mp g2.2
      unfold smB
      rw [g, decide_eq_true (show k = k1 ∧ s = s1 ∧ h = h1 from ⟨U.eq_t.mp g2.1, U.eq_t.mp g3.1, U.eq_t.mp g3.2⟩)]; rfl
    · unfold smB
      rw [decide_eq_false (fun hx => by
        have : U.andb (U.eq k k1) (U.andb (U.eq s s1) (U.eq h h1)) = true := U.andb_t.mpr ⟨U.eq_t.mpr hx.1, U.andb_t.mpr ⟨U.eq_t.mpr hx.2.1, U.eq_t.mpr hx.2.2⟩⟩
        rw [this] at g2; cases g2)]
      cases eqR3 n f n1 f1 <;> rfl
    · unfold smB; rw [g]; rfl
  · exact hh.elim
end Go.RX.Span

/- Sparse domains: the law of rows: what it calls. -/
set_option linter.unusedVariables false
set_option linter.unusedSimpArgs false
set_option maxRecDepth 100000
namespace Go.RX.Span
open Go Go.RX
attribute [local irreducible] sx conB

noncomputable abbrev kRw : List (Nat × Con) := [(9, c_few), (10, c_awake), (11, c_ByRows), (13, c_ByRows), (14, c_Equal), (15, c_Transpose), (16, c_Transpose), (17, c_FromRows), (18, c_FromRows), (19, c_same)] --%K
theorem kRw_ok : ∀ p ∈ kRw, ConOK P p.1 p.2 := by
  intro p hp
  simp only [kRw, List.mem_cons, List.not_mem_nil, or_false] at hp
  rcases hp with rfl | rfl | rfl | rfl | rfl | rfl | rfl | rfl | rfl | rfl
  · exact few_ok
  · exact awake_ok
  · exact ByRows_ok
  · exact QByRows_ok
  · exact Equal_ok
  · exact Transpose_ok
  · exact QTranspose_ok
  · exact FromRows_ok
  · exact QFromRows_ok
  · exact same_ok
noncomputable def c_IrregularRows : Con := fun args => match args with
  | [.agg [.row [.int .i64, .int .i64, .int .i64] n f, .lit (.int .i64 k), .lit (.int .i64 s), .lit (.int .i64 h), .row [.int .i64] m e], .agg [.row [.int .i64] sN a, .row [.int .i64] cN b]] => .ask (Row64 n f) (.ret (.lit (.bool true)))
  | _ => .stuck 1
end Go.RX.Span

/- Sparse domains: the law of rows: the walk. -/
set_option linter.unusedVariables false
set_option linter.unusedSimpArgs false
set_option maxRecDepth 100000
namespace Go.RX.Span
open Go Go.RX
attribute [local irreducible] sx conB

set_option maxRecDepth 100000 in
theorem t_IRows (n : Nat) (f : Nat → R3) (k s h : Int) (m : Nat) (e : Nat → R1) (sN : Nat) (a : Nat → R1) (cN : Nat) (b : Nat → R1) : conB Go.Proofs.Try.prog (conOf kRw) noLoops 10 3 [.agg [.row [.int .i64, .int .i64, .int .i64] n f, .lit (.int .i64 k), .lit (.int .i64 s), .lit (.int .i64 h), .row [.int .i64] m e], .agg [.row [.int .i64] sN a, .row [.int .i64] cN b]] =
    T.ask (Row64 n f) (.br (U.not (lk fwB n f m)) (.ret (.lit (.bool true))) (.br (U.gt (Int.ofNat sN) (1200 : Int)) (.ret (.lit (.bool true))) (.br (U.gt (Int.ofNat cN) (200 : Int))
      (.ret (.lit (.bool true))) (.ask (Row64 n f) (.ask (Row64 n f) (.ask (lk zn (lk brE n f k s h m e) (lk stN f m e) ≤ nat_lit 9223372036854775807) (.br (U.not (lk eqR (lk zn (lk brE n
      f k s h m e) (lk stN f m e)) (lk stG f m e) (lk zn (lk brE n f k s h m e) (lk stN f m e)) (lk stG f m e))) (.ret (.lit (.bool false))) (.ask (lk zn (lk brE n f k s h m e) (lk coN f
      m e) ≤ nat_lit 9223372036854775807) (.br (U.not (lk eqR (lk zn (lk brE n f k s h m e) (lk coN f m e)) (lk coG f m e) (lk zn (lk brE n f k s h m e) (lk coN f m e)) (lk coG f m e)))
      (.ret (.lit (.bool false))) (.br (U.ne (lk brE n f k s h m e) (lk brE n f k s h m e)) (.ret (.lit (.bool false))) (.ask (Row64 n f) (.ask (Row64 n f) (.ask (Row64 n f) (.ask (Row64
      n f) (.ask (lk zn (lk brE n f k s h m e) (nat_lit 2) ≤ nat_lit 9223372036854775807 ∧ lk zn (lk brE n f k s h m e) (lk tqN (lk szR (f (nat_lit 0))) (lk szR (f (nat_lit 1))) m e) ≤
      nat_lit 9223372036854775807) (.br (lk smB (lk zn (lk brE n f k s h m e) (nat_lit 2)) (lk swF f) (lk zi (lk brE n f k s h m e) k) (lk zi (lk brE n f k s h m e) s) (lk zi (lk brE n f
      k s h m e) h) (lk zn (lk brE n f k s h m e) (lk tqN (lk szR (f (nat_lit 0))) (lk szR (f (nat_lit 1))) m e)) (lk tqF (lk szR (f (nat_lit 0))) (lk szR (f (nat_lit 1))) m e) (lk zn (lk
      brE n f k s h m e) (nat_lit 2)) (lk swF f) (lk zi (lk brE n f k s h m e) k) (lk zi (lk brE n f k s h m e) s) (lk zi (lk brE n f k s h m e) h) (lk zn (lk brE n f k s h m e) (lk tqN
      (lk szR (f (nat_lit 0))) (lk szR (f (nat_lit 1))) m e)) (lk tqF (lk szR (f (nat_lit 0))) (lk szR (f (nat_lit 1))) m e)) (.br (U.eq (lk brE n f k s h m e) (lk brE n f k s h m e))
      (.ask (lk zn (lk frE n f k s h sN a cN b) n ≤ nat_lit 9223372036854775807 ∧ lk zn (lk frE n f k s h sN a cN b) cN ≤ nat_lit 9223372036854775807) (.br (lk smB (lk zn (lk frE n f k s
      h sN a cN b) n) f (lk zi (lk frE n f k s h sN a cN b) k) (lk zi (lk frE n f k s h sN a cN b) s) (lk zi (lk frE n f k s h sN a cN b) h) (lk zn (lk frE n f k s h sN a cN b) cN) (lk
      frF (lk szR (f (nat_lit 0))) (lk szR (f (nat_lit 1))) a b) (lk zn (lk frE n f k s h sN a cN b) n) f (lk zi (lk frE n f k s h sN a cN b) k) (lk zi (lk frE n f k s h sN a cN b) s) (lk
      zi (lk frE n f k s h sN a cN b) h) (lk zn (lk frE n f k s h sN a cN b) cN) (lk frF (lk szR (f (nat_lit 0))) (lk szR (f (nat_lit 1))) a b)) (.br (U.eq (lk frE n f k s h sN a cN b)
      (lk frE n f k s h sN a cN b)) (.ret (.lit (.bool true))) (.ret (.lit (.bool false)))) (.ret (.lit (.bool false))))) (.ret (.lit (.bool false)))) (.ret (.lit (.bool
      false))))))))))))))))))) := by kernel_rfl
end Go.RX.Span

/- Sparse domains: the law of rows. -/
set_option linter.unusedVariables false
set_option linter.unusedSimpArgs false
set_option maxRecDepth 100000
namespace Go.RX.Span
open Go Go.RX
attribute [local irreducible] sx conB

theorem eqR_self (n : Nat) (f : Nat → R1) : eqR n f n f = true := eqR_t.2 ⟨rfl, fun _ _ => rfl⟩
theorem eqR3_self (n : Nat) (f : Nat → R3) : eqR3 n f n f = true := eqR3_t.2 ⟨rfl, fun _ _ => ⟨rfl, rfl, rfl⟩⟩
theorem smB_self (n : Nat) (f : Nat → R3) (k s h : Int) (m : Nat) (e : Nat → R1) : smB n f k s h m e n f k s h m e = true := by
  unfold smB
  rw [eqR3_self, eqR_self, decide_eq_true (show k = k ∧ s = s ∧ h = h from ⟨rfl, rfl, rfl⟩)]; rfl
theorem zn_le {E : Int} {N : Nat} {B : Nat} (h : E = 0 → N ≤ B) : zn E N ≤ B := by
  unfold zn
  by_cases g : E = 0
  · rw [if_pos g]; exact h g
  · rw [if_neg g]; exact Nat.zero_le _
theorem fw_is {n : Nat} {f : Nat → R3} {m : Nat} (h : fwB n f m = true) : n ≤ 10 ∧ m ≤ 100 ∧ anyB n f = false := by
  unfold fwB shB at h
  simp only [Bool.and_eq_true, decide_eq_true_eq, Bool.not_eq_true'] at h
  exact ⟨h.1.1, h.2, h.1.2⟩
theorem brE_sz {n : Nat} {f : Nat → R3} {k s h : Int} {m : Nat} {e : Nat → R1} (g : brE n f k s h m e = 0) : spE n f k s h m e = 0 ∧ n = 2 := by
  unfold brE at g
  by_cases g1 : spE n f k s h m e = 0
  · rw [if_neg (fun x => x g1)] at g
    by_cases g2 : n = 2
    · exact ⟨g1, g2⟩
    · rw [if_pos g2] at g; exact absurd g (by decide)
  · rw [if_pos g1] at g; exact absurd g g1
theorem IrregularRows_ok : ConOK P 3 c_IrregularRows := con_of (allOK mixed kRw_ok) 10 3 fun args r hh => by
  unfold c_IrregularRows at hh
  split at hh
  · rename_i n f k s h m e sN a cN b
    have hp := (T.is_ask hh).1
    obtain rfl := T.is_ret (T.is_ask hh).2
    refine T.all_of_eq (t_IRows n f k s h m e sN a cN b) ?_
    simp only [lk_eq, Int.ofNat_eq_natCast]
    refine ⟨hp, fun g => rfl, fun g => ⟨fun g2 => rfl, fun g2 => ⟨fun g3 => rfl, fun g3 => ⟨hp, hp, ?_, fun g4 => ?_, fun g4 => ⟨?_, fun g5 => ?_, fun g5 => ⟨fun g6 => ?_, fun g6 => ⟨hp, hp, hp, hp, ⟨?_, ?_⟩, fun g7 => ⟨fun g8 => ⟨⟨?_, ?_⟩, fun g9 => ⟨fun g10 => rfl, fun g10 => ?_⟩, fun g9 => ?_⟩, fun g8 => ?_⟩, fun g7 => ?_⟩⟩⟩⟩⟩⟩⟩
    all_goals obtain ⟨hn, hm, _⟩ := fw_is (U.not_f.mp g)
    all_goals have hc := U.gt_f.mp g3
    · refine zn_le fun h0 => ?_
      obtain ⟨h1, h2⟩ := brE_sz h0
      have := pd_sz (spE_zero.1 h1).1 h2
      rw [st_len]; omega
    · rw [eqR_self, U.not_eq] at g4; cases g4
    · refine zn_le fun h0 => ?_
      rw [co_len]; omega
    · rw [eqR_self, U.not_eq] at g5; cases g5
    · exact absurd rfl (U.ne_t.mp g6)
    · exact zn_le fun _ => by decide
    · refine zn_le fun h0 => ?_
      have := ofL_le (tpL (szR (f 0)) (szR (f 1)) m e)
      rw [tp_len] at this
      show (ofL (tpL (szR (f 0)) (szR (f 1)) m e)).length ≤ _
      omega
    · exact zn_le fun _ => by omega
    · exact zn_le fun _ => by omega
    · exact absurd rfl (U.eq_f.mp g10)
    · rw [smB_self] at g9; cases g9
    · exact absurd rfl (U.eq_f.mp g8)
    · rw [smB_self] at g7; cases g7
  · exact hh.elim
end Go.RX.Span

