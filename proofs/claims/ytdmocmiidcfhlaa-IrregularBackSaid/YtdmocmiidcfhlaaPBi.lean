/- Sparse domains: FromRows: the loops. -/
import Derived.Test.YtdmocmiidcfhlaaPBh
import Derived.Test.YtdmocmiidcfhlaaPBc
set_option linter.unusedVariables false
set_option linter.unusedSimpArgs false
set_option maxRecDepth 100000
namespace Go.RX.Span
open Go Go.RX
attribute [local irreducible] sx conB

section
variable {R C : Int} {sN : Nat} {a : Nat → R1} {cN : Nat} {b : Nat → R1} {n0 : Nat}
theorem up_mono {n : Nat} {e : Nat → R1} (h : UpR n e) : ∀ {i j : Nat}, i ≤ j → j < n → nv e i ≤ nv e j := by
  intro i j hij
  induction j with
  | zero => intro _; obtain rfl : i = 0 := by omega
            exact Int.le_refl _
  | succ j ih =>
    intro hj
    by_cases g : i = j + 1
    · subst g; exact Int.le_refl _
    · have := ih (by omega) (by omega)
      have := h j hj
      omega
theorem st_bnd (h : PreFr n0 R C sN a cN b) {k : Nat} (hk : k ≤ R.toNat) : 0 ≤ nv a k ∧ nv a k ≤ cN ∧ ((stA a k : Nat) : Int) = nv a k := by
  obtain ⟨_, _, hs, _, h0, h1, hu⟩ := h
  have x := up_mono hu (Nat.zero_le k) (by omega)
  have y := up_mono hu hk (by omega)
  refine ⟨by omega, by omega, ?_⟩
  unfold stA; omega
theorem st_mono (h : PreFr n0 R C sN a cN b) {i j : Nat} (hij : i ≤ j) (hj : j ≤ R.toNat) : stA a i ≤ stA a j := by
  have x := (st_bnd h (k := i) (by omega)).2.2
  have y := (st_bnd h hj).2.2
  obtain ⟨_, _, hs, _, _, _, hu⟩ := h
  have z := up_mono hu hij (by omega)
  omega
theorem fr_row (h : PreFr n0 R C sN a cN b) {k i : Nat} (hk : k < R.toNat) (h1 : stA a k ≤ i) (h2 : i < stA a (k + 1)) : frF R C a b i = ((k : Int) * C + nv b i, ()) := by
  have x := (st_bnd h (k := k) (by omega)).2.2
  have y := (st_bnd h (k := k + 1) (by omega)).2.2
  have hs := h.2.2.1
  have hu : UpR sN a := h.2.2.2.2.2.2
  have e : bsI R.toNat (shF 1 a) ((i : Int) + 1) = k := by
    refine bsI_of (by omega) (fun j hj => ?_) fun j hj1 hj2 => ?_
    · have := up_mono hu (i := j + 1) (j := k) (by omega) (by omega)
      show nv a (j + 1) < _
      omega
    · have := up_mono hu (i := k + 1) (j := j + 1) (by omega) (by omega)
      show _ ≤ nv a (j + 1)
      omega
  exact congrArg (fun t : Nat => (((t : Int) * C + nv b i, ()) : R1)) e
end
theorem rwG_lt {N : Nat} {G : Nat → R1} {r C : Int} {B : Nat → R1} {t : Nat} (h : t < N) : rwG N G r C B t = G t := if_pos h
theorem rwG_ge {N : Nat} {G : Nat → R1} {r C : Int} {B : Nat → R1} {t i : Nat} (h : t = N + i) : rwG N G r C B t = (r * C + nv B i, ()) :=
  (if_neg (by omega)).trans (congrArg (fun t : Nat => ((r * C + nv B t, ()) : R1)) (by omega))
theorem andb_t (u : Bool) : U.andb u (U.isz 0) = u := by rw [U.andb_eq, U.isz_eq]; simp
theorem andb_s (u : Bool) (i : Nat) : U.andb u (U.isz (i + 1)) = false := by rw [U.andb_eq, isz_s]; simp
structure XFi where
  (n : Nat) (f : Nat → R3) (k s h : Int) (R C j r : Int) (sN : Nat) (a : Nat → R1) (cN : Nat) (b : Nat → R1) (L : Nat) (B : Nat → R1) (u : Bool) (N : Nat) (G : Nat → R1) (i : Nat)
noncomputable abbrev VFi (q : XFi) : Few := (slFi q.R q.j q.r (lastE q.B q.i) q.L q.B q.i, memF q.n q.f q.k q.s q.h q.R q.C q.sN q.a q.cN q.b (U.andb q.u (U.isz q.i)) (q.N + q.i) (rwG q.N q.G q.r q.C q.B))
noncomputable def O1Fi (q : XFi) : Ex × Few := (.exit 3, (slFo q.R q.j ++ [.any, .any, .any, .any, .any], memF q.n q.f q.k q.s q.h q.R q.C q.sN q.a q.cN q.b (U.andb q.u (U.isz q.L)) (q.N + q.L) (rwG q.N q.G q.r q.C q.B)))
noncomputable def O2Fi : Ex × Few := (.ret, ([.any, .ptr 1 0, .ki .i64 51, .any, .any, .any, .any, .any, .any, .any, .any, .any], [(0, none), (0, some (.cells zeV 38)), (0, none), (0, none), (0, none)]))
def PhiFi (n0 : Nat) (q : XFi) : Prop := PreFi n0 q.R q.C q.r q.N q.L ∧ q.i ≤ q.L ∧ SpAt q.C q.i q.B
def ZFi (q : XFi) (o : Ex × Few) : Prop := (SpAt q.C q.L q.B → o = O1Fi q) ∧ (¬ SpAt q.C q.L q.B → o = O2Fi)
theorem rc_rl {ρ : Ren} {sN cN : Nat} {a b : Nat → R1} : RlL ρ [.row [.int .i64] sN a, .row [.int .i64] cN b] [.row [.int .i64] sN a, .row [.int .i64] cN b] := ⟨⟨rfl, sameRow_refl _ _⟩, ⟨rfl, sameRow_refl _ _⟩, trivial⟩
theorem bad_i {vs : List SV} {m : Mem} (h : RlL [none, some 1, none, none, none] vs O2Fi.2.1) (h1 : ∃ g, m.fn 1 = some (.cells g 38) ∧ RlL [none, some 1, none, none, none] g zeV) : Wk 121 [3,4,5,7,9,73,74,10,11,90,91,92] 0 (vs, m) O2Fi.2 := by
  obtain ⟨g, h1, h2⟩ := h1
  refine wk_of [none, some 1, none, none, none] rfl (Nat.zero_le _) (ren1z _) h ⟨?_, trivial⟩
  show RlK _ m 1 (.cells zeV 38)
  unfold RlK
  show (match m.fn 1 with | some (.cells cs1 e1) => e1 = 38 ∧ RlL _ cs1 zeV | _ => False)
  rw [h1]
  exact ⟨rfl, h2⟩
theorem roundFi (n0 : Nat) (q : XFi) (hq : PhiFi n0 q) : ((sx EFr [] n0 (loopOf P 17 17) (mkS 121 [3,4,5,7,9,73,74,10,11,90,91,92] (VFi q).1, (VFi q).2)).bind (proj 121 [3,4,5,7,9,73,74,10,11,90,91,92])).All fun r => match r.1 with
      | .normal => ∃ q', PhiFi n0 q' ∧ q'.L - q'.i < q.L - q.i ∧ Wk 121 [3,4,5,7,9,73,74,10,11,90,91,92] n0 r.2 (VFi q') ∧ ∀ o, ZFi q' o → ZFi q o
      | e => ∃ s, ZFi q (e, s) ∧ Wk 121 [3,4,5,7,9,73,74,10,11,90,91,92] n0 r.2 s := by
  obtain ⟨n, f, k, s, h, R, C, j, r, sN, a, cN, b, L, B, u, N, G, i⟩ := q
  obtain ⟨hp, hi, hs⟩ := hq
  have hp : PreFi n0 R C r N L := hp
  have hi : i ≤ L := hi
  have hs : SpAt C i B := hs
  have hp' := hp
  obtain ⟨h0, r0, r1, R1', C0, C1, hN, hL⟩ := hp'
  subst h0
  refine T.all_of_eq (t_Fi n f k s h R C j r (lastE B i) sN a cN b L B (i : Int) (U.andb u (U.isz i)) (N + i) (rwG N G r C B)) ?_
  by_cases hlt : i < L
  · rw [add1p (j := i) (by omega), tnH]
    have bad : ∀ {vs : List SV} {m : Mem}, ¬ SpAt C (i + 1) B → RlL [none, some 1, none, none, none] vs O2Fi.2.1 → (∃ g, m.fn 1 = some (.cells g 38) ∧ RlL [none, some 1, none, none, none] g zeV) → ∃ s', ZFi ⟨n, f, k, s, h, R, C, j, r, sN, a, cN, b, L, B, u, N, G, i⟩ (.ret, s') ∧ Wk 121 [3,4,5,7,9,73,74,10,11,90,91,92] 0 (vs, m) s' := fun hb h1 h2 =>
      ⟨O2Fi.2, ⟨fun g => absurd (spAt_le g hlt) hb, fun _ => rfl⟩, bad_i h1 h2⟩
    obtain ⟨b0, b1⟩ := rc_bnd r0 (by omega) C0 C1
    refine ⟨fun _ => ⟨⟨by omega, by omega⟩, fun g => bad (fun h => ?_) ⟨rl_any _, ⟨rfl, rfl⟩, ⟨rfl, rfl⟩, rl_any _, rl_any _, rl_any _, rl_any _, rl_any _, rl_any _, rl_any _, rl_any _, rl_any _, trivial⟩ ⟨_, rfl, zeV_rl⟩, fun g => ⟨fun g2 => bad (fun h => ?_) ⟨rl_any _, ⟨rfl, rfl⟩, ⟨rfl, rfl⟩, rl_any _, rl_any _, rl_any _, rl_any _, rl_any _, rl_any _, rl_any _, rl_any _, rl_any _, trivial⟩ ⟨_, rfl, zeV_rl⟩, fun g2 => ?_⟩⟩, fun g => absurd (U.lt_f.mp g) (by simp only [Int.ofNat_eq_natCast]; omega)⟩
    · have g : nv B i ≤ lastE B i := U.le_t.mp g
      have := (spAt_last h).1; omega
    · have g2 : nv B i ≥ C := U.ge_t.mp g2
      have := (spAt_last h).2; omega
    · have g : lastE B i < nv B i := U.le_f.mp g
      have g2 : nv B i < C := U.ge_f.mp g2
      have hs' := spAt_step hs g g2
      have v0 : 0 ≤ nv B i := (spAt_s.1 hs').2.1
      have em : U.add .i64 (U.mul .i64 r C) (B i).1 = r * C + nv B i := by
        show U.add .i64 (U.mul .i64 r C) (nv B i) = _
        rw [U.mul64 (by unfold I64; omega), U.add64 (by unfold I64; omega)]
      rw [em]
      refine ⟨by show (N + i + 1) * 8 ≤ 140737488351232; omega, ⟨n, f, k, s, h, R, C, j, r, sN, a, cN, b, L, B, u, N, G, i + 1⟩, ⟨hp, hlt, hs'⟩, (show L - (i + 1) < L - i by omega), ?_, fun o ho => ho⟩
      refine wk_of [some 0, some 1, some 2, some 3, some 6] rfl (Nat.zero_le _) (ren1z _) ⟨⟨rfl, rfl⟩, ⟨rfl, rfl⟩, rl_any _, ⟨rfl, rfl⟩, ⟨rfl, rfl⟩, rfl, rfl, rfl, ?_, ⟨rfl, row1H fun _ _ => rfl⟩, rfl, rfl, trivial⟩
        ⟨⟨rfl, rc_rl⟩, ⟨rfl, zeV_rl⟩, ⟨rfl, rfl, rfl, trivial⟩, ⟨rfl, out_rl rfl (andb_s u i).symm rfl⟩, ⟨rfl, (andb_s u i).symm, rfl, row1H fun t ht => ?_⟩, trivial⟩
      · show Value.int .i64 (nv B i) = Value.int .i64 (lastE B (i + 1))
        unfold lastE; rw [if_neg (by omega), Nat.add_sub_cancel]
      · refine (U.cat_eq _ _ _ _).trans ?_
        have ht : t < N + i + 1 := ht
        by_cases h1 : t < N + i
        · exact if_pos h1
        · obtain rfl : t = N + i := by omega
          exact (if_neg h1).trans (rwG_ge rfl).symm
  · obtain rfl : i = L := by omega
    refine ⟨fun g => absurd (U.lt_t.mp g) (by simp only [Int.ofNat_eq_natCast]; omega), fun _ => ⟨(O1Fi ⟨n, f, k, s, h, R, C, j, r, sN, a, cN, b, i, B, u, N, G, i⟩).2, ⟨fun _ => rfl, fun h => absurd hs h⟩, ?_⟩⟩
    exact wk_of [some 0, some 1, some 2, some 3, some 4] rfl (Nat.zero_le _) (ren1z _) ⟨⟨rfl, rfl⟩, ⟨rfl, rfl⟩, rl_any _, ⟨rfl, rfl⟩, ⟨rfl, rfl⟩, rfl, rfl, rl_any _, rl_any _, rl_any _, rl_any _, rl_any _, trivial⟩
        ⟨⟨rfl, rc_rl⟩, ⟨rfl, zeV_rl⟩, ⟨rfl, rfl, rfl, trivial⟩, ⟨rfl, out_rl rfl rfl rfl⟩, ⟨rfl, rfl, rfl, row1H fun _ _ => rfl⟩, trivial⟩
theorem loopFi : LoopOK P (loopOf P 17 17) (few 121 [3,4,5,7,9,73,74,10,11,90,91,92] gFi) :=
  loop_few (E := EFr) mixed EFr_ok loopsOK_none 121 [3,4,5,7,9,73,74,10,11,90,91,92] (X := XFi) gFi (fun _ x => VFi x) PhiFi (fun q => q.L - q.i) (fun _ x o => ZFi x o)
    (fun n0 st rr hh => by
      unfold gFi at hh
      split at hh
      · rename_i n0 p0 q0 p1 q1 s2 p2 q2 p3 q3 R' j r l L B L' z e0 sN a cN b t0 e1 zs t1 e2 R C t2 e3 n f k s h u bC N t3 e4 u' N' G t4
        obtain ⟨hp, rfl, rfl, rfl, rfl, rfl, rfl, rfl, rfl, rfl, rfl, rfl, rfl, rfl, rfl, rfl, rfl, rfl, rfl, rfl, rfl, rfl⟩ := (T.is_ask hh).1
        have hb := (T.is_ask hh).2
        rw [lk_eq] at hp
        have h0 := hp.1
        subst h0
        refine ⟨⟨n, f, k, s, h, R', C, j, r, sN, a, cN, b, L, B, u', N', G, 0⟩, ⟨hp, Nat.zero_le _, fun i hi => absurd hi (Nat.not_lt_zero i)⟩, ?_, fun o ho => ?_⟩
        · refine wk_of [some 0, some 1, some 2, some 3, some 4] rfl (Nat.zero_le _) (ren1z _) ⟨⟨rfl, rfl⟩, ⟨rfl, rfl⟩, rl_any _, ⟨rfl, rfl⟩, ⟨rfl, rfl⟩, rfl, rfl, rfl, rfl, ⟨rfl, row1H fun _ _ => rfl⟩, rfl, rfl, trivial⟩
            ⟨⟨rfl, rc_rl⟩, ⟨rfl, zeV_rl⟩, ⟨rfl, rfl, rfl, trivial⟩, ⟨rfl, out_rl rfl (andb_t u').symm rfl⟩, ⟨rfl, (andb_t u').symm, rfl, row1H fun t ht => ?_⟩, trivial⟩
          exact (rwG_lt ht).symm
        · rcases hb with ⟨he, hb⟩ | ⟨he, hb⟩
          · rw [lk_eq] at he
            obtain rfl := T.is_ret hb
            rw [ho.1 (okAt_t.1 he)]
            simp only [lk_eq]; rfl
          · rw [lk_eq] at he
            obtain rfl := T.is_ret hb
            exact ho.2 (okAt_f.1 he)
      · exact hh.elim)
    roundFi
theorem LFi_ok : LoopsOK P LFi (bodyOf P 17) := loopsOK_of (by kernel_rfl) fun k g hk => by
  simp only [List.mem_singleton, Prod.mk.injEq, LoopC.sum.injEq] at hk
  obtain ⟨rfl, rfl⟩ := hk
  exact loopFi
theorem LFi_sub : LoopsOK P LFi (loopOf P 17 13) := LFi_ok.sub (fun l hl => by
  rw [show loopsIn (bodyOf P 17) = loopOf P 17 13 :: loopsIn (loopOf P 17 13) by kernel_rfl]
  exact List.mem_cons_of_mem _ hl) fun l hl => by
  rw [show rangesIn (loopOf P 17 13) = [] by kernel_rfl] at hl; cases hl
end Go.RX.Span

/- Sparse domains: FromRows. -/
set_option linter.unusedVariables false
set_option linter.unusedSimpArgs false
set_option maxRecDepth 100000
namespace Go.RX.Span
open Go Go.RX
attribute [local irreducible] sx conB

structure XFo where
  (n : Nat) (f : Nat → R3) (k s h : Int) (R C : Int) (sN : Nat) (a : Nat → R1) (cN : Nat) (b : Nat → R1) (j : Nat)
noncomputable abbrev VFo (q : XFo) : Few := (slFo q.R q.j, memF q.n q.f q.k q.s q.h q.R q.C q.sN q.a q.cN q.b (U.isz (stA q.a q.j)) (stA q.a q.j) (frF q.R q.C q.a q.b))
noncomputable def O1Fo (q : XFo) : Ex × Few := (.exit 1, (slFo q.R q.R, memF q.n q.f q.k q.s q.h q.R q.C q.sN q.a q.cN q.b (U.isz q.cN) q.cN (frF q.R q.C q.a q.b) ++ [(0, none), (0, none)]))
noncomputable def O2Fo : Ex × Few := (.ret, badF)
def PhiFo (n0 : Nat) (q : XFo) : Prop := PreFr n0 q.R q.C q.sN q.a q.cN q.b ∧ q.j ≤ q.R.toNat ∧ ∀ k, k < q.j → SpAt q.C (stA q.a (k + 1) - stA q.a k) (shF (stA q.a k) q.b)
def ZFo (q : XFo) (o : Ex × Few) : Prop := (FrOk q.R q.C q.a q.b → o = O1Fo q) ∧ (¬ FrOk q.R q.C q.a q.b → o = O2Fo)
theorem slFo_rl {ρ : Ren} {R j : Int} (h0 : ρ.of 0 = some 0) (h1 : ρ.of 1 = some 1) (h2 : ρ.of 2 = some 2) (h3 : ρ.of 3 = some 3) : RlL ρ (slFo R j) (slFo R j) := ⟨⟨h0, rfl⟩, ⟨h1, rfl⟩, rl_any _, ⟨h2, rfl⟩, ⟨h3, rfl⟩, rfl, rfl, trivial⟩
theorem roundFo (n0 : Nat) (q : XFo) (hq : PhiFo n0 q) : ((sx EFr LFi n0 (loopOf P 17 13) (mkS 121 [3,4,5,7,9,73,74] (VFo q).1, (VFo q).2)).bind (proj 121 [3,4,5,7,9,73,74])).All fun r => match r.1 with
      | .normal => ∃ q', PhiFo n0 q' ∧ q'.R.toNat - q'.j < q.R.toNat - q.j ∧ Wk 121 [3,4,5,7,9,73,74] n0 r.2 (VFo q') ∧ ∀ o, ZFo q' o → ZFo q o
      | e => ∃ s, ZFo q (e, s) ∧ Wk 121 [3,4,5,7,9,73,74] n0 r.2 s := by
  obtain ⟨n, f, k, s, h, R, C, sN, a, cN, b, j⟩ := q
  obtain ⟨hp, hj, hall⟩ := hq
  have hp : PreFr n0 R C sN a cN b := hp
  have hj : j ≤ R.toNat := hj
  have hall : ∀ k, k < j → SpAt C (stA a (k + 1) - stA a k) (shF (stA a k) b) := hall
  have hp' := hp
  obtain ⟨h0, ⟨R0, R1', C0, C1⟩, hs, hcN, a0, aR, hu⟩ := hp'
  subst h0
  refine T.all_of_eq (t_Fo n f k s h R C (j : Int) sN a cN b (U.isz (stA a j)) (stA a j) (frF R C a b)) ?_
  by_cases hlt : (j : Int) < R
  · have e2 : U.add .i64 (j : Int) 1 = ((j + 1 : Nat) : Int) := by rw [U.add64 (by unfold I64; omega)]; omega
    have hj1 : j + 1 ≤ R.toNat := by omega
    obtain ⟨x0, x1, x2⟩ := st_bnd hp (k := j) hj
    obtain ⟨y0, y1, y2⟩ := st_bnd hp (k := j + 1) hj1
    have mo := st_mono hp (Nat.le_add_right j 1) hj1
    have ta : U.toNat (a j).1 = stA a j := U.toNat_eq _
    have tb : U.toNat (a (j + 1)).1 = stA a (j + 1) := U.toNat_eq _
    have hz : (nv a j : Int) = (a j).1 := rfl
    rw [e2, tnH, tnH]
    simp only [lk_eq]
    rw [ta, tb, U.nsub_eq]
    have eB : (fun i => b (i + stA a j)) = shF (stA a j) b := rfl
    rw [eB]
    refine ⟨fun _ => ⟨⟨by omega, by omega⟩, ⟨by omega, by omega⟩, ⟨x0, (show nv a j ≤ nv a (j + 1) by omega), y1⟩, ⟨⟨rfl, by omega, hlt, R1', C0, C1, by omega, by omega⟩, trivial, trivial, trivial, trivial, trivial, trivial, trivial, trivial, trivial, trivial, trivial, trivial, trivial, trivial, trivial, trivial, trivial, trivial, trivial, trivial, trivial⟩, fun g => ?_, fun g => ?_⟩, fun g => absurd (U.lt_f.mp g) (by omega)⟩
    · have ok := okAt_t.1 g
      refine ⟨⟨n, f, k, s, h, R, C, sN, a, cN, b, j + 1⟩, ⟨hp, hj1, fun t ht => ?_⟩, (show R.toNat - (j + 1) < R.toNat - j by omega), ?_, fun o ho => ho⟩
      · have ht : t < j + 1 := ht
        by_cases et : t = j
        · subst et; exact ok
        · exact hall t (by omega)
      · have eN : stA a j + (stA a (j + 1) - stA a j) = stA a (j + 1) := by omega
        rw [isz_add, eN]
        refine wk_of [some 0, some 1, some 2, some 3, some 4] rfl (Nat.zero_le _) (ren1z _) (slFo_rl rfl rfl rfl rfl) ⟨⟨rfl, rc_rl⟩, ⟨rfl, zeV_rl⟩, ⟨rfl, rfl, rfl, trivial⟩, ⟨rfl, out_rl rfl rfl rfl⟩, ⟨rfl, rfl, rfl, row1H fun t ht => ?_⟩, trivial⟩
        have ht : t < stA a (j + 1) := ht
        by_cases h1 : t < stA a j
        · exact rwG_lt h1
        · obtain ⟨d, rfl⟩ : ∃ d, t = stA a j + d := ⟨t - stA a j, by omega⟩
          refine (rwG_ge rfl).trans (Eq.trans ?_ (fr_row hp (by omega) (by omega) ht).symm)
          exact congrArg (fun t : Nat => (((j : Int) * C + nv b t, ()) : R1)) (Nat.add_comm d (stA a j))
    · have nok := okAt_f.1 g
      refine ⟨badF, ⟨fun hk => absurd (hk j (show j < R.toNat by omega)) nok, fun _ => rfl⟩, ?_⟩
      exact wk_of [none, some 1, none, none, none, none, none] rfl (Nat.zero_le _) (ren1z _) ⟨rl_any _, ⟨rfl, rfl⟩, ⟨rfl, rfl⟩, rl_any _, rl_any _, rl_any _, rl_any _, trivial⟩ ⟨⟨rfl, zeV_rl⟩, trivial⟩
  · have hR : R = ((j : Nat) : Int) := by omega
    have hR2 : R.toNat = j := by omega
    have ok : FrOk R C a b := fun k hk => hall k (by omega)
    have ec : stA a j = cN := by
      have e1 := (st_bnd hp (k := j) hj).2.2
      have e2 : nv a j = cN := by rw [← hR2]; exact aR
      omega
    refine ⟨fun g => absurd (U.lt_t.mp g) hlt, fun _ => ⟨(O1Fo ⟨n, f, k, s, h, R, C, sN, a, cN, b, j⟩).2, ⟨fun _ => rfl, fun hk => absurd ok hk⟩, ?_⟩⟩
    rw [ec]
    exact wk_of [some 0, some 1, some 2, some 3, some 4, none, none] rfl (Nat.zero_le _) (ren1z _) ⟨⟨rfl, rfl⟩, ⟨rfl, rfl⟩, rl_any _, ⟨rfl, rfl⟩, ⟨rfl, rfl⟩, rfl, (by show Value.int .i64 (j : Int) = Value.int .i64 R; rw [hR]), trivial⟩ ⟨⟨rfl, rc_rl⟩, ⟨rfl, zeV_rl⟩, ⟨rfl, rfl, rfl, trivial⟩, ⟨rfl, out_rl rfl rfl rfl⟩, ⟨rfl, rfl, rfl, row1H fun _ _ => rfl⟩, trivial⟩
theorem loopFo : LoopOK P (loopOf P 17 13) (few 121 [3,4,5,7,9,73,74] gFo) :=
  loop_few (E := EFr) mixed EFr_ok LFi_sub 121 [3,4,5,7,9,73,74] (X := XFo) gFo (fun _ x => VFo x) PhiFo (fun q => q.R.toNat - q.j) (fun _ x o => ZFo x o)
    (fun n0 st rr hh => by
      unfold gFo at hh
      split at hh
      · rename_i n0 p1 q1 p2 q2 s3 p5 q5 p6 q6 R' z e0 e1 sN a cN b t1 e2 zs t2 e3 e4 e5 R C t5 e6 n f k s h nilS t6
        obtain ⟨hp, rfl, rfl, rfl, rfl, rfl, rfl, rfl, rfl, rfl, rfl, rfl, rfl, rfl, rfl, rfl, rfl⟩ := (T.is_ask hh).1
        have hb := (T.is_ask hh).2
        rw [lk_eq] at hp
        have h0 := hp.1
        subst h0
        have st0 : stA a 0 = 0 := by unfold stA; rw [hp.2.2.2.2.1]; rfl
        have zi : U.isz 0 = true := by rw [U.isz_eq]; rfl
        refine ⟨⟨n, f, k, s, h, R', C, sN, a, cN, b, 0⟩, ⟨hp, Nat.zero_le _, fun i hi => absurd hi (Nat.not_lt_zero i)⟩, ?_, fun o ho => ?_⟩
        · show Wk _ _ _ _ (slFo R' ((0 : Nat) : Int), memF n f k s h R' C sN a cN b (U.isz (stA a 0)) (stA a 0) (frF R' C a b))
          rw [st0]
          exact wk_of [some 1, some 2, some 5, some 6, none] rfl (Nat.zero_le _) (ren1z _) ⟨⟨rfl, rfl⟩, ⟨rfl, rfl⟩, rl_any _, ⟨rfl, rfl⟩, ⟨rfl, rfl⟩, rfl, rfl, trivial⟩ ⟨⟨rfl, rc_rl⟩, ⟨rfl, zeV_rl⟩, ⟨rfl, rfl, rfl, trivial⟩, ⟨rfl, ⟨rfl, sameRow_refl _ _⟩, rfl, rfl, rfl, ⟨rfl, zi, rfl⟩, trivial⟩, ⟨zi, rfl⟩, trivial⟩
        · rcases hb with ⟨he, hb⟩ | ⟨he, hb⟩
          · rw [lk_eq] at he
            obtain rfl := T.is_ret hb
            rw [ho.1 (frB_t.1 he)]
            simp only [lk_eq]; rfl
          · rw [lk_eq] at he
            obtain rfl := T.is_ret hb
            exact ho.2 (frB_f.1 he)
      · exact hh.elim)
    roundFo
theorem lFo_ok : ∀ p ∈ lFo, LoopsOK P p.2 (bodyOf P p.1) := by
  intro p hp
  simp only [lFo, List.mem_singleton] at hp
  subst hp
  refine loopsOK_of (by kernel_rfl) fun k g hk => ?_
  simp only [List.mem_cons, List.not_mem_nil, or_false, Prod.mk.injEq, LoopC.sum.injEq] at hk
  rcases hk with ⟨rfl, rfl⟩ | ⟨rfl, rfl⟩
  · exact loopFi
  · exact loopFo
section
variable (n : Nat) (f : Nat → R3) (k s h : Int) (sN : Nat) (a : Nat → R1) (cN : Nat) (b : Nat → R1)
open Classical in
noncomputable def frE : Int := if pdE n f k s h ≠ 0 then pdE n f k s h else if n ≠ 2 then 50 else if (sN : Int) ≠ szR (f 0) + 1 ∨ 5000 < cN then 5
  else if nv a 0 ≠ 0 ∨ nv a (szR (f 0)).toNat ≠ cN ∨ ¬ UpR sN a ∨ ¬ FrOk (szR (f 0)) (szR (f 1)) a b then 51 else 0
end
noncomputable def c_FromRows : Con := fun args => match args with
  | [.agg [.row [.int .i64, .int .i64, .int .i64] n f, .lit (.int .i64 k), .lit (.int .i64 s), .lit (.int .i64 h)], .agg [.row [.int .i64] sN a, .row [.int .i64] cN b]] => .ask (Row64 n f)
    (.ret (.tup [.agg [.row [.int .i64, .int .i64, .int .i64] (lk zn (lk frE n f k s h sN a cN b) n) f, .lit (.int .i64 (lk zi (lk frE n f k s h sN a cN b) k)), .lit (.int .i64 (lk zi (lk frE n f k s h sN a cN b) s)), .lit (.int .i64 (lk zi (lk frE n f k s h sN a cN b) h)),
      .row [.int .i64] (lk zn (lk frE n f k s h sN a cN b) cN) (lk frF (lk szR (f 0)) (lk szR (f 1)) a b)], .lit (.int .i64 (lk frE n f k s h sN a cN b))]))
  | _ => .stuck 1
/-! The cases of the error. -/
section
variable {n : Nat} {f : Nat → R3} {k s h : Int} {sN : Nat} {a : Nat → R1} {cN : Nat} {b : Nat → R1}
theorem frE_1 (g : pdE n f k s h ≠ 0) : pdE n f k s h = frE n f k s h sN a cN b := by unfold frE; rw [if_pos g]
theorem frE_2 (g : pdE n f k s h = 0) (g2 : n ≠ 2) : (50 : Int) = frE n f k s h sN a cN b := by unfold frE; rw [if_neg (fun x => x g), if_pos g2]
theorem frE_3 (g : pdE n f k s h = 0) (g2 : n = 2) (g3 : (sN : Int) ≠ szR (f 0) + 1 ∨ 5000 < cN) : (5 : Int) = frE n f k s h sN a cN b := by unfold frE; rw [if_neg (fun x => x g), if_neg (fun x => x g2), if_pos g3]
theorem frE_4 (g : pdE n f k s h = 0) (g2 : n = 2) (g3 : (sN : Int) = szR (f 0) + 1) (g4 : cN ≤ 5000) (g5 : nv a 0 ≠ 0 ∨ nv a (szR (f 0)).toNat ≠ cN ∨ ¬ UpR sN a ∨ ¬ FrOk (szR (f 0)) (szR (f 1)) a b) : (51 : Int) = frE n f k s h sN a cN b := by
  unfold frE; rw [if_neg (fun x => x g), if_neg (fun x => x g2), if_neg (fun x => x.elim (fun y => y g3) (fun y => by omega)), if_pos g5]
theorem frE_5 (g : pdE n f k s h = 0) (g2 : n = 2) (g3 : (sN : Int) = szR (f 0) + 1) (g4 : cN ≤ 5000) (h1 : nv a 0 = 0) (h2 : nv a (szR (f 0)).toNat = cN) (h3 : UpR sN a) (h4 : FrOk (szR (f 0)) (szR (f 1)) a b) : frE n f k s h sN a cN b = 0 := by
  unfold frE; rw [if_neg (fun x => x g), if_neg (fun x => x g2), if_neg (fun x => x.elim (fun y => y g3) (fun y => by omega)), if_neg (fun x => x.elim (fun y => y h1) fun x => x.elim (fun y => y h2) fun x => x.elim (fun y => y h3) fun y => y h4)]
theorem pd_sz (g : pdE n f k s h = 0) (g2 : n = 2) : 0 ≤ szR (f 0) ∧ szR (f 0) ≤ 2000001 ∧ 0 ≤ szR (f 1) ∧ szR (f 1) ≤ 2000001 := by
  obtain ⟨⟨_, d2⟩, _⟩ := chD_zero.1 (pdE_zero.1 g).1
  obtain ⟨_, a1, a2⟩ := rr_size (d2 0 (by omega))
  obtain ⟨_, b1, b2⟩ := rr_size (d2 1 (by omega))
  exact ⟨a1, a2, b1, b2⟩
end
theorem FromRows_ok : ConOK P 17 c_FromRows := con_cl (allOKL mixed kFr_ok lFo_ok) 10 17 fun args r hh => by
  unfold c_FromRows at hh
  split at hh
  · rename_i n f k s h sN a cN b
    have hp := (T.is_ask hh).1
    obtain rfl := T.is_ret (T.is_ask hh).2
    refine T.all_of_eq (t_Fr n f k s h sN a cN b) ?_
    have tn1' : U.toNat (1 : Int) = 1 := tn 1
    simp only [lk_eq, tn0, tn1', Int.ofNat_eq_natCast]
    refine ⟨hp, fun g => ?_, fun g => ⟨fun g2 => ?_, fun g2 => ?_⟩⟩
    · have g := U.ne_t.mp g
      exact cl_err (frE_1 g) g
    · have g := U.ne_f.mp g
      have g2 := U.ne_t.mp g2
      exact cl_err (frE_2 g (by omega)) (by decide)
    · have g := U.ne_f.mp g
      have g2 : (n : Int) = 2 := U.ne_f.mp g2
      have h2 : n = 2 := by omega
      obtain ⟨R0, R1', C0, C1⟩ := pd_sz g h2
      have ea : U.add .i64 (size (f 0).1 (f 0).2.1 (f 0).2.2.1) 1 = szR (f 0) + 1 := U.add64 (by show I64 (szR (f 0) + 1); unfold I64; omega)
      have et : U.toNat (size (f 0).1 (f 0).2.1 (f 0).2.2.1) = (szR (f 0)).toNat := by rw [U.toNat_eq]; rfl
      rw [ea, et]
      refine ⟨⟨by omega, by omega⟩, hp 0 (by omega), ⟨by omega, by omega⟩, hp 1 (by omega), fun g3 => ?_, fun g3 => ⟨fun g4 => ?_, fun g4 => ⟨?_, fun g5 => ?_, fun g5 => ⟨?_, fun g6 => ?_, fun g6 => ⟨?_, fun g7 => ?_, fun g7 => ⟨⟨by omega, by omega⟩, ?_, fun g8 => ?_, fun g8 => ?_⟩⟩⟩⟩⟩⟩
      · exact cl_err (frE_3 g h2 (.inl (U.ne_t.mp g3))) (by decide)
      · exact cl_err (frE_3 g h2 (.inr (by have := U.gt_t.mp g4; omega))) (by decide)
      all_goals have g3 : (sN : Int) = szR (f 0) + 1 := U.ne_f.mp g3
      all_goals have g4 : cN ≤ 5000 := by have := U.gt_f.mp g4; omega
      · exact ⟨by omega, by omega⟩
      · exact cl_err (frE_4 g h2 g3 g4 (.inl (U.ne_t.mp g5))) (by decide)
      · show 0 ≤ szR (f 0) ∧ szR (f 0) < (sN : Int)
        omega
      · exact cl_err (frE_4 g h2 g3 g4 (.inr (.inl (U.ne_t.mp g6)))) (by decide)
      · show sN ≤ 10000000
        omega
      · exact cl_err (frE_4 g h2 g3 g4 (.inr (.inr (.inl (srB_f.1 (U.not_t.mp g7)))))) (by decide)
      · exact ⟨⟨rfl, ⟨R0, R1', C0, C1⟩, (by show sN = (szR (f 0)).toNat + 1; omega), g4, U.ne_f.mp g5, U.ne_f.mp g6, srB_t.1 (U.not_f.mp g7)⟩, trivial, trivial, trivial, trivial, trivial, trivial, trivial, trivial, trivial, trivial, trivial, trivial, trivial, trivial, trivial, trivial⟩
      · have e0 := frE_5 g h2 g3 g4 (U.ne_f.mp g5) (U.ne_f.mp g6) (srB_t.1 (U.not_f.mp g7)) (frB_t.1 g8)
        rw [e0]
        exact ⟨⟨⟨rfl, sameRow_refl _ _⟩, .inl rfl, .inl rfl, .inl rfl, ⟨rfl, row1H fun _ _ => rfl⟩, rfl⟩, .inl rfl, rfl⟩
      · exact cl_err (frE_4 g h2 g3 g4 (.inr (.inr (.inr (frB_f.1 g8))))) (by decide)
  · exact hh.elim
end Go.RX.Span

/- Sparse domains: the reference's FromRows: the states. -/
set_option linter.unusedVariables false
set_option linter.unusedSimpArgs false
set_option maxRecDepth 100000
namespace Go.RX.Span
open Go Go.RX
attribute [local irreducible] sx conB

end Go.RX.Span

/- Sparse domains: the reference's FromRows: the walks. -/
set_option linter.unusedVariables false
set_option linter.unusedSimpArgs false
set_option maxRecDepth 100000
namespace Go.RX.Span
open Go Go.RX
attribute [local irreducible] sx conB

--%R \(a \(U\.toNat (j|i|\(U\.add IntKind\.i64 j \(1 : Int\)\))\)\)\.1 ≤ => nv a (U.toNat \1) ≤
--%R < ↑(\w+)\b => < ((\1 : Nat) : Int)
--%R ≤ ↑(\w+)\b => ≤ ((\1 : Nat) : Int)
--%R ↑(\w+) (=|≤) => ((\1 : Nat) : Int) \2
end Go.RX.Span

/- Sparse domains: the reference's FromRows: the loops. -/
set_option linter.unusedVariables false
set_option linter.unusedSimpArgs false
set_option maxRecDepth 100000
namespace Go.RX.Span
open Go Go.RX
attribute [local irreducible] sx conB

end Go.RX.Span

/- Sparse domains: the reference's FromRows. -/
set_option linter.unusedVariables false
set_option linter.unusedSimpArgs false
set_option maxRecDepth 100000
namespace Go.RX.Span
open Go Go.RX
attribute [local irreducible] sx conB

end Go.RX.Span

/- Sparse domains: the reference's FromRows: the contract. -/
set_option linter.unusedVariables false
set_option linter.unusedSimpArgs false
set_option maxRecDepth 100000
namespace Go.RX.Span
open Go Go.RX
attribute [local irreducible] sx conB

end Go.RX.Span

/- Sparse domains: short, few: what they call. -/
set_option linter.unusedVariables false
set_option linter.unusedSimpArgs false
set_option maxRecDepth 100000
namespace Go.RX.Span
open Go Go.RX
attribute [local irreducible] sx conB

noncomputable abbrev kSh : List (Nat × Con) := [(107, c_Check), (108, c_Size), (66, c_Equal3), (14, c_Equal)] --%K
theorem kSh_ok : ∀ p ∈ kSh, ConOK P p.1 p.2 := by
  intro p hp
  simp only [kSh, List.mem_cons, List.not_mem_nil, or_false] at hp
  rcases hp with rfl | rfl | rfl | rfl
  · exact rCheck_ok
  · exact rSize_ok
  · exact Equal3_ok
  · exact Equal_ok
noncomputable abbrev ESh : Env := ⟨P, conOf kSh, scall P (conOf kSh) noLoops 10⟩
theorem ESh_ok : EnvOK ESh := envOK (allOK mixed kSh_ok) 10
end Go.RX.Span

/- Sparse domains: short, few, same: the states. -/
set_option linter.unusedVariables false
set_option linter.unusedSimpArgs false
set_option maxRecDepth 100000
namespace Go.RX.Span
open Go Go.RX
attribute [local irreducible] sx conB

def longB (r : R3) : Bool := decide (chk r.1 r.2.1 r.2.2.1 = 0 ∧ 1000 < size r.1 r.2.1 r.2.2.1)
def anyB (n : Nat) (f : Nat → R3) : Bool := (List.range n).any fun i => longB (f i)
def shB (n : Nat) (f : Nat → R3) : Bool := decide (n ≤ 10) && !(anyB n f)
def fwB (n : Nat) (f : Nat → R3) (m : Nat) : Bool := shB n f && decide (m ≤ 100)
def PreIx (n0 : Nat) (n : Nat) (f : Nat → R3) : Prop := n0 = 0 ∧ n ≤ 10 ∧ Row64 n f
noncomputable abbrev slIx (n : Nat) (f : Nat → R3) (i : Int) : List SV := [.row [.int .i64, .int .i64, .int .i64] n f, .fn (.func 106) [] [], .any, .lit (.int .i64 (n : Int)), .lit (.int .i64 i)]
open Classical in
noncomputable def fstI (n : Nat) (f : Nat → R3) : Nat := if h : ∃ i, i < n ∧ longB (f i) = true ∧ ∀ j, j < i → longB (f j) = false then h.choose else 0
theorem fstI_eq {n : Nat} {f : Nat → R3} {i : Nat} (h1 : i < n) (h2 : longB (f i) = true) (h3 : ∀ j, j < i → longB (f j) = false) : fstI n f = i := by
  have h : ∃ i, i < n ∧ longB (f i) = true ∧ ∀ j, j < i → longB (f j) = false := ⟨i, h1, h2, h3⟩
  unfold fstI
  rw [dif_pos h]
  obtain ⟨g1, g2, g3⟩ := h.choose_spec
  rcases Nat.lt_trichotomy h.choose i with g | g | g
  · rw [h3 _ g] at g2; cases g2
  · exact g
  · rw [g3 _ g] at h2; cases h2
noncomputable def gIx : Nat → Few → T (Ex × Few)
  | n0, ([.row [.int .i64, .int .i64, .int .i64] n f, .fn (.func g) [] [], _, .lit (.int .i64 N), .ki .i64 z], []) =>
    .ask (lk PreIx n0 n f ∧ g = 106 ∧ N = (n : Int) ∧ z = 0) (.br (lk anyB n f) (.ret (.ret, ([.any, .any, .lit (.int .i64 ((lk fstI n f : Nat) : Int)), .any, .any], []))) (.ret (.exit 0, ([.any, .any, .any, .any, .any], []))))
  | _, _ => .stuck 1
noncomputable abbrev lIx : List (Nat × Loops) := [(136, [(2, .sum (few 19 [0,1,4,7,8] gIx))])] --%K
noncomputable def c_CF : Con := fun args => match args with
  | [.row [.int .i64, .int .i64, .int .i64] n f, .fn (.func g) [] []] => .ask (lk PreIx 0 n f ∧ g = 106) (.ret (.lit (.bool (lk anyB n f))))
  | _ => .stuck 1
noncomputable def c_short : Con := fun args => match args with
  | [.agg [.row [.int .i64, .int .i64, .int .i64] n f, .lit (.int .i64 k), .lit (.int .i64 s), .lit (.int .i64 h)]] => .ask (Row64 n f) (.ret (.lit (.bool (lk shB n f))))
  | _ => .stuck 1
noncomputable def c_few : Con := fun args => match args with
  | [.agg [.row [.int .i64, .int .i64, .int .i64] n f, .lit (.int .i64 k), .lit (.int .i64 s), .lit (.int .i64 h), .row [.int .i64] m e]] => .ask (Row64 n f) (.ret (.lit (.bool (lk fwB n f m))))
  | _ => .stuck 1
noncomputable def smB (n : Nat) (f : Nat → R3) (k s h : Int) (m : Nat) (e : Nat → R1) (n1 : Nat) (f1 : Nat → R3) (k1 s1 h1 : Int) (m1 : Nat) (e1 : Nat → R1) : Bool := eqR3 n f n1 f1 && (decide (k = k1 ∧ s = s1 ∧ h = h1) && eqR m e m1 e1)
noncomputable def c_same : Con := fun args => match args with
  | [.agg [.row [.int .i64, .int .i64, .int .i64] n f, .lit (.int .i64 k), .lit (.int .i64 s), .lit (.int .i64 h), .row [.int .i64] m e], .agg [.row [.int .i64, .int .i64, .int .i64] n1 f1, .lit (.int .i64 k1), .lit (.int .i64 s1), .lit (.int .i64 h1), .row [.int .i64] m1 e1]] =>
    .ask (n ≤ top ∧ m ≤ top) (.ret (.lit (.bool (lk smB n f k s h m e n1 f1 k1 s1 h1 m1 e1))))
  | _ => .stuck 1
noncomputable abbrev kS2 : List (Nat × Con) := (105, c_CF) :: kSh --%K
noncomputable abbrev kS3 : List (Nat × Con) := (57, c_short) :: kS2 --%K
end Go.RX.Span

/- Sparse domains: short, few, same: the walks. -/
set_option linter.unusedVariables false
set_option linter.unusedSimpArgs false
set_option maxRecDepth 100000
namespace Go.RX.Span
open Go Go.RX
attribute [local irreducible] sx conB

--%R < ↑(\w+)\b => < ((\1 : Nat) : Int)
--%R ↑(\w+) (=|≤) => ((\1 : Nat) : Int) \2
set_option maxRecDepth 100000 in
theorem t_Ix (n : Nat) (f : Nat → R3) (i : Int) : (sx ESh [] 0 (loopOf P 136 2) (mkS 19 [0,1,4,7,8] (slIx n f i), [])).bind (proj 19 [0,1,4,7,8]) =
    T.br (U.lt i (Int.ofNat n)) (.ask ((0 : Int) ≤ i ∧ i < ((n : Nat) : Int)) (.ask (I64 (f (U.toNat i)).1 ∧ I64 (f (U.toNat i)).2.1 ∧ I64 (f (U.toNat i)).2.2.1) (.br (U.eq (lk chk (f
      (U.toNat i)).1 (f (U.toNat i)).2.1 (f (U.toNat i)).2.2.1) (0 : Int)) (.ask (I64 (f (U.toNat i)).1 ∧ I64 (f (U.toNat i)).2.1 ∧ I64 (f (U.toNat i)).2.2.1) (.br (U.gt (lk size (f
      (U.toNat i)).1 (f (U.toNat i)).2.1 (f (U.toNat i)).2.2.1) (1000 : Int)) (.ret (Ex.ret, [.row [.int .i64, .int .i64, .int .i64] n f, SV.fn (Fn.func (nat_lit 106)) [] [], .lit (.int
      .i64 i), .lit (.int .i64 (Int.ofNat n)), .lit (.int .i64 i)], [(nat_lit 0, some (Blk.cells [.lit (.int .i64 (f (U.toNat i)).1), .lit (.int .i64 (f (U.toNat i)).2.1), .lit (.int .i64
      (f (U.toNat i)).2.2.1)] (nat_lit 94)))])) (.ret (Ex.normal, [.row [.int .i64, .int .i64, .int .i64] n f, SV.fn (Fn.func (nat_lit 106)) [] [], SV.any, .lit (.int .i64 (Int.ofNat n)),
      .lit (.int .i64 (U.add .i64 i (1 : Int)))], [(nat_lit 0, some (Blk.cells [.lit (.int .i64 (f (U.toNat i)).1), .lit (.int .i64 (f (U.toNat i)).2.1), .lit (.int .i64 (f (U.toNat
      i)).2.2.1)] (nat_lit 94)))])))) (.ret (Ex.normal, [.row [.int .i64, .int .i64, .int .i64] n f, SV.fn (Fn.func (nat_lit 106)) [] [], SV.any, .lit (.int .i64 (Int.ofNat n)), .lit
      (.int .i64 (U.add .i64 i (1 : Int)))], [(nat_lit 0, some (Blk.cells [.lit (.int .i64 (f (U.toNat i)).1), .lit (.int .i64 (f (U.toNat i)).2.1), .lit (.int .i64 (f (U.toNat
      i)).2.2.1)] (nat_lit 94)))]))))) (.ret (Ex.exit (nat_lit 0), [.row [.int .i64, .int .i64, .int .i64] n f, SV.fn (Fn.func (nat_lit 106)) [] [], SV.any, .lit (.int .i64 (Int.ofNat
      n)), .lit (.int .i64 i)], [])) := by kernel_rfl
set_option maxRecDepth 100000 in
theorem t_CF (n : Nat) (f : Nat → R3) : conB Go.Proofs.Try.prog (conOf kSh) (loopsOf lIx) 10 105 [.row [.int .i64, .int .i64, .int .i64] n f, .fn (.func 106) [] []] =
    T.ask (lk PreIx (nat_lit 0) n f ∧ (106 : FuncId) = (106 : FuncId) ∧ ((n : Nat) : Int) = ↑n ∧ (0 : Int) = (0 : Int)) (.br (lk anyB n f) (.ret (.lit (.bool (U.ge (Int.ofNat (lk fstI n
      f)) (0 : Int))))) (.ret (.lit (.bool false)))) := by kernel_rfl
set_option maxRecDepth 100000 in
theorem t_short (n : Nat) (f : Nat → R3) (k s h : Int) : conB Go.Proofs.Try.prog (conOf kS2) noLoops 10 57 [.agg [.row [.int .i64, .int .i64, .int .i64] n f, .lit (.int .i64 k), .lit (.int .i64 s), .lit (.int .i64 h)]] =
    T.br (U.le (Int.ofNat n) (10 : Int)) (.ask (lk PreIx (0 : Nat) n f ∧ (106 : Nat) = (106 : FuncId)) (.ret (.lit (.bool (U.not (lk anyB n f)))))) (.ret (.lit (.bool false))) := by kernel_rfl
set_option maxRecDepth 100000 in
theorem t_few (n : Nat) (f : Nat → R3) (k s h : Int) (m : Nat) (e : Nat → R1) : conB Go.Proofs.Try.prog (conOf kS3) noLoops 10 9 [.agg [.row [.int .i64, .int .i64, .int .i64] n f, .lit (.int .i64 k), .lit (.int .i64 s), .lit (.int .i64 h), .row [.int .i64] m e]] =
    T.ask (Row64 n f) (.br (lk shB n f) (.ret (.lit (.bool (U.le (Int.ofNat m) (100 : Int))))) (.ret (.lit (.bool false)))) := by kernel_rfl
set_option maxRecDepth 100000 in
theorem t_same (n : Nat) (f : Nat → R3) (k s h : Int) (m : Nat) (e : Nat → R1) (n1 : Nat) (f1 : Nat → R3) (k1 s1 h1 : Int) (m1 : Nat) (e1 : Nat → R1) : conB Go.Proofs.Try.prog (conOf kS3) noLoops 10 19 [.agg [.row [.int .i64, .int .i64, .int .i64] n f, .lit (.int .i64 k), .lit (.int .i64 s), .lit (.int .i64 h), .row [.int .i64] m e], .agg [.row [.int .i64, .int .i64, .int .i64] n1 f1, .lit (.int .i64 k1), .lit (.int .i64 s1), .lit (.int .i64 h1), .row [.int .i64] m1 e1]] =
    T.ask (n ≤ nat_lit 9223372036854775807) (.br (lk eqR3 n f n1 f1) (.br (U.andb (U.eq k k1) (U.andb (U.eq s s1) (U.eq h h1))) (.ask (m ≤ nat_lit 9223372036854775807) (.ret (.lit
      (.bool (lk eqR m e m1 e1))))) (.ret (.lit (.bool false)))) (.ret (.lit (.bool false)))) := by kernel_rfl
end Go.RX.Span

/- Sparse domains: short, few, same. -/
set_option linter.unusedVariables false
set_option linter.unusedSimpArgs false
set_option maxRecDepth 100000
namespace Go.RX.Span
open Go Go.RX
attribute [local irreducible] sx conB

theorem anyB_t {n : Nat} {f : Nat → R3} : anyB n f = true ↔ ∃ i, i < n ∧ longB (f i) = true := by
  unfold anyB
  rw [List.any_eq_true]
  exact ⟨fun ⟨i, h1, h2⟩ => ⟨i, List.mem_range.1 h1, h2⟩, fun ⟨i, h1, h2⟩ => ⟨i, List.mem_range.2 h1, h2⟩⟩
structure XIx where
  (n : Nat) (f : Nat → R3) (i : Nat)
noncomputable abbrev VIx (q : XIx) : Few := (slIx q.n q.f q.i, [])
noncomputable def O1Ix (q : XIx) : Ex × Few := (.ret, ([.any, .any, .lit (.int .i64 ((fstI q.n q.f : Nat) : Int)), .any, .any], []))
noncomputable def O2Ix : Ex × Few := (.exit 0, ([.any, .any, .any, .any, .any], []))
def PhiIx (n0 : Nat) (q : XIx) : Prop := PreIx n0 q.n q.f ∧ q.i ≤ q.n ∧ ∀ j, j < q.i → longB (q.f j) = false
def ZIx (q : XIx) (o : Ex × Few) : Prop := (anyB q.n q.f = true → o = O1Ix q) ∧ (anyB q.n q.f = false → o = O2Ix)
theorem wIx {vs vs' : List SV} {m : Mem} (h : RlL (idR 0) vs vs') : Wk 19 [0,1,4,7,8] 0 (vs, m) (vs', []) := wk_of (idR 0) rfl (Nat.zero_le _) (fun b hb => by omega) h trivial
theorem roundIx (n0 : Nat) (q : XIx) (hq : PhiIx n0 q) : ((sx ESh [] n0 (loopOf P 136 2) (mkS 19 [0,1,4,7,8] (VIx q).1, (VIx q).2)).bind (proj 19 [0,1,4,7,8])).All fun r => match r.1 with
      | .normal => ∃ q', PhiIx n0 q' ∧ q'.n - q'.i < q.n - q.i ∧ Wk 19 [0,1,4,7,8] n0 r.2 (VIx q') ∧ ∀ o, ZIx q' o → ZIx q o
      | e => ∃ s, ZIx q (e, s) ∧ Wk 19 [0,1,4,7,8] n0 r.2 s := by
  obtain ⟨n, f, i⟩ := q
  obtain ⟨hp, hi, hall⟩ := hq
  have hp : PreIx n0 n f := hp
  have hi : i ≤ n := hi
  have hall : ∀ j, j < i → longB (f j) = false := hall
  have hp' := hp
  obtain ⟨h0, hn, hr⟩ := hp'
  subst h0
  refine T.all_of_eq (t_Ix n f (i : Int)) ?_
  have st : ∀ (v : SV), RlL (idR 0) [.row [.int .i64, .int .i64, .int .i64] n f, .fn (.func 106) [] [], v, .lit (.int .i64 (n : Int)), .lit (.int .i64 ((i + 1 : Nat) : Int))] (slIx n f ((i + 1 : Nat) : Int)) := fun v => ⟨⟨rfl, sameRow_refl _ _⟩, ⟨rfl, trivial, trivial⟩, rl_any _, rfl, rfl, trivial⟩
  by_cases hlt : i < n
  · rw [add1p (j := i) (by omega), tnH]
    simp only [lk_eq]
    have next : longB (f i) = false → ∀ (v : SV) (m : Mem), ∃ q', PhiIx 0 q' ∧ q'.n - q'.i < n - i ∧ Wk 19 [0,1,4,7,8] 0 ([.row [.int .i64, .int .i64, .int .i64] n f, .fn (.func 106) [] [], v, .lit (.int .i64 (n : Int)), .lit (.int .i64 ((i + 1 : Nat) : Int))], m) (VIx q') ∧ ∀ o, ZIx q' o → ZIx ⟨n, f, i⟩ o := fun hb v m =>
      ⟨⟨n, f, i + 1⟩, ⟨hp, hlt, fun j hj => by
        have hj : j < i + 1 := hj
        by_cases ej : j = i
        · subst ej; exact hb
        · exact hall j (by omega)⟩, (show n - (i + 1) < n - i by omega), wIx (st v), fun o ho => ho⟩
    refine ⟨fun _ => ⟨⟨by omega, by omega⟩, hr i hlt, fun g => ⟨hr i hlt, fun g2 => ?_, fun g2 => ?_⟩, fun g => ?_⟩, fun g => absurd (U.lt_f.mp g) (by simp only [Int.ofNat_eq_natCast]; omega)⟩
    · have hl : longB (f i) = true := decide_eq_true ⟨U.eq_t.mp g, by have := U.gt_t.mp g2; exact this⟩
      have ha : anyB n f = true := anyB_t.2 ⟨i, hlt, hl⟩
      have hf := fstI_eq hlt hl hall
      refine ⟨(O1Ix ⟨n, f, i⟩).2, ⟨fun _ => rfl, fun h => by have h : anyB n f = false := h; rw [ha] at h; cases h⟩, wIx ⟨rl_any _, rl_any _, ?_, rl_any _, rl_any _, trivial⟩⟩
      show Value.int .i64 (i : Int) = Value.int .i64 ((fstI n f : Nat) : Int)
      rw [hf]
    · have hl : longB (f i) = false := decide_eq_false fun h => by have := U.gt_f.mp g2; omega
      exact next hl _ _
    · have hl : longB (f i) = false := decide_eq_false fun h => U.eq_f.mp g h.1
      exact next hl _ _
  · obtain rfl : i = n := by omega
    have ha : anyB i f = false := by
      cases hb : anyB i f
      · rfl
      · obtain ⟨j, h1, h2⟩ := anyB_t.1 hb
        rw [hall j h1] at h2; cases h2
    refine ⟨fun g => absurd (U.lt_t.mp g) (by simp only [Int.ofNat_eq_natCast]; omega), fun _ => ⟨O2Ix.2, ⟨(fun h => by have h : anyB i f = true := h; rw [ha] at h; cases h), fun _ => rfl⟩, wIx ⟨rl_any _, rl_any _, rl_any _, rl_any _, rl_any _, trivial⟩⟩⟩
theorem loopIx : LoopOK P (loopOf P 136 2) (few 19 [0,1,4,7,8] gIx) :=
  loop_few (E := ESh) mixed ESh_ok loopsOK_none 19 [0,1,4,7,8] (X := XIx) gIx (fun _ x => VIx x) PhiIx (fun q => q.n - q.i) (fun _ x o => ZIx x o)
    (fun n0 st r hh => by
      unfold gIx at hh
      split at hh
      · rename_i n0 n f g s2 N z
        obtain ⟨hp, rfl, rfl, rfl⟩ := (T.is_ask hh).1
        have hb := (T.is_ask hh).2
        rw [lk_eq] at hp
        have h0 := hp.1
        subst h0
        refine ⟨⟨n, f, 0⟩, ⟨hp, Nat.zero_le _, fun j hj => absurd hj (Nat.not_lt_zero j)⟩, wIx ⟨⟨rfl, sameRow_refl _ _⟩, ⟨rfl, trivial, trivial⟩, rl_any _, rfl, rfl, trivial⟩, fun o ho => ?_⟩
        rcases hb with ⟨he, hb⟩ | ⟨he, hb⟩
        · rw [lk_eq] at he
          obtain rfl := T.is_ret hb
          rw [ho.1 he]; simp only [lk_eq]; rfl
        · rw [lk_eq] at he
          obtain rfl := T.is_ret hb
          exact ho.2 he
      · exact hh.elim)
    roundIx
theorem lIx_ok : ∀ p ∈ lIx, LoopsOK P p.2 (bodyOf P p.1) := by
  intro p hp
  simp only [lIx, List.mem_singleton] at hp
  subst hp
  refine loopsOK_of (by kernel_rfl) fun k g hk => ?_
  simp only [List.mem_singleton, Prod.mk.injEq, LoopC.sum.injEq] at hk
  obtain ⟨rfl, rfl⟩ := hk
  exact loopIx
theorem lb_eq {x y : Bool} (h : x = y) : SV.lit (.bool x) = SV.lit (.bool y) := by rw [h]
theorem CF_ok : ConOK P 105 c_CF := con_of (allOKL mixed kSh_ok lIx_ok) 10 105 fun args r hh => by
  unfold c_CF at hh
  split at hh
  · rename_i n f g
    obtain ⟨hp, rfl⟩ := (T.is_ask hh).1
    obtain rfl := T.is_ret (T.is_ask hh).2
    rw [lk_eq] at hp
    refine T.all_of_eq (t_CF n f) ?_
    simp only [lk_eq]
    exact ⟨⟨hp, trivial, trivial, trivial⟩, fun g => lb_eq ((U.ge_t.mpr (Int.natCast_nonneg _)).trans g.symm), fun g => lb_eq g.symm⟩
  · exact hh.elim
theorem kS2_ok : ∀ p ∈ kS2, ConOK P p.1 p.2 := by
  intro p hp
  rcases List.mem_cons.1 hp with rfl | hp
  · exact CF_ok
  · exact kSh_ok p hp
theorem short_ok : ConOK P 57 c_short := con_of (allOK mixed kS2_ok) 10 57 fun args r hh => by
  unfold c_short at hh
  split at hh
  · rename_i n f k s h
    have hp := (T.is_ask hh).1
    obtain rfl := T.is_ret (T.is_ask hh).2
    refine T.all_of_eq (t_short n f k s h) ?_
    simp only [lk_eq, Int.ofNat_eq_natCast]
    refine ⟨fun g => ⟨⟨⟨rfl, by have := U.le_t.mp g; omega, hp⟩, trivial⟩, lb_eq ?_⟩, fun g => lb_eq ?_⟩
    · have g := U.le_t.mp g
      unfold shB
      rw [decide_eq_true (show n ≤ 10 by omega), U.not_eq]; rfl
    · have g := U.le_f.mp g
      unfold shB
      rw [decide_eq_false (show ¬ n ≤ 10 by omega)]; rfl
  · exact hh.elim
theorem kS3_ok : ∀ p ∈ kS3, ConOK P p.1 p.2 := by
  intro p hp
  rcases List.mem_cons.1 hp with rfl | hp
  · exact short_ok
  · exact kS2_ok p hp
theorem few_ok : ConOK P 9 c_few := con_of (allOK mixed kS3_ok) 10 9 fun args r hh => by
  unfold c_few at hh
  split at hh
  · rename_i n f k s h m e
    have hp := (T.is_ask hh).1
    obtain rfl := T.is_ret (T.is_ask hh).2
    refine T.all_of_eq (t_few n f k s h m e) ?_
    simp only [lk_eq, Int.ofNat_eq_natCast]
    refine ⟨hp, fun g => lb_eq ?_, fun g => lb_eq ?_⟩
    · unfold fwB
      rw [g, U.le_eq, Bool.true_and]
      exact decide_eq_decide.2 (by omega)
    · unfold fwB; rw [g]; rfl
  · exact hh.elim
theorem same_ok : ConOK P 19 c_same := con_of (allOK mixed kS3_ok) 10 19 fun args r hh => by
  unfold c_same at hh
  split at hh
  · rename_i n f k s h m e n1 f1 k1 s1 h1 m1 e1
    obtain ⟨p1, p2⟩ := (T.is_ask hh).1
    obtain rfl := T.is_ret (T.is_ask hh).2
    refine T.all_of_eq (t_same n f k s h m e n1 f1 k1 s1 h1 m1 e1) ?_
    simp only [lk_eq]
    refine ⟨p1, fun g => ⟨fun g2 => ⟨p2, lb_eq ?_⟩, fun g2 => lb_eq ?_⟩, fun g => lb_eq ?_⟩
    · have g2 := U.andb_t.mp g2
      have g3 := U.andb_t.mp g2.2
      unfold smB
      rw [g, decide_eq_true (show k = k1 ∧ s = s1 ∧ h = h1 from ⟨U.eq_t.mp g2.1, U.eq_t.mp g3.1, U.eq_t.mp g3.2⟩)]; rfl
    · unfold smB
      rw [decide_eq_false (fun hx => by
        have : U.andb (U.eq k k1) (U.andb (U.eq s s1) (U.eq h h1)) = true := U.andb_t.mpr ⟨U.eq_t.mpr hx.1, U.andb_t.mpr ⟨U.eq_t.mpr hx.2.1, U.eq_t.mpr hx.2.2⟩⟩
        rw [this] at g2; cases g2)]
      cases eqR3 n f n1 f1 <;> rfl
    · unfold smB; rw [g]; rfl
  · exact hh.elim
end Go.RX.Span

/- Sparse domains: the law of rows: what it calls. -/
set_option linter.unusedVariables false
set_option linter.unusedSimpArgs false
set_option maxRecDepth 100000
namespace Go.RX.Span
open Go Go.RX
attribute [local irreducible] sx conB

end Go.RX.Span

/- Sparse domains: the law of rows: the walk. -/
set_option linter.unusedVariables false
set_option linter.unusedSimpArgs false
set_option maxRecDepth 100000
namespace Go.RX.Span
open Go Go.RX
attribute [local irreducible] sx conB

end Go.RX.Span

/- Sparse domains: the law of rows. -/
set_option linter.unusedVariables false
set_option linter.unusedSimpArgs false
set_option maxRecDepth 100000
namespace Go.RX.Span
open Go Go.RX
attribute [local irreducible] sx conB

theorem fw_is {n : Nat} {f : Nat → R3} {m : Nat} (h : fwB n f m = true) : n ≤ 10 ∧ m ≤ 100 ∧ anyB n f = false := by
  unfold fwB shB at h
  simp only [Bool.and_eq_true, decide_eq_true_eq, Bool.not_eq_true'] at h
  exact ⟨h.1.1, h.2, h.1.2⟩
end Go.RX.Span

/- Sparse domains: Indices, Position: the states. -/
set_option linter.unusedVariables false
set_option linter.unusedSimpArgs false
set_option maxRecDepth 100000
namespace Go.RX.Span
open Go Go.RX
attribute [local irreducible] sx conB

section
variable (n : Nat) (f : Nat → R3) (k s h : Int) (m : Nat) (e : Nat → R1)
end
noncomputable abbrev bxIn (n : Nat) (f : Nat → R3) (k s h : Int) (m : Nat) (e : Nat → R1) (t : TypeId) : Blk := .cells [.row [.int .i64, .int .i64, .int .i64] n f, .lit (.int .i64 k), .lit (.int .i64 s), .lit (.int .i64 h), .row [.int .i64] m e] t
/-! Position. -/
section
variable (n : Nat) (f : Nat → R3) (k s h : Int) (m : Nat) (e : Nat → R1) (M : Nat) (x : Nat → R1)
end
/-! Long indices. -/
open Classical in
/-! Lists of lists compared. -/
end Go.RX.Span

/- Sparse domains: Indices, Position: the walks. -/
set_option linter.unusedVariables false
set_option linter.unusedSimpArgs false
set_option maxRecDepth 100000
namespace Go.RX.Span
open Go Go.RX
attribute [local irreducible] sx conB

--%R < ↑(\w+)\b => < ((\1 : Nat) : Int)
--%R ↑(\w+) (=|≤) => ((\1 : Nat) : Int) \2
end Go.RX.Span

/- Sparse domains: Indices, Position. -/
set_option linter.unusedVariables false
set_option linter.unusedSimpArgs false
set_option maxRecDepth 100000
namespace Go.RX.Span
open Go Go.RX
attribute [local irreducible] sx conB

theorem sp_i64 {n : Nat} {f : Nat → R3} {k s h : Int} {m : Nat} {e : Nat → R1} (g : spE n f k s h m e = 0) : m ≤ 5000 ∧ ∀ i, i < m → I64 (nv e i) := by
  obtain ⟨_, h1, _, h2, h3⟩ := sp_bs g
  refine ⟨h1, fun i hi => ?_⟩
  have := h3 i hi
  unfold I64; omega
/-! Position. -/
section
variable {n : Nat} {f : Nat → R3} {k s h : Int} {m : Nat} {e : Nat → R1} {M : Nat} {x : Nat → R1}
end
/-! Long indices. -/
/-! Lists of lists compared. -/
end Go.RX.Span

/- Sparse domains: the reference's Of: the states. -/
set_option linter.unusedVariables false
set_option linter.unusedSimpArgs false
set_option maxRecDepth 100000
namespace Go.RX.Span
open Go Go.RX
attribute [local irreducible] sx conB

end Go.RX.Span

/- Sparse domains: the reference's Of: the walks. -/
set_option linter.unusedVariables false
set_option linter.unusedSimpArgs false
set_option maxRecDepth 100000
namespace Go.RX.Span
open Go Go.RX
attribute [local irreducible] sx conB

--%R < ↑(\w+)\b => < ((\1 : Nat) : Int)
--%R ↑(\w+) (=|≤) => ((\1 : Nat) : Int) \2
end Go.RX.Span

/- Sparse domains: the reference's Of. -/
set_option linter.unusedVariables false
set_option linter.unusedSimpArgs false
set_option maxRecDepth 100000
namespace Go.RX.Span
open Go Go.RX
attribute [local irreducible] sx conB

end Go.RX.Span

/- Sparse domains: the law of sparse domains: what it calls. -/
set_option linter.unusedVariables false
set_option linter.unusedSimpArgs false
set_option maxRecDepth 100000
namespace Go.RX.Span
open Go Go.RX
attribute [local irreducible] sx conB

end Go.RX.Span

/- Sparse domains: the law of sparse domains: the walk. -/
set_option linter.unusedVariables false
set_option linter.unusedSimpArgs false
set_option maxRecDepth 100000
namespace Go.RX.Span
open Go Go.RX
attribute [local irreducible] sx conB

end Go.RX.Span

/- Sparse domains: the law of sparse domains. -/
set_option linter.unusedVariables false
set_option linter.unusedSimpArgs false
set_option maxRecDepth 100000
namespace Go.RX.Span
open Go Go.RX
attribute [local irreducible] sx conB

end Go.RX.Span

/- Sparse domains: ascending lists merged: plain; the states. -/
set_option linter.unusedVariables false
set_option linter.unusedSimpArgs false
set_option maxRecDepth 100000
namespace Go.RX.Span
open Go Go.RX
attribute [local irreducible] sx conB

section
variable (g n : Nat) (a : Nat → R1) (m : Nat) (b : Nat → R1)
end
end Go.RX.Span

/- Sparse domains: ascending lists merged: the walks. -/
set_option linter.unusedVariables false
set_option linter.unusedSimpArgs false
set_option maxRecDepth 100000
namespace Go.RX.Span
open Go Go.RX
attribute [local irreducible] sx conB

--%R < ↑(\w+)\b => < ((\1 : Nat) : Int)
--%R ↑(\w+) (=|≤) => ((\1 : Nat) : Int) \2
--%R ≤ ↑(\w+)\b => ≤ ((\1 : Nat) : Int)
end Go.RX.Span

/- Sparse domains: ascending lists merged, plain. -/
set_option linter.unusedVariables false
set_option linter.unusedSimpArgs false
set_option maxRecDepth 100000
namespace Go.RX.Span
open Go Go.RX
attribute [local irreducible] sx conB

def opt (p : Bool) (x : Int) : List Int := if p then [x] else []
end Go.RX.Span

/- Sparse domains: ascending lists merged. -/
set_option linter.unusedVariables false
set_option linter.unusedSimpArgs false
set_option maxRecDepth 100000
namespace Go.RX.Span
open Go Go.RX
attribute [local irreducible] sx conB

end Go.RX.Span

/- Sparse domains: Union, Both, Minus, Within: plain; the states. -/
set_option linter.unusedVariables false
set_option linter.unusedSimpArgs false
set_option maxRecDepth 100000
namespace Go.RX.Span
open Go Go.RX
attribute [local irreducible] sx conB

section
variable (g n : Nat) (f : Nat → R3) (k s h : Int) (m : Nat) (e : Nat → R1) (n1 : Nat) (f1 : Nat → R3) (k1 s1 h1 : Int) (m1 : Nat) (e1 : Nat → R1)
end
/-! Within. -/
section
variable (n : Nat) (f : Nat → R3) (k s h : Int) (m : Nat) (e : Nat → R1) (N : Nat) (F : Nat → R3) (K S H : Int)
/-- Whether the i-th index is in a domain; its position there. -/
def wnH (i : Nat) : Bool := hasD N F K S H (dnN n f k s h (nv e i)) (dnF n f (nv e i))
def wnP (i : Nat) : Int := posD N F K S H (dnN n f k s h (nv e i)) (dnF n f (nv e i))
def wnL : List Int := (List.range m).filterMap fun i => if wnH n f k s h e N F K S H i then some (wnP n f k s h e N F K S H i) else none
def wnN : Nat := (wnL n f k s h m e N F K S H).length
def wnF : Nat → R1 := lF (wnL n f k s h m e N F K S H)
end
def PreWn (n0 : Nat) (n : Nat) (f : Nat → R3) (m : Nat) (e : Nat → R1) (N : Nat) (F : Nat → R3) : Prop := n0 = 0 ∧ Row64 n f ∧ Row64 N F ∧ m ≤ 5000 ∧ ∀ i, i < m → I64 (nv e i)
noncomputable abbrev slWn (m : Nat) (e : Nat → R1) (i : Int) : List SV := [.ptr 0 0, .ptr 2 0, .ptr 3 0, .ptr 4 0, .any, .any, .any, .any, .any, .row [.int .i64] m e, .lit (.int .i64 (m : Int)), .lit (.int .i64 i)]
noncomputable abbrev memWn (n : Nat) (f : Nat → R3) (k s h : Int) (m : Nat) (e : Nat → R1) (N : Nat) (F : Nat → R3) (K S H : Int) (u : Bool) (C : Nat) (G : Nat → R1) : Mem :=
  [(0, some (bxIn n f k s h m e 38)), (0, none), (0, some (.cells zeV 38)), (0, some (.cells [.row [.int .i64, .int .i64, .int .i64] N F, .lit (.int .i64 K), .lit (.int .i64 S), .lit (.int .i64 H)] 26)),
   (0, some (.cells [.row [.int .i64, .int .i64, .int .i64] N F, .lit (.int .i64 K), .lit (.int .i64 S), .lit (.int .i64 H), .own u 5 C] 38)), (0, some (.row u C [.int .i64] G 3))]
noncomputable def gWn : Nat → Few → T (Ex × Few)
  | n0, ([.ptr p0 q0, .ptr p2 q2, .ptr p3 q3, .ptr p4 q4, _, _, _, _, _, .row [.int .i64] m' e', .lit (.int .i64 M'), .ki .i64 z], [(_, some (.cells [.row [.int .i64, .int .i64, .int .i64] n f, .lit (.int .i64 k), .lit (.int .i64 s), .lit (.int .i64 h), .row [.int .i64] m e] t0)), _, (_, some (.cells zs t2)), (_, some (.cells [.row [.int .i64, .int .i64, .int .i64] N F, .lit (.int .i64 K), .lit (.int .i64 S), .lit (.int .i64 H)] t3)), (_, some (.cells [.row [.int .i64, .int .i64, .int .i64] N' F', .lit (.int .i64 K'), .lit (.int .i64 S'), .lit (.int .i64 H'), nilS] t4))]) =>
    .ask (lk PreWn n0 n f m e N F ∧ p0 = 0 ∧ q0 = 0 ∧ p2 = 2 ∧ q2 = 0 ∧ p3 = 3 ∧ q3 = 0 ∧ p4 = 4 ∧ q4 = 0 ∧ m' = m ∧ e' = e ∧ M' = (m : Int) ∧ z = 0 ∧ t0 = 38 ∧ zs = zeV ∧ t2 = 38 ∧ t3 = 26 ∧ N' = N ∧ F' = F ∧ K' = K ∧ S' = S ∧ H' = H ∧ nilS = .lit (.slice none 0 0) ∧ t4 = 38)
      (.ret (.exit 0, ([.any, .ptr 2 0, .any, .ptr 4 0, .any, .any, .any, .any, .any, .any, .any, .any], memWn n f k s h m e N F K S H (U.isz (lk wnN n f k s h m e N F K S H)) (lk wnN n f k s h m e N F K S H) (lk wnF n f k s h m e N F K S H))))
  | _, _ => .stuck 1
noncomputable abbrev lWn : List (Nat × Loops) := [(37, [(15, .sum (few 78 [2,4,8,11,13,14,15,16,17,50,51,52] gWn))])] --%K
noncomputable abbrev kWn : List (Nat × Con) := [(28, c_SpCheck), (78, c_DCheck), (87, c_DIntersect), (63, c_parented), (68, c_DNth), (31, c_DPosition)] --%K
theorem kWn_ok : ∀ p ∈ kWn, ConOK P p.1 p.2 := by
  intro p hp
  simp only [kWn, List.mem_cons, List.not_mem_nil, or_false] at hp
  rcases hp with rfl | rfl | rfl | rfl | rfl | rfl
  · exact SpCheck_ok
  · exact DCheck_ok
  · exact DIntersect_ok
  · exact parented_ok
  · exact DNth_ok
  · exact DPosition_ok
noncomputable abbrev EWn : Env := ⟨P, conOf kWn, scall P (conOf kWn) noLoops 10⟩
theorem EWn_ok : EnvOK EWn := envOK (allOK mixed kWn_ok) 10
section
variable (n : Nat) (f : Nat → R3) (k s h : Int) (m : Nat) (e : Nat → R1) (n1 : Nat) (f1 : Nat → R3) (k1 s1 h1 : Int)
noncomputable def wnE : Int := if spE n f k s h m e ≠ 0 then spE n f k s h m e else if chD n1 f1 k1 s1 h1 ≠ 0 then chD n1 f1 k1 s1 h1 else if boE n f k s h n1 f1 k1 s1 h1 ≠ 0 then boE n f k s h n1 f1 k1 s1 h1 else pdE n (diF f f1) k s h
end
noncomputable def c_SpWithin : Con := fun args => match args with
  | [.agg [.row [.int .i64, .int .i64, .int .i64] n f, .lit (.int .i64 k), .lit (.int .i64 s), .lit (.int .i64 h), .row [.int .i64] m e], .agg [.row [.int .i64, .int .i64, .int .i64] n1 f1, .lit (.int .i64 k1), .lit (.int .i64 s1), .lit (.int .i64 h1)]] =>
    .ask (Row64 n f ∧ Row64 n1 f1) (.ret (.tup [.agg [.row [.int .i64, .int .i64, .int .i64] (lk zn (lk wnE n f k s h m e n1 f1 k1 s1 h1) n) (lk diF f f1), .lit (.int .i64 (lk zi (lk wnE n f k s h m e n1 f1 k1 s1 h1) k)), .lit (.int .i64 (lk zi (lk wnE n f k s h m e n1 f1 k1 s1 h1) s)), .lit (.int .i64 (lk zi (lk wnE n f k s h m e n1 f1 k1 s1 h1) h)),
      .row [.int .i64] (lk zn (lk wnE n f k s h m e n1 f1 k1 s1 h1) (lk wnN n f k s h m e n (lk diF f f1) k s h)) (lk wnF n f k s h m e n (lk diF f f1) k s h)], .lit (.int .i64 (lk wnE n f k s h m e n1 f1 k1 s1 h1))]))
  | _ => .stuck 1
end Go.RX.Span

/- Sparse domains: Union, Both, Minus, Within: the walks. -/
set_option linter.unusedVariables false
set_option linter.unusedSimpArgs false
set_option maxRecDepth 100000
namespace Go.RX.Span
open Go Go.RX
attribute [local irreducible] sx conB

--%R < ↑(\w+)\b => < ((\1 : Nat) : Int)
--%R ↑(\w+) (=|≤) => ((\1 : Nat) : Int) \2
set_option maxRecDepth 100000 in
theorem t_Wn (n : Nat) (f : Nat → R3) (k s h : Int) (m : Nat) (e : Nat → R1) (N : Nat) (F : Nat → R3) (K S H : Int) (u : Bool) (C : Nat) (G : Nat → R1) (i : Int) : (sx EWn [] 0 (loopOf P 37 15) (mkS 78 [2,4,8,11,13,14,15,16,17,50,51,52] (slWn m e i), memWn n f k s h m e N F K S H u C G)).bind (proj 78 [2,4,8,11,13,14,15,16,17,50,51,52]) =
    T.br (U.lt i (Int.ofNat m)) (.ask ((0 : Int) ≤ i ∧ i < ((m : Nat) : Int)) (.ask (Row64 n f ∧ I64 (e (U.toNat i)).1) (.ask (Row64 N F) (.br (lk hasD N F K S H (lk dnN n f k s h (e
      (U.toNat i)).1) (lk dnF n f (e (U.toNat i)).1)) (.ask ((C + (1 : Nat)) * nat_lit 8 ≤ nat_lit 140737488351232) (.ret (Ex.normal, [SV.ptr (nat_lit 0) (nat_lit 0), SV.ptr (nat_lit 2)
      (nat_lit 0), SV.ptr (nat_lit 3) (nat_lit 0), SV.ptr (nat_lit 4) (nat_lit 0), .lit (.int .i64 (e (U.toNat i)).1), .row [.int .i64] (lk dnN n f k s h (e (U.toNat i)).1) (lk dnF n f (e
      (U.toNat i)).1), .lit (.int .i64 (lk dnE n f k s h (e (U.toNat i)).1)), .lit (.int .i64 (lk posD N F K S H (lk dnN n f k s h (e (U.toNat i)).1) (lk dnF n f (e (U.toNat i)).1))),
      .lit (.bool (lk hasD N F K S H (lk dnN n f k s h (e (U.toNat i)).1) (lk dnF n f (e (U.toNat i)).1))), .row [.int .i64] m e, .lit (.int .i64 (Int.ofNat m)), .lit (.int .i64 (U.add
      .i64 i (1 : Int)))], [(nat_lit 0, some (Blk.cells [.row [.int .i64, .int .i64, .int .i64] n f, .lit (.int .i64 k), .lit (.int .i64 s), .lit (.int .i64 h), .row [.int .i64] m e]
      (nat_lit 38))), (nat_lit 0, none), (nat_lit 0, some (Blk.cells [.lit (.slice none (nat_lit 0) (nat_lit 0)), .lit (.int .i64 0), .lit (.int .i64 0), .lit (.int .i64 0), .lit (.slice
      none (nat_lit 0) (nat_lit 0))] (nat_lit 38))), (nat_lit 0, some (Blk.cells [.row [.int .i64, .int .i64, .int .i64] N F, .lit (.int .i64 K), .lit (.int .i64 S), .lit (.int .i64 H)]
      (nat_lit 26))), (nat_lit 1, some (Blk.cells [.row [.int .i64, .int .i64, .int .i64] N F, .lit (.int .i64 K), .lit (.int .i64 S), .lit (.int .i64 H), SV.own false (nat_lit 7) (C.add
      (nat_lit 1))] (nat_lit 38))), (nat_lit 1, none), (nat_lit 0, some (Blk.cells [.lit (.int .i64 (lk posD N F K S H (lk dnN n f k s h (e (U.toNat i)).1) (lk dnF n f (e (U.toNat
      i)).1)))] (nat_lit 3))), (nat_lit 0, some (Blk.row false (C.add (nat_lit 1)) [.int .i64] (U.cat C G fun x => (lk posD N F K S H (lk dnN n f k s h (e (U.toNat i)).1) (lk dnF n f (e
      (U.toNat i)).1), PUnit.unit)) (nat_lit 3)))]))) (.ret (Ex.normal, [SV.ptr (nat_lit 0) (nat_lit 0), SV.ptr (nat_lit 2) (nat_lit 0), SV.ptr (nat_lit 3) (nat_lit 0), SV.ptr (nat_lit 4)
      (nat_lit 0), .lit (.int .i64 (e (U.toNat i)).1), .row [.int .i64] (lk dnN n f k s h (e (U.toNat i)).1) (lk dnF n f (e (U.toNat i)).1), .lit (.int .i64 (lk dnE n f k s h (e (U.toNat
      i)).1)), .lit (.int .i64 (lk posD N F K S H (lk dnN n f k s h (e (U.toNat i)).1) (lk dnF n f (e (U.toNat i)).1))), .lit (.bool (lk hasD N F K S H (lk dnN n f k s h (e (U.toNat
      i)).1) (lk dnF n f (e (U.toNat i)).1))), .row [.int .i64] m e, .lit (.int .i64 (Int.ofNat m)), .lit (.int .i64 (U.add .i64 i (1 : Int)))], [(nat_lit 0, some (Blk.cells [.row [.int
      .i64, .int .i64, .int .i64] n f, .lit (.int .i64 k), .lit (.int .i64 s), .lit (.int .i64 h), .row [.int .i64] m e] (nat_lit 38))), (nat_lit 0, none), (nat_lit 0, some (Blk.cells
      [.lit (.slice none (nat_lit 0) (nat_lit 0)), .lit (.int .i64 0), .lit (.int .i64 0), .lit (.int .i64 0), .lit (.slice none (nat_lit 0) (nat_lit 0))] (nat_lit 38))), (nat_lit 0, some
      (Blk.cells [.row [.int .i64, .int .i64, .int .i64] N F, .lit (.int .i64 K), .lit (.int .i64 S), .lit (.int .i64 H)] (nat_lit 26))), (nat_lit 0, some (Blk.cells [.row [.int .i64,
      .int .i64, .int .i64] N F, .lit (.int .i64 K), .lit (.int .i64 S), .lit (.int .i64 H), SV.own u (nat_lit 5) C] (nat_lit 38))), (nat_lit 0, some (Blk.row u C [.int .i64] G (nat_lit
      3)))])))))) (.ret (Ex.exit (nat_lit 0), [SV.ptr (nat_lit 0) (nat_lit 0), SV.ptr (nat_lit 2) (nat_lit 0), SV.ptr (nat_lit 3) (nat_lit 0), SV.ptr (nat_lit 4) (nat_lit 0), SV.any,
      SV.any, SV.any, SV.any, SV.any, .row [.int .i64] m e, .lit (.int .i64 (Int.ofNat m)), .lit (.int .i64 i)], [(nat_lit 0, some (Blk.cells [.row [.int .i64, .int .i64, .int .i64] n f,
      .lit (.int .i64 k), .lit (.int .i64 s), .lit (.int .i64 h), .row [.int .i64] m e] (nat_lit 38))), (nat_lit 0, none), (nat_lit 0, some (Blk.cells [.lit (.slice none (nat_lit 0)
      (nat_lit 0)), .lit (.int .i64 0), .lit (.int .i64 0), .lit (.int .i64 0), .lit (.slice none (nat_lit 0) (nat_lit 0))] (nat_lit 38))), (nat_lit 0, some (Blk.cells [.row [.int .i64,
      .int .i64, .int .i64] N F, .lit (.int .i64 K), .lit (.int .i64 S), .lit (.int .i64 H)] (nat_lit 26))), (nat_lit 0, some (Blk.cells [.row [.int .i64, .int .i64, .int .i64] N F, .lit
      (.int .i64 K), .lit (.int .i64 S), .lit (.int .i64 H), SV.own u (nat_lit 5) C] (nat_lit 38))), (nat_lit 0, some (Blk.row u C [.int .i64] G (nat_lit 3)))])) := by kernel_rfl
set_option maxRecDepth 100000 in
theorem t_SpW (n : Nat) (f : Nat → R3) (k s h : Int) (m : Nat) (e : Nat → R1) (n1 : Nat) (f1 : Nat → R3) (k1 s1 h1 : Int) : conB Go.Proofs.Try.prog (conOf kWn) (loopsOf lWn) 10 37 [.agg [.row [.int .i64, .int .i64, .int .i64] n f, .lit (.int .i64 k), .lit (.int .i64 s), .lit (.int .i64 h), .row [.int .i64] m e], .agg [.row [.int .i64, .int .i64, .int .i64] n1 f1, .lit (.int .i64 k1), .lit (.int .i64 s1), .lit (.int .i64 h1)]] =
    T.ask (Row64 n f) (.br (U.ne (lk spE n f k s h m e) (0 : Int)) (.ret (.tup [.agg [.lit (.slice none (nat_lit 0) (nat_lit 0)), .lit (.int .i64 0), .lit (.int .i64 0), .lit (.int .i64
      0), .lit (.slice none (nat_lit 0) (nat_lit 0))], .lit (.int .i64 (lk spE n f k s h m e))])) (.ask (Row64 n1 f1) (.br (U.ne (lk chD n1 f1 k1 s1 h1) (0 : Int)) (.ret (.tup [.agg [.lit
      (.slice none (nat_lit 0) (nat_lit 0)), .lit (.int .i64 0), .lit (.int .i64 0), .lit (.int .i64 0), .lit (.slice none (nat_lit 0) (nat_lit 0))], .lit (.int .i64 (lk chD n1 f1 k1 s1
      h1))])) (.ask (Row64 n f ∧ Row64 n1 f1) (.br (U.ne (lk boE n f k s h n1 f1 k1 s1 h1) (0 : Int)) (.ret (.tup [.agg [.lit (.slice none (nat_lit 0) (nat_lit 0)), .lit (.int .i64 0),
      .lit (.int .i64 0), .lit (.int .i64 0), .lit (.slice none (nat_lit 0) (nat_lit 0))], .lit (.int .i64 (lk boE n f k s h n1 f1 k1 s1 h1))])) (.ask (Row64 (lk diN n f k s h n1 f1 k1 s1
      h1) (lk diF f f1)) (.br (U.ne (lk pdE (lk diN n f k s h n1 f1 k1 s1 h1) (lk diF f f1) (lk diX n f k s h n1 f1 k1 s1 h1 k) (lk diX n f k s h n1 f1 k1 s1 h1 s) (lk diX n f k s h n1 f1
      k1 s1 h1 h)) (0 : Int)) (.ret (.tup [.agg [.lit (.slice none (nat_lit 0) (nat_lit 0)), .lit (.int .i64 0), .lit (.int .i64 0), .lit (.int .i64 0), .lit (.slice none (nat_lit 0)
      (nat_lit 0))], .lit (.int .i64 (lk pdE (lk diN n f k s h n1 f1 k1 s1 h1) (lk diF f f1) (lk diX n f k s h n1 f1 k1 s1 h1 k) (lk diX n f k s h n1 f1 k1 s1 h1 s) (lk diX n f k s h n1
      f1 k1 s1 h1 h)))])) (.ask (lk PreWn (nat_lit 0) n f m e (lk diN n f k s h n1 f1 k1 s1 h1) (lk diF f f1) ∧ (0 : Nat) = (0 : Nat) ∧ (0 : Nat) = (0 : Nat) ∧ (2 : Nat) = (2 : Nat) ∧ (0
      : Nat) = (0 : Nat) ∧ (3 : Nat) = (3 : Nat) ∧ (0 : Nat) = (0 : Nat) ∧ (4 : Nat) = (4 : Nat) ∧ (0 : Nat) = (0 : Nat) ∧ m = m ∧ e = e ∧ ((m : Nat) : Int) = ↑m ∧ (0 : Int) = (0 : Int) ∧
      (38 : Nat) = (38 : TypeId) ∧ [.lit (.slice none (0 : Nat) (0 : Nat)), .lit (.int .i64 0), .lit (.int .i64 0), .lit (.int .i64 0), .lit (.slice none (0 : Nat) (0 : Nat))] = zeV ∧ (38
      : Nat) = (38 : TypeId) ∧ (26 : Nat) = (26 : TypeId) ∧ lk diN n f k s h n1 f1 k1 s1 h1 = lk diN n f k s h n1 f1 k1 s1 h1 ∧ lk diF f f1 = lk diF f f1 ∧ lk diX n f k s h n1 f1 k1 s1 h1
      k = lk diX n f k s h n1 f1 k1 s1 h1 k ∧ lk diX n f k s h n1 f1 k1 s1 h1 s = lk diX n f k s h n1 f1 k1 s1 h1 s ∧ lk diX n f k s h n1 f1 k1 s1 h1 h = lk diX n f k s h n1 f1 k1 s1 h1 h
      ∧ SV.lit (Value.slice none (0 : Nat) (0 : Nat)) = SV.lit (Value.slice none (0 : Nat) (0 : Nat)) ∧ (38 : Nat) = (38 : TypeId)) (.ret (.tup [.agg [.row [.int .i64, .int .i64, .int
      .i64] (lk diN n f k s h n1 f1 k1 s1 h1) (lk diF f f1), .lit (.int .i64 (lk diX n f k s h n1 f1 k1 s1 h1 k)), .lit (.int .i64 (lk diX n f k s h n1 f1 k1 s1 h1 s)), .lit (.int .i64
      (lk diX n f k s h n1 f1 k1 s1 h1 h)), .row [.int .i64] (lk wnN n f k s h m e (lk diN n f k s h n1 f1 k1 s1 h1) (lk diF f f1) (lk diX n f k s h n1 f1 k1 s1 h1 k) (lk diX n f k s h n1
      f1 k1 s1 h1 s) (lk diX n f k s h n1 f1 k1 s1 h1 h)) (lk wnF n f k s h m e (lk diN n f k s h n1 f1 k1 s1 h1) (lk diF f f1) (lk diX n f k s h n1 f1 k1 s1 h1 k) (lk diX n f k s h n1 f1
      k1 s1 h1 s) (lk diX n f k s h n1 f1 k1 s1 h1 h))], .lit (.int .i64 0)])))))))))) := by kernel_rfl
end Go.RX.Span

/- Ranges: equal sets, equal ranges; a range with itself. -/
set_option linter.unusedVariables false
set_option linter.unusedSimpArgs false
set_option maxRecDepth 100000
namespace Go.RX.Span
open Go Go.RX
attribute [local irreducible] sx conB

theorem mul0 {s k : Int} (hs : 1 ≤ s) : (s * k = 0) ↔ k = 0 := by
  constructor
  · intro h
    rcases Int.mul_eq_zero.1 h with h | h
    · omega
    · exact h
  · intro h; rw [h, Int.mul_zero]
theorem empty_is {a b c : Int} (hr : Right a b c) (hab : ¬ a ≤ b) : a = 1 ∧ b = 0 ∧ c = 1 := by rcases hr.2 with h | h | h <;> omega
theorem sIn_first {F s C : Int} (hs : 1 ≤ s) (hC : 1 ≤ C) : SIn F s C F := by
  have := mulle (x := 0) (y := C - 1) hs (by omega)
  rw [Int.mul_zero] at this
  exact ⟨by omega, by omega, by omega, 0, by omega⟩
theorem sIn_last {F s C : Int} (hs : 1 ≤ s) (hC : 1 ≤ C) : SIn F s C (F + s * (C - 1)) := by
  have := mulle (x := 0) (y := C - 1) hs (by omega)
  rw [Int.mul_zero] at this
  exact ⟨by omega, by omega, by omega, C - 1, rfl⟩
theorem sIn_second {F s C : Int} (hs : 1 ≤ s) (hC : 2 ≤ C) : SIn F s C (F + s) := by
  have := mulle (x := 1) (y := C - 1) hs (by omega)
  rw [Int.mul_one] at this
  exact ⟨by omega, by omega, by omega, 1, by omega⟩
theorem Ser.sw {A s C : Int} (h : Ser A s C) : Sw A s C := by rcases h with h | h; exact .inl h; exact .inr (by omega)
theorem sIn_ext {F s C A t D : Int} (h1 : Sw F s C) (h2 : Sw A t D) (h : ∀ n, SIn F s C n ↔ SIn A t D n) : C = D ∧ (1 ≤ C → F = A ∧ s * (C - 1) = t * (D - 1)) := by
  by_cases hC : C = 0
  · by_cases hD : D = 0
    · exact ⟨by omega, fun h => by omega⟩
    · have h2' := h2.resolve_left hD
      have := ((h A).2 (sIn_first h2'.2.1 h2'.1)).2.2.1
      omega
  · have h1' := h1.resolve_left hC
    have hD : D ≠ 0 := fun hD => by have := ((h F).1 (sIn_first h1'.2.1 h1'.1)).2.2.1; omega
    have h2' := h2.resolve_left hD
    have f1 := (h F).1 (sIn_first h1'.2.1 h1'.1)
    have f2 := (h A).2 (sIn_first h2'.2.1 h2'.1)
    have l1 := (h _).1 (sIn_last h1'.2.1 h1'.1)
    have l2 := (h _).2 (sIn_last h2'.2.1 h2'.1)
    have hF : F = A := by have := f1.1; have := f2.1; omega
    have hL : s * (C - 1) = t * (D - 1) := by have := l1.2.1; have := l2.2.1; omega
    refine ⟨?_, fun _ => ⟨hF, hL⟩⟩
    have hs := h1'.2.1
    have ht := h2'.2.1
    rcases Int.lt_or_le 1 C with hc1 | hc1
    · rcases Int.lt_or_le 1 D with hd1 | hd1
      · obtain ⟨_, _, _, p, hp⟩ := (h _).1 (sIn_second hs (by omega : 2 ≤ C))
        obtain ⟨_, _, _, q, hq⟩ := (h _).2 (sIn_second ht (by omega : 2 ≤ D))
        have e1 : s = t * p := by omega
        have e2 : t = s * q := by omega
        have hst : s = t := by
          have hp1 : 1 ≤ p := by
            rcases Int.lt_or_le 0 p with h | h
            · omega
            · have := Int.mul_le_mul_of_nonneg_left h (show (0 : Int) ≤ t by omega); omega
          have hq1 : 1 ≤ q := by
            rcases Int.lt_or_le 0 q with h | h
            · omega
            · have := Int.mul_le_mul_of_nonneg_left h (show (0 : Int) ≤ s by omega); omega
          have := mulle (s := t) (x := 1) (y := p) ht hp1
          have := mulle (s := s) (x := 1) (y := q) hs hq1
          omega
        subst hst
        have := Int.eq_of_mul_eq_mul_left (by omega) hL
        omega
      · have : D = 1 := by omega
        subst this
        rw [Int.sub_self, Int.mul_zero] at hL
        have := (mul0 (s := s) (k := C - 1) hs).1 hL
        omega
    · have : C = 1 := by omega
      subst this
      rw [Int.sub_self, Int.mul_zero] at hL
      have := (mul0 (s := t) (k := D - 1) ht).1 hL.symm
      omega
theorem rin_ext {a b c x y z : Int} (h : Right a b c) (h' : Right x y z) (he : ∀ n, RIn a b c n ↔ RIn x y z n) : a = x ∧ b = y ∧ ofC a b c = ofC x y z := by
  obtain ⟨e1, e2⟩ := sIn_ext (up_ser h).sw (up_ser h').sw he
  by_cases hab : a ≤ b
  · obtain ⟨p1, p2, p3, p4, p5, _⟩ := parts h hab
    have hxy : x ≤ y := by
      by_cases hxy : x ≤ y
      · exact hxy
      · have := (empty_of (c := z) hxy).2.2; omega
    obtain ⟨p1', p2', p3', p4', p5', _⟩ := parts h' hxy
    obtain ⟨u1, u2⟩ := up_of h hab
    obtain ⟨v1, v2⟩ := up_of h' hxy
    obtain ⟨k1, k2⟩ := e2 p3
    unfold sA at k1
    unfold sS at k2
    rw [u1, v1] at k1
    rw [u2, v2, p5, p5'] at k2
    exact ⟨k1, by omega, e1⟩
  · have h0 := (empty_of (c := c) hab).2.2
    have hxy : ¬ x ≤ y := fun hxy => by have := (parts h' hxy).2.2.1; omega
    obtain ⟨i1, i2, i3⟩ := empty_is h hab
    obtain ⟨j1, j2, j3⟩ := empty_is h' hxy
    exact ⟨by omega, by omega, e1⟩
def RInR (r : R3) (v : Int) : Prop := RIn (rA r) (rB r) (rC r) v
theorem rr_ext {r q : R3} (h : RR r) (h' : RR q) (he : ∀ v, RInR r v ↔ RInR q v) : rA r = rA q ∧ rB r = rB q ∧ rC r = rC q := by
  obtain ⟨e1, e2, e3⟩ := rin_ext h.1 h'.1 he
  refine ⟨e1, e2, ?_⟩
  by_cases hab : rA r ≤ rB r
  · obtain ⟨p1, p2, p3, p4, p5, _, _, _, _, p10⟩ := parts h.1 hab
    obtain ⟨q1, q2, q3, q4, q5, _, _, _, _, q10⟩ := parts h'.1 (by omega)
    have c1 := h.2
    have c2 := h'.2
    rw [absI_pos (by omega)] at p5 q5
    by_cases hl : rA r = rB r
    · rw [p10 hl, q10 (by omega)]
    · have hC : ofC (rA r) (rB r) (rC r) - 1 ≠ 0 := fun hz => by rw [hz, Int.mul_zero] at p5; omega
      rw [← e3] at q5
      exact Int.eq_of_mul_eq_mul_right hC (by omega)
  · have i1 := empty_is h.1 hab
    have i2 := empty_is h'.1 (by omega)
    omega
theorem isR_rr {r q : R3} (h : RR r) (h' : RR q) : RR (isR r q) ∧ ∀ v, RInR (isR r q) v ↔ RInR r v ∧ RInR q v := by
  obtain ⟨i1, i2, i3⟩ := is_set h.1 h'.1
  have hpos : 0 < rC (isR r q) := by
    show 0 < isS (rA r) (rB r) (rC r) (rA q) (rB q) (rC q)
    have hn : ¬ ckd (rA r) (rB r) (rC r) (rA q) (rB q) (rC q) ≠ 0 := by simp [ckd_zero h.1 h'.1]
    have hc := h.2
    simp only [isS, if_neg hn]
    rcases (is_sw h.1 h'.1).1 with h0 | h1
    · rw [h0]; simp [nStr]
    · obtain ⟨q1, q2, q3, q4⟩ := nrm_like (f := isF (rA r) (rB r) (rC r) (rA q) (rB q) (rC q)) (s := isB (rA r) (rB r) (rC r) (rA q) (rB q) (rC q)) (C := isC (rA r) (rB r) (rC r) (rA q) (rB q) (rC q)) (c := rC r) h1.2.1
      have m0 := mulle (x := 0) (y := isC (rA r) (rB r) (rC r) (rA q) (rB q) (rC q) - 1) h1.2.1 (by omega)
      rw [Int.mul_zero] at m0
      have n1 : ¬ isC (rA r) (rB r) (rC r) (rA q) (rB q) (rC q) ≤ 0 := by omega
      rw [q4]
      have e0 : mvE (isF (rA r) (rB r) (rC r) (rA q) (rB q) (rC q)) (isB (rA r) (rB r) (rC r) (rA q) (rB q) (rC q)) (isC (rA r) (rB r) (rC r) (rA q) (rB q) (rC q)) = 0 := by unfold mvE; rw [if_neg n1, if_pos (by omega)]
      simp only [mvStr, e0, if_neg n1, if_true]
      rw [if_neg (show ¬ rC r < 0 by omega)]
      split <;> omega
  exact ⟨⟨i2, hpos⟩, i3⟩
theorem isR_self {r : R3} (h : RR r) : isR r r = r := by
  obtain ⟨h1, h2⟩ := isR_rr h h
  obtain ⟨e1, e2, e3⟩ := rr_ext h1 h fun v => (h2 v).trans ⟨fun g => g.1, fun g => ⟨g, g⟩⟩
  obtain ⟨a, b, c, u⟩ := r
  have e1 : (isR (a, b, c, u) (a, b, c, u)).1 = a := e1
  have e2 : (isR (a, b, c, u) (a, b, c, u)).2.1 = b := e2
  have e3 : (isR (a, b, c, u) (a, b, c, u)).2.2.1 = c := e3
  exact Prod.ext e1 (Prod.ext e2 (Prod.ext e3 rfl))
/-! Numbers and positions. -/
theorem nthR_is {r : R3} (h : RR r) {q : Int} (q0 : 0 ≤ q) (q1 : q < szR r) : nth (rA r) (rB r) (rC r) q = rA r + rC r * q ∧ hasR r (nth (rA r) (rB r) (rC r) q) = true ∧ posR r (nth (rA r) (rB r) (rC r) q) = q := by
  have hc := h.2
  have hz := chk_zero.2 h.1
  rw [(rr_size h).1] at q1
  have hab : ¬ rA r > rB r := fun g => by unfold ofC at q1; rw [if_pos g] at q1; omega
  have eC : ofC (rA r) (rB r) (rC r) = (rB r - rA r) / rC r + 1 := by unfold ofC; rw [if_neg hab, if_neg (by omega)]
  have e : nth (rA r) (rB r) (rC r) q = rA r + rC r * q := by
    have e0 : nthE (rA r) (rB r) (rC r) q = 0 := by unfold nthE; rw [if_neg (fun g => g hz), if_neg (by omega)]
    unfold nth
    rw [if_neg (fun g => g e0)]
    unfold ofF ofB
    rw [if_neg hab, if_neg hab, if_neg (by omega)]
  rw [eC] at q1
  have m0 := Int.mul_nonneg (show 0 ≤ rC r by omega) q0
  have m1 := Int.mul_le_mul_of_nonneg_left (show q ≤ (rB r - rA r) / rC r by omega) (show 0 ≤ rC r by omega)
  have m2 := Int.mul_ediv_add_emod (rB r - rA r) (rC r)
  have m3 := Int.emod_nonneg (rB r - rA r) (show rC r ≠ 0 by omega)
  have hd : has (rA r) (rB r) (rC r) (rA r + rC r * q) = true := decide_eq_true ⟨hz, by omega, by omega, by rw [show rA r + rC r * q - rA r = rC r * q by omega]; exact Int.mul_emod_right _ _⟩
  refine ⟨e, by rw [e]; exact hd, ?_⟩
  rw [e]
  show pos _ _ _ _ = _
  unfold pos
  rw [if_pos hd, if_neg (by omega), show rA r + rC r * q - rA r = rC r * q by omega, Int.mul_ediv_cancel_left _ (by omega)]
section
variable {n : Nat} {f : Nat → R3} {k s h : Int}
/-- The position of the index at a position. -/
theorem nth_pos {F : Nat → R3} (hF : ∀ i, i < n → F i = f i) (hc : chD n f k s h = 0) {q : Int} (q0 : 0 ≤ q) (q1 : q < szD n f k s h) :
    dnN n f k s h q = n ∧ hasD n F k s h (dnN n f k s h q) (dnF n f q) = true ∧ posD n F k s h (dnN n f k s h q) (dnF n f q) = q := by
  have e0 : dnE n f k s h q = 0 := by unfold dnE; rw [if_neg (fun g => g hc), if_neg (by omega)]
  have eN : dnN n f k s h q = n := by unfold dnN; rw [if_neg (fun g => g e0)]
  obtain ⟨⟨hn, d⟩, d2⟩ := chD_zero.1 hc
  have hcF : chD n F k s h = 0 := chD_zero.2 ⟨⟨hn, fun i hi => by rw [hF i hi]; exact d i hi⟩, d2⟩
  have es : szD n f k s h = szR (f 0) * colD n f := by unfold szD; rw [if_neg (fun x => x hc)]
  rw [es] at q1
  rw [eN]
  rcases hn with rfl | rfl
  · have r0 := d 0 (by decide)
    have eq : q.tdiv (colD 1 f) = q := by unfold colD; rw [if_pos rfl]; exact Int.tdiv_one q
    have q1 : q < szR (f 0) := by unfold colD at q1; rw [if_pos rfl, Int.mul_one] at q1; exact q1
    obtain ⟨_, g1, g2⟩ := nthR_is r0 q0 q1
    have ev : (dnF 1 f q 0).1 = nth (rA (f 0)) (rB (f 0)) (rC (f 0)) q := by unfold dnF; rw [eq]; rfl
    obtain ⟨x1, x2⟩ := hasD_t (n := 1) (f := F) (k := k) (s := s) (h := h) (m := 1) (e := dnF 1 f q) ⟨hcF, rfl, by rw [hF 0 (by decide), ev]; exact g1, fun g => absurd g (by decide)⟩
    refine ⟨rfl, x1, ?_⟩
    rw [x2, if_pos rfl, hF 0 (by decide), ev]; exact g2
  · have r0 := d 0 (by decide)
    have r1 := d 1 (by decide)
    have ec : colD 2 f = szR (f 1) := by unfold colD; rw [if_neg (by decide)]
    rw [ec] at q1
    have s1 := (rr_size r1).2.1
    have s1' : 0 < szR (f 1) := by
      rcases Int.lt_or_eq_of_le s1 with g | g
      · exact g
      · rw [← g, Int.mul_zero] at q1; omega
    have a0 := Int.ediv_nonneg q0 s1
    have a1 : q / szR (f 1) < szR (f 0) := Int.ediv_lt_of_lt_mul s1' q1
    have b0 := Int.emod_nonneg q (show szR (f 1) ≠ 0 by omega)
    have b1 := Int.emod_lt_of_pos q s1'
    obtain ⟨_, g1, g2⟩ := nthR_is r0 a0 a1
    obtain ⟨_, g3, g4⟩ := nthR_is r1 b0 b1
    have ev0 : (dnF 2 f q 0).1 = nth (rA (f 0)) (rB (f 0)) (rC (f 0)) (q / szR (f 1)) := by unfold dnF; rw [ec, Int.tdiv_eq_ediv_of_nonneg q0]; rfl
    have ev1 : (dnF 2 f q 1).1 = nth (rA (f 1)) (rB (f 1)) (rC (f 1)) (q % szR (f 1)) := by unfold dnF; rw [ec, Int.tmod_eq_emod_of_nonneg q0]; rfl
    obtain ⟨x1, x2⟩ := hasD_t (n := 2) (f := F) (k := k) (s := s) (h := h) (m := 2) (e := dnF 2 f q) ⟨hcF, rfl, by rw [hF 0 (by decide), ev0]; exact g1, fun _ => by rw [hF 1 (by decide), ev1]; exact g3⟩
    refine ⟨rfl, x1, ?_⟩
    rw [x2, if_neg (by decide), hF 0 (by decide), hF 1 (by decide), ev0, ev1, g2, g4, Int.mul_comm]
    exact Int.mul_ediv_add_emod q _
end
end Go.RX.Span

/- Sparse domains: rows and back, transposed twice: plain. -/
set_option linter.unusedVariables false
set_option linter.unusedSimpArgs false
set_option maxRecDepth 100000
namespace Go.RX.Span
open Go Go.RX
attribute [local irreducible] sx conB

/-! Rows, and back. -/
section
variable {n : Nat} {f : Nat → R3} {k s h : Int} {m : Nat} {e : Nat → R1}
theorem st_nv {j : Nat} (hj : j ≤ (szR (f 0)).toNat) : nv (stG f m e) j = ((rwP (szR (f 1)) m e j : Nat) : Int) := by
  have := st_get f m e (j := j) (by rw [st_len]; omega)
  unfold nv
  rw [this]; rfl
theorem co_nv {j : Nat} (hj : j < m) : nv (coG f m e) j = nv e j % szR (f 1) := by
  have := co_get f m e (j := j) (by rw [co_len]; omega)
  unfold nv
  rw [this]; rfl
theorem rwP_le_of (h : AscR m e) {C : Int} (hC : 0 ≤ C) {r r' : Nat} (hr : r ≤ r') : rwP C m e r ≤ rwP C m e r' := by
  induction r' with
  | zero =>
    have h0 : r = 0 := by omega
    rw [h0]; exact Nat.le_refl _
  | succ r' ih =>
    by_cases g : r = r' + 1
    · subst g; exact Nat.le_refl _
    · exact Nat.le_trans (ih (by omega)) (rwP_mono h hC r')
/-- Where C is 0 nothing is there. -/
theorem c_pos (ta : TabAsk (szR (f 0)) (szR (f 1)) m e) (hb : ∀ i, i < m → nv e i < szR (f 0) * szR (f 1)) {i : Nat} (hi : i < m) : 0 < szR (f 1) :=
  cp_of ta.1 ta.2.2.1 (ta.2.2.2.2.2 i hi).1 (hb i hi)
theorem fr_up (ta : TabAsk (szR (f 0)) (szR (f 1)) m e) : UpR (stN f m e) (stG f m e) := fun j hj => by
  rw [st_len] at hj
  rw [st_nv (by omega), st_nv (by omega)]
  have := rwP_mono ta.2.2.2.2 ta.2.2.1 (C := szR (f 1)) j
  omega
theorem by_row (ta : TabAsk (szR (f 0)) (szR (f 1)) m e) (hb : ∀ i, i < m → nv e i < szR (f 0) * szR (f 1)) (hm : rwP (szR (f 1)) m e (szR (f 0)).toNat = m) : FrOk (szR (f 0)) (szR (f 1)) (stG f m e) (coG f m e) := by
  intro r hr i hi
  have asc := ta.2.2.2.2
  have hC0 := ta.2.2.1
  have e1 : stA (stG f m e) r = rwP (szR (f 1)) m e r := by unfold stA; rw [st_nv (by omega)]; exact Int.toNat_natCast _
  have e2 : stA (stG f m e) (r + 1) = rwP (szR (f 1)) m e (r + 1) := by unfold stA; rw [st_nv (by omega)]; exact Int.toNat_natCast _
  rw [e1, e2] at hi
  rw [e1]
  have le := rwP_le_of asc hC0 (show r + 1 ≤ (szR (f 0)).toNat by omega)
  rw [hm] at le
  have im : i + rwP (szR (f 1)) m e r < m := by omega
  have hC := c_pos ta hb im
  have get : ∀ t, t + rwP (szR (f 1)) m e r < rwP (szR (f 1)) m e (r + 1) → nv (shF (rwP (szR (f 1)) m e r) (coG f m e)) t = nv e (t + rwP (szR (f 1)) m e r) - r * szR (f 1) := fun t ht => by
    show nv (coG f m e) (t + _) = _
    rw [co_nv (by omega)]
    have hd := (div_row (R := szR (f 0)) asc hC (show t + rwP (szR (f 1)) m e r < m by omega)).2 ⟨by omega, ht⟩
    have hx := Int.mul_ediv_add_emod (nv e (t + rwP (szR (f 1)) m e r)) (szR (f 1))
    rw [hd, Int.mul_comm] at hx
    omega
  have hg := get i (by omega)
  have hmod : nv (shF (rwP (szR (f 1)) m e r) (coG f m e)) i = nv e (i + rwP (szR (f 1)) m e r) % szR (f 1) := co_nv im
  refine ⟨by rw [hmod]; exact Int.emod_nonneg _ (by omega), by rw [hmod]; exact Int.emod_lt_of_pos _ hC, fun h0 => ?_⟩
  rw [hg, get (i - 1) (by omega)]
  have := asc.1.2 (i - 1 + rwP (szR (f 1)) m e r) (i + rwP (szR (f 1)) m e r) (by omega) im
  omega
theorem fr_back (ta : TabAsk (szR (f 0)) (szR (f 1)) m e) (hb : ∀ i, i < m → nv e i < szR (f 0) * szR (f 1)) (hm : rwP (szR (f 1)) m e (szR (f 0)).toNat = m) {i : Nat} (hi : i < m) : frF (szR (f 0)) (szR (f 1)) (stG f m e) (coG f m e) i = e i := by
  have asc := ta.2.2.2.2
  have hC0 := ta.2.2.1
  have hC := c_pos ta hb hi
  have q0 := (asc.2 i hi).1
  have d0 := Int.ediv_nonneg q0 hC0
  have d1 : nv e i / szR (f 1) < szR (f 0) := Int.ediv_lt_of_lt_mul hC (hb i hi)
  obtain ⟨r, hr⟩ : ∃ r : Nat, nv e i / szR (f 1) = (r : Int) := ⟨(nv e i / szR (f 1)).toNat, by omega⟩
  obtain ⟨g1, g2⟩ := (div_row (R := szR (f 0)) asc hC hi).1 hr
  have hrR : r < (szR (f 0)).toNat := by omega
  have get : ∀ j, j < (szR (f 0)).toNat → nv (shF 1 (stG f m e)) j = ((rwP (szR (f 1)) m e (j + 1) : Nat) : Int) := fun j hj => st_nv (by omega)
  have eb : bsI (szR (f 0)).toNat (shF 1 (stG f m e)) ((i : Int) + 1) = r := by
    refine bsI_of (by omega) (fun j hj => ?_) fun j hj hjR => ?_
    · rw [get j (by omega)]
      have := rwP_le_of asc hC0 (show j + 1 ≤ r by omega)
      omega
    · rw [get j hjR]
      have := rwP_le_of asc hC0 (show r + 1 ≤ j + 1 by omega)
      omega
  have hx := Int.mul_ediv_add_emod (nv e i) (szR (f 1))
  rw [hr, Int.mul_comm] at hx
  have ev : (frF (szR (f 0)) (szR (f 1)) (stG f m e) (coG f m e) i).1 = nv e i := by
    show ((bsI (szR (f 0)).toNat (shF 1 (stG f m e)) ((i : Int) + 1) : Nat) : Int) * szR (f 1) + nv (coG f m e) i = _
    rw [eb, co_nv hi]; exact hx
  exact Prod.ext ev rfl
theorem fr_zero (g : spE n f k s h m e = 0) (h2 : n = 2) : frE n f k s h (stN f m e) (stG f m e) (coN f m e) (coG f m e) = 0 ∧ ∀ i, i < m → frF (szR (f 0)) (szR (f 1)) (stG f m e) (coG f m e) i = e i := by
  obtain ⟨ta, es, ep⟩ := sp_tab g h2
  have hb := sp_lt g h2
  have hm := (sp_bs g).2.1
  have hR := ta.1
  refine ⟨frE_5 (spE_zero.1 g).1 h2 (by rw [st_len]; omega) (by rw [co_len]; exact hm) (by rw [st_nv (Nat.zero_le _), rwP_0 ta.2.2.2.2]; rfl) (by rw [st_nv (Nat.le_refl _), ep, co_len]) (fr_up ta) (by_row ta hb ep), fun i hi => fr_back ta hb ep hi⟩
end
/-! Transposed twice. -/
section
variable {R C p : Int}
theorem tp_back (R0 : 0 ≤ R) (C0 : 0 ≤ C) (p0 : 0 ≤ p) (p1 : p < R * C) : 0 ≤ tpI R C p ∧ tpI R C p < C * R ∧ tpI C R (tpI R C p) = p := by
  have hC := cp_of R0 C0 p0 p1
  have x0 := Int.emod_nonneg p (show C ≠ 0 by omega)
  have x1 := Int.emod_lt_of_pos p hC
  have y0 := Int.ediv_nonneg p0 C0
  have y1 : p / C < R := Int.ediv_lt_of_lt_mul hC p1
  have m0 := Int.mul_nonneg x0 R0
  have m1 : (p % C + 1) * R ≤ C * R := Int.mul_le_mul_of_nonneg_right (by omega) R0
  rw [Int.add_mul, Int.one_mul] at m1
  have t0 : 0 ≤ tpI R C p := by unfold tpI; omega
  have t1 : tpI R C p < C * R := by unfold tpI; omega
  refine ⟨t0, t1, ?_⟩
  obtain ⟨a, b⟩ := two_eq (S := R) (p := tpI R C p / R) (q := tpI R C p % R) (a := p % C) (b := p / C) (Int.emod_nonneg _ (by omega)) (Int.emod_lt_of_pos _ (by omega)) y0 y1
    (by rw [Int.mul_comm]; exact Int.mul_ediv_add_emod _ _)
  show tpI R C p % R * C + tpI R C p / R = p
  rw [a, b]
  have := Int.mul_ediv_add_emod p C
  rw [Int.mul_comm] at this
  exact this
end
theorem spAt_lF {N : Int} {l : List Int} (h : Asc l) (hb : ∀ x ∈ l, 0 ≤ x ∧ x < N) : SpAt N l.length (lF l) := fun i hi => by
  have e : ∀ j, (hj : j < l.length) → nv (lF l) j = l[j] := fun j hj => by show l.getD j 0 = _; rw [List.getD_eq_getElem?_getD, List.getElem?_eq_getElem hj]; rfl
  rw [e i hi]
  obtain ⟨g1, g2⟩ := hb _ (List.getElem_mem hi)
  refine ⟨g1, g2, fun h0 => ?_⟩
  rw [e (i - 1) (by omega)]
  exact List.pairwise_iff_getElem.1 h (i - 1) i (by omega) hi (by omega)
section
variable {f : Nat → R3} {k s h : Int} {m : Nat} {e : Nat → R1}
theorem sw_sz (hc : chD 2 f k s h = 0) : chD 2 (swF f) k s h = 0 ∧ szD 2 (swF f) k s h = szD 2 f k s h := by
  obtain ⟨⟨hn, d⟩, d2⟩ := chD_zero.1 hc
  have hcF : chD 2 (swF f) k s h = 0 := chD_zero.2 ⟨⟨.inr rfl, fun i hi => by
    rcases (show i = 0 ∨ i = 1 by omega) with rfl | rfl
    · exact d 1 (by decide)
    · exact d 0 (by decide)⟩, d2⟩
  refine ⟨hcF, ?_⟩
  unfold szD
  rw [if_neg (fun x => x hcF), if_neg (fun x => x hc)]
  unfold colD
  rw [if_neg (by decide), if_neg (by decide)]
  exact Int.mul_comm _ _
/-- The transposed domain is right. -/
theorem tr_right (g : spE 2 f k s h m e = 0) : spE 2 (swF f) k s h (tqN (szR (f 0)) (szR (f 1)) m e) (tqF (szR (f 0)) (szR (f 1)) m e) = 0 := by
  obtain ⟨ta, es, ep⟩ := sp_tab g rfl
  have hb := sp_lt g rfl
  have hc := (pdE_zero.1 (spE_zero.1 g).1)
  obtain ⟨c1, c2⟩ := sw_sz hc.1
  refine spE_zero.2 ⟨pdE_zero.2 ⟨c1, by rw [c2]; exact hc.2⟩, by rw [tq_len ta hb]; exact (sp_bs g).2.1, ?_⟩
  unfold tqN tqF
  refine spAt_lF (asc_ofL _) fun x hx => ?_
  obtain ⟨p, hp, rfl⟩ := List.mem_map.1 ((mem_ofL _).1 hx)
  obtain ⟨i, hi, rfl⟩ := mem_nl.1 hp
  obtain ⟨b1, b2, _⟩ := tp_back ta.1 ta.2.2.1 (ta.2.2.2.2.2 i hi).1 (hb i hi)
  exact ⟨b1, by rw [c2, es, Int.mul_comm]; exact b2⟩
/-- Transposed twice. -/
theorem tr_twice (g : spE 2 f k s h m e = 0) : ofL (tpL (szR (f 1)) (szR (f 0)) (tqN (szR (f 0)) (szR (f 1)) m e) (tqF (szR (f 0)) (szR (f 1)) m e)) = nl m e := by
  obtain ⟨ta, es, ep⟩ := sp_tab g rfl
  have hb := sp_lt g rfl
  refine asc_eq (asc_ofL _) (asc_nl ta.2.2.2.2.1) fun x => ?_
  rw [mem_ofL]
  unfold tpL tqN tqF
  rw [nl_lF]
  have back : ∀ z, z ∈ nl m e → tpI (szR (f 1)) (szR (f 0)) (tpI (szR (f 0)) (szR (f 1)) z) = z := fun z hz => by
    obtain ⟨i, hi, rfl⟩ := mem_nl.1 hz
    exact (tp_back ta.1 ta.2.2.1 (ta.2.2.2.2.2 i hi).1 (hb i hi)).2.2
  constructor
  · intro hx
    obtain ⟨y, hy, rfl⟩ := List.mem_map.1 hx
    obtain ⟨z, hz, rfl⟩ := List.mem_map.1 ((mem_ofL _).1 hy)
    rw [back z hz]; exact hz
  · intro hx
    exact List.mem_map.2 ⟨_, (mem_ofL _).2 (List.mem_map.2 ⟨x, hx, rfl⟩), back x hx⟩
end
theorem sw_sw (f : Nat → R3) {i : Nat} (hi : i < 2) : swF (swF f) i = f i := by
  rcases (show i = 0 ∨ i = 1 by omega) with rfl | rfl <;> rfl
/-! Within itself. -/
section
variable {n : Nat} {f : Nat → R3} {k s h : Int} {m : Nat} {e : Nat → R1}
theorem di_self (hc : chD n f k s h = 0) {i : Nat} (hi : i < n) : diF f f i = f i := isR_self ((chD_zero.1 hc).1.2 i hi)
theorem wn_self (g : spE n f k s h m e = 0) : wnE n f k s h m e n f k s h = 0 ∧ wnL n f k s h m e n (diF f f) k s h = nl m e := by
  have hp := (spE_zero.1 g).1
  have hc := (pdE_zero.1 hp).1
  have hz := (pdE_zero.1 hp).2
  have hF : ∀ i, i < n → diF f f i = f i := fun i hi => di_self hc hi
  obtain ⟨⟨hn, d⟩, d2⟩ := chD_zero.1 hc
  have hcF : chD n (diF f f) k s h = 0 := chD_zero.2 ⟨⟨hn, fun i hi => by rw [hF i hi]; exact d i hi⟩, d2⟩
  have hzF : szD n (diF f f) k s h = szD n f k s h := by
    unfold szD
    rw [if_neg (fun x => x hcF), if_neg (fun x => x hc)]
    unfold colD
    rcases hn with rfl | rfl
    · rw [if_pos rfl, if_pos rfl, hF 0 (by decide)]
    · rw [if_neg (by decide), if_neg (by decide), hF 0 (by decide), hF 1 (by decide)]
  have hb : boE n f k s h n f k s h = 0 := boE_zero.2 ⟨hc, hc, rfl⟩
  refine ⟨?_, ?_⟩
  · unfold wnE
    rw [if_neg (fun x => x g), if_neg (fun x => x hc), if_neg (fun x => x hb)]
    exact pdE_zero.2 ⟨hcF, by rw [hzF]; exact hz⟩
  · obtain ⟨_, _, _, _, h3⟩ := sp_bs g
    unfold wnL
    have : ∀ l : List Nat, (∀ i ∈ l, i < m) → l.filterMap (fun i => if wnH n f k s h e n (diF f f) k s h i then some (wnP n f k s h e n (diF f f) k s h i) else none) = l.map (nv e) := fun l hl => by
      induction l with
      | nil => rfl
      | cons i l ih =>
        have hi := hl i List.mem_cons_self
        obtain ⟨_, x1, x2⟩ := nth_pos hF hc (h3 i hi).1 (h3 i hi).2.1
        have x1 : wnH n f k s h e n (diF f f) k s h i = true := x1
        have x2 : wnP n f k s h e n (diF f f) k s h i = nv e i := x2
        rw [List.filterMap_cons, x1, if_pos rfl, x2, List.map_cons, ih fun j hj => hl j (List.mem_cons_of_mem _ hj)]
    exact this _ fun i hi => List.mem_range.1 hi
end
end Go.RX.Span

/- Sparse domains: Union, Both, Minus, Within. -/
set_option linter.unusedVariables false
set_option linter.unusedSimpArgs false
set_option maxRecDepth 100000
namespace Go.RX.Span
open Go Go.RX
attribute [local irreducible] sx conB

section
variable {g n : Nat} {f : Nat → R3} {k s h : Int} {m : Nat} {e : Nat → R1} {n1 : Nat} {f1 : Nat → R3} {k1 s1 h1 : Int} {m1 : Nat} {e1 : Nat → R1}
end
/-! Within. -/
structure XWn where
  (n : Nat) (f : Nat → R3) (k s h : Int) (m : Nat) (e : Nat → R1) (N : Nat) (F : Nat → R3) (K S H : Int) (i : Nat)
noncomputable abbrev VWn (q : XWn) : Few := (slWn q.m q.e q.i, memWn q.n q.f q.k q.s q.h q.m q.e q.N q.F q.K q.S q.H (U.isz (wnN q.n q.f q.k q.s q.h q.i q.e q.N q.F q.K q.S q.H)) (wnN q.n q.f q.k q.s q.h q.i q.e q.N q.F q.K q.S q.H) (wnF q.n q.f q.k q.s q.h q.i q.e q.N q.F q.K q.S q.H))
noncomputable def OWn (q : XWn) : Ex × Few := (.exit 0, ([.any, .ptr 2 0, .any, .ptr 4 0, .any, .any, .any, .any, .any, .any, .any, .any], memWn q.n q.f q.k q.s q.h q.m q.e q.N q.F q.K q.S q.H (U.isz (wnN q.n q.f q.k q.s q.h q.m q.e q.N q.F q.K q.S q.H)) (wnN q.n q.f q.k q.s q.h q.m q.e q.N q.F q.K q.S q.H) (wnF q.n q.f q.k q.s q.h q.m q.e q.N q.F q.K q.S q.H)))
def PhiWn (n0 : Nat) (q : XWn) : Prop := PreWn n0 q.n q.f q.m q.e q.N q.F ∧ q.i ≤ q.m
section
variable {n : Nat} {f : Nat → R3} {k s h : Int} {e : Nat → R1} {N : Nat} {F : Nat → R3} {K S H : Int}
theorem wnL_s (i : Nat) : wnL n f k s h (i + 1) e N F K S H = wnL n f k s h i e N F K S H ++ opt (wnH n f k s h e N F K S H i) (wnP n f k s h e N F K S H i) := by
  unfold wnL opt
  rw [List.range_succ, List.filterMap_append]
  congr 1
  cases hb : wnH n f k s h e N F K S H i <;> simp [hb]
theorem wn_len (i : Nat) : wnN n f k s h i e N F K S H ≤ i := by
  have := List.length_filterMap_le (fun i => if wnH n f k s h e N F K S H i then some (wnP n f k s h e N F K S H i) else none) (List.range i)
  rw [List.length_range] at this
  exact this
end
theorem roundWn (n0 : Nat) (q : XWn) (hq : PhiWn n0 q) : ((sx EWn [] n0 (loopOf P 37 15) (mkS 78 [2,4,8,11,13,14,15,16,17,50,51,52] (VWn q).1, (VWn q).2)).bind (proj 78 [2,4,8,11,13,14,15,16,17,50,51,52])).All fun r => match r.1 with
      | .normal => ∃ q', PhiWn n0 q' ∧ q'.m - q'.i < q.m - q.i ∧ Wk 78 [2,4,8,11,13,14,15,16,17,50,51,52] n0 r.2 (VWn q') ∧ ∀ o, o = OWn q' → o = OWn q
      | e => ∃ s, (e, s) = OWn q ∧ Wk 78 [2,4,8,11,13,14,15,16,17,50,51,52] n0 r.2 s := by
  obtain ⟨n, f, k, s, h, m, e, N, F, K, S, H, i⟩ := q
  obtain ⟨hp, hi⟩ := hq
  have hp : PreWn n0 n f m e N F := hp
  have hi : i ≤ m := hi
  have hp' := hp
  obtain ⟨h0, hr, hR, hm, hv⟩ := hp'
  subst h0
  refine T.all_of_eq (t_Wn n f k s h m e N F K S H (U.isz (wnN n f k s h i e N F K S H)) (wnN n f k s h i e N F K S H) (wnF n f k s h i e N F K S H) (i : Int)) ?_
  by_cases hlt : i < m
  · rw [add1p (j := i) (by omega), tnH]
    have hw := wn_len (n := n) (f := f) (k := k) (s := s) (h := h) (e := e) (N := N) (F := F) (K := K) (S := S) (H := H) i
    simp only [lk_eq]
    refine ⟨fun _ => ⟨⟨by omega, by omega⟩, ⟨hr, hv i hlt⟩, hR, fun g => ⟨by show (_ + 1) * 8 ≤ 140737488351232; omega, ⟨n, f, k, s, h, m, e, N, F, K, S, H, i + 1⟩, ⟨hp, hlt⟩, (show m - (i + 1) < m - i by omega), ?_, fun o ho => ho⟩, fun g => ⟨⟨n, f, k, s, h, m, e, N, F, K, S, H, i + 1⟩, ⟨hp, hlt⟩, (show m - (i + 1) < m - i by omega), ?_, fun o ho => ho⟩⟩, fun g => absurd (U.lt_f.mp g) (by simp only [Int.ofNat_eq_natCast]; omega)⟩
    · have g : wnH n f k s h e N F K S H i = true := g
      have eL : wnL n f k s h (i + 1) e N F K S H = wnL n f k s h i e N F K S H ++ [wnP n f k s h e N F K S H i] := by rw [wnL_s, g]; rfl
      have eN : wnN n f k s h (i + 1) e N F K S H = wnN n f k s h i e N F K S H + 1 := by unfold wnN; rw [eL]; simp
      have ez : U.isz (wnN n f k s h (i + 1) e N F K S H) = false := by rw [eN]; exact isz_s _
      refine wk_of [some 0, none, some 2, some 3, some 4, some 7] rfl (Nat.zero_le _) (ren1z _) ⟨⟨rfl, rfl⟩, ⟨rfl, rfl⟩, ⟨rfl, rfl⟩, ⟨rfl, rfl⟩, rl_any _, rl_any _, rl_any _, rl_any _, rl_any _, ⟨rfl, row1H fun _ _ => rfl⟩, rfl, rfl, trivial⟩
        ⟨⟨rfl, bx_rl⟩, ⟨rfl, zeV_rl⟩, ⟨rfl, par_rl⟩, ⟨rfl, out_rl rfl ez.symm eN.symm⟩, ⟨rfl, ez.symm, eN.symm, row1H fun j hj => ?_⟩, trivial⟩
      have hj : j < wnN n f k s h (i + 1) e N F K S H := hj
      rw [eN] at hj
      show U.cat _ (lF (wnL n f k s h i e N F K S H)) _ j = lF (wnL n f k s h (i + 1) e N F K S H) j
      rw [eL]
      exact cat_app hj
    · have g : wnH n f k s h e N F K S H i = false := g
      have eL : wnL n f k s h (i + 1) e N F K S H = wnL n f k s h i e N F K S H := by rw [wnL_s, g]; exact List.append_nil _
      have eN : wnN n f k s h (i + 1) e N F K S H = wnN n f k s h i e N F K S H := by unfold wnN; rw [eL]
      have eF : wnF n f k s h (i + 1) e N F K S H = wnF n f k s h i e N F K S H := by unfold wnF; rw [eL]
      show Wk _ _ _ _ (slWn m e ((i + 1 : Nat) : Int), memWn n f k s h m e N F K S H (U.isz (wnN n f k s h (i + 1) e N F K S H)) (wnN n f k s h (i + 1) e N F K S H) (wnF n f k s h (i + 1) e N F K S H))
      rw [eN, eF]
      exact wk_of [some 0, none, some 2, some 3, some 4, some 5] rfl (Nat.zero_le _) (ren1z _) ⟨⟨rfl, rfl⟩, ⟨rfl, rfl⟩, ⟨rfl, rfl⟩, ⟨rfl, rfl⟩, rl_any _, rl_any _, rl_any _, rl_any _, rl_any _, ⟨rfl, row1H fun _ _ => rfl⟩, rfl, rfl, trivial⟩
        ⟨⟨rfl, bx_rl⟩, ⟨rfl, zeV_rl⟩, ⟨rfl, par_rl⟩, ⟨rfl, out_rl rfl rfl rfl⟩, ⟨rfl, rfl, rfl, row1H fun _ _ => rfl⟩, trivial⟩
  · obtain rfl : i = m := by omega
    refine ⟨fun g => absurd (U.lt_t.mp g) (by simp only [Int.ofNat_eq_natCast]; omega), fun _ => ⟨_, rfl, ?_⟩⟩
    exact wk_of [some 0, none, some 2, some 3, some 4, some 5] rfl (Nat.zero_le _) (ren1z _) ⟨rl_any _, ⟨rfl, rfl⟩, rl_any _, ⟨rfl, rfl⟩, rl_any _, rl_any _, rl_any _, rl_any _, rl_any _, rl_any _, rl_any _, rl_any _, trivial⟩
        ⟨⟨rfl, bx_rl⟩, ⟨rfl, zeV_rl⟩, ⟨rfl, par_rl⟩, ⟨rfl, out_rl rfl rfl rfl⟩, ⟨rfl, rfl, rfl, row1H fun _ _ => rfl⟩, trivial⟩
theorem loopWn : LoopOK P (loopOf P 37 15) (few 78 [2,4,8,11,13,14,15,16,17,50,51,52] gWn) :=
  loop_few (E := EWn) mixed EWn_ok loopsOK_none 78 [2,4,8,11,13,14,15,16,17,50,51,52] (X := XWn) gWn (fun _ x => VWn x) PhiWn (fun q => q.m - q.i) (fun _ x o => o = OWn x)
    (fun n0 st r hh => by
      unfold gWn at hh
      split at hh
      · rename_i n0 p0 q0 p2 q2 p3 q3 p4 q4 a1 a2 a3 a4 a5 m' e' M' z w0 n f k s h m e t0 w1 w2 zs t2 w3 N F K S H t3 w4 N' F' K' S' H' nilS t4
        obtain ⟨hp, rfl, rfl, rfl, rfl, rfl, rfl, rfl, rfl, rfl, rfl, rfl, rfl, rfl, rfl, rfl, rfl, rfl, rfl, rfl, rfl, rfl, rfl, rfl⟩ := (T.is_ask hh).1
        obtain rfl := T.is_ret (T.is_ask hh).2
        rw [lk_eq] at hp
        have h0 := hp.1
        subst h0
        have zi : U.isz 0 = true := by rw [U.isz_eq]; rfl
        refine ⟨⟨n, f, k, s, h, m', e', N', F', K', S', H', 0⟩, ⟨hp, Nat.zero_le _⟩, ?_, fun o ho => by rw [ho]; simp only [lk_eq]; rfl⟩
        exact wk_of [some 0, none, some 2, some 3, some 4, none] rfl (Nat.zero_le _) (ren1z _) ⟨⟨rfl, rfl⟩, ⟨rfl, rfl⟩, ⟨rfl, rfl⟩, ⟨rfl, rfl⟩, rl_any _, rl_any _, rl_any _, rl_any _, rl_any _, ⟨rfl, row1H fun _ _ => rfl⟩, rfl, rfl, trivial⟩
          ⟨⟨rfl, bx_rl⟩, ⟨rfl, zeV_rl⟩, ⟨rfl, par_rl⟩, ⟨rfl, ⟨rfl, sameRow_refl _ _⟩, rfl, rfl, rfl, ⟨rfl, zi, rfl⟩, trivial⟩, ⟨zi, rfl⟩, trivial⟩
      · exact hh.elim)
    roundWn
theorem lWn_ok : ∀ p ∈ lWn, LoopsOK P p.2 (bodyOf P p.1) := by
  intro p hp
  simp only [lWn, List.mem_singleton] at hp
  subst hp
  refine loopsOK_of (by kernel_rfl) fun k g hk => ?_
  simp only [List.mem_singleton, Prod.mk.injEq, LoopC.sum.injEq] at hk
  obtain ⟨rfl, rfl⟩ := hk
  exact loopWn
section
variable {n : Nat} {f : Nat → R3} {k s h : Int} {m : Nat} {e : Nat → R1} {n1 : Nat} {f1 : Nat → R3} {k1 s1 h1 : Int}
theorem wnE_1 (g1 : spE n f k s h m e ≠ 0) : spE n f k s h m e = wnE n f k s h m e n1 f1 k1 s1 h1 := by unfold wnE; rw [if_pos g1]
theorem wnE_2 (g1 : spE n f k s h m e = 0) (g2 : chD n1 f1 k1 s1 h1 ≠ 0) : chD n1 f1 k1 s1 h1 = wnE n f k s h m e n1 f1 k1 s1 h1 := by unfold wnE; rw [if_neg (fun x => x g1), if_pos g2]
theorem wnE_3 (g1 : spE n f k s h m e = 0) (g2 : chD n1 f1 k1 s1 h1 = 0) (g3 : boE n f k s h n1 f1 k1 s1 h1 ≠ 0) : boE n f k s h n1 f1 k1 s1 h1 = wnE n f k s h m e n1 f1 k1 s1 h1 := by unfold wnE; rw [if_neg (fun x => x g1), if_neg (fun x => x g2), if_pos g3]
theorem wnE_4 (g1 : spE n f k s h m e = 0) (g2 : chD n1 f1 k1 s1 h1 = 0) (g3 : boE n f k s h n1 f1 k1 s1 h1 = 0) : pdE n (diF f f1) k s h = wnE n f k s h m e n1 f1 k1 s1 h1 := by unfold wnE; rw [if_neg (fun x => x g1), if_neg (fun x => x g2), if_neg (fun x => x g3)]
theorem di_0 (g3 : boE n f k s h n1 f1 k1 s1 h1 = 0) : diN n f k s h n1 f1 k1 s1 h1 = n ∧ ∀ x, diX n f k s h n1 f1 k1 s1 h1 x = x := ⟨by unfold diN; rw [if_neg (fun x => x g3)], fun x => by unfold diX; rw [if_neg (fun x => x g3)]⟩
theorem di_64 (g3 : boE n f k s h n1 f1 k1 s1 h1 = 0) : Row64 n (diF f f1) := by
  obtain ⟨h1, h2, h3⟩ := boE_zero.1 g3
  subst h3
  obtain ⟨d1, d2⟩ := chD_zero.1 h1
  obtain ⟨d3, d4⟩ := chD_zero.1 h2
  intro i hi
  have := (isR_rr (d1.2 i hi) (d3.2 i hi)).1
  have h1 := this.1.1
  have h2 := right_c this.1
  show I64 (rA (isR (f i) (f1 i))) ∧ I64 (rB (isR (f i) (f1 i))) ∧ I64 (rC (isR (f i) (f1 i)))
  unfold I64
  exact ⟨by omega, by omega, by omega⟩
end
theorem SpWithin_ok : ConOK P 37 c_SpWithin := con_cl (allOKL mixed kWn_ok lWn_ok) 10 37 fun args r hh => by
  unfold c_SpWithin at hh
  split at hh
  · rename_i n f k s h m e n1 f1 k1 s1 h1
    obtain ⟨hp, hp1⟩ := (T.is_ask hh).1
    obtain rfl := T.is_ret (T.is_ask hh).2
    refine T.all_of_eq (t_SpW n f k s h m e n1 f1 k1 s1 h1) ?_
    simp only [lk_eq]
    refine ⟨hp, fun g1 => cl_err (wnE_1 (U.ne_t.mp g1)) (U.ne_t.mp g1), fun g1 => ⟨hp1, fun g2 => cl_err (wnE_2 (U.ne_f.mp g1) (U.ne_t.mp g2)) (U.ne_t.mp g2), fun g2 => ⟨⟨hp, hp1⟩, fun g3 => cl_err (wnE_3 (U.ne_f.mp g1) (U.ne_f.mp g2) (U.ne_t.mp g3)) (U.ne_t.mp g3), fun g3 => ?_⟩⟩⟩
    have g1 := U.ne_f.mp g1
    have g2 := U.ne_f.mp g2
    have g3 := U.ne_f.mp g3
    obtain ⟨eN, eX⟩ := di_0 g3
    rw [eN, eX, eX, eX]
    have h64 := di_64 g3
    obtain ⟨hm, hv⟩ := sp_i64 g1
    refine ⟨h64, fun g4 => cl_err (wnE_4 g1 g2 g3) (U.ne_t.mp g4), fun g4 => ⟨⟨⟨rfl, hp, h64, hm, hv⟩, trivial, trivial, trivial, trivial, trivial, trivial, trivial, trivial, trivial, trivial, trivial, trivial, trivial, trivial, trivial, trivial, trivial, trivial, trivial, trivial, trivial, trivial, trivial⟩, ?_⟩⟩
    have e0 : wnE n f k s h m e n1 f1 k1 s1 h1 = 0 := (wnE_4 g1 g2 g3).symm.trans (U.ne_f.mp g4)
    rw [e0]
    exact ⟨⟨⟨rfl, sameRow_refl _ _⟩, .inl rfl, .inl rfl, .inl rfl, ⟨rfl, sameRow_refl _ _⟩, rfl⟩, .inl rfl, rfl⟩
  · exact hh.elim
end Go.RX.Span

/- Sparse domains: the law of ways back: what it calls. -/
set_option linter.unusedVariables false
set_option linter.unusedSimpArgs false
set_option maxRecDepth 100000
namespace Go.RX.Span
open Go Go.RX
attribute [local irreducible] sx conB

noncomputable def c_own : Con := fun args => match args with
  | [.agg [.row [.int .i64, .int .i64, .int .i64] n f, .lit (.int .i64 k), .lit (.int .i64 s), .lit (.int .i64 h), .row [.int .i64] m e]] => .ret (.agg [.row [.int .i64, .int .i64, .int .i64] n f, .lit (.int .i64 k), .lit (.int .i64 s), .lit (.int .i64 h), .row [.int .i64] m e])
  | _ => .stuck 1
theorem own_ok : ConOK P 12 c_own := con_of (allOK mixed none_ok) 10 12 fun args r hh => by
  unfold c_own at hh
  split at hh
  · rename_i n f k s h m e
    obtain rfl := T.is_ret hh
    have t : conB Go.Proofs.Try.prog (conOf []) noLoops 10 12 [.agg [.row [.int .i64, .int .i64, .int .i64] n f, .lit (.int .i64 k), .lit (.int .i64 s), .lit (.int .i64 h), .row [.int .i64] m e]] = T.ret (.agg [.row [.int .i64, .int .i64, .int .i64] n f, .lit (.int .i64 k), .lit (.int .i64 s), .lit (.int .i64 h), .row [.int .i64] m e]) := by kernel_rfl
    exact T.all_of_eq t rfl
  · exact hh.elim
noncomputable abbrev kBk : List (Nat × Con) := [(12, c_own), (9, c_few), (10, c_awake), (28, c_SpCheck), (37, c_SpWithin), (19, c_same), (11, c_ByRows), (17, c_FromRows), (15, c_Transpose)] --%K
theorem kBk_ok : ∀ p ∈ kBk, ConOK P p.1 p.2 := by
  intro p hp
  simp only [kBk, List.mem_cons, List.not_mem_nil, or_false] at hp
  rcases hp with rfl | rfl | rfl | rfl | rfl | rfl | rfl | rfl | rfl
  · exact own_ok
  · exact few_ok
  · exact awake_ok
  · exact SpCheck_ok
  · exact SpWithin_ok
  · exact same_ok
  · exact ByRows_ok
  · exact FromRows_ok
  · exact Transpose_ok
noncomputable def c_IrregularBack : Con := fun args => match args with
  | [.agg [.row [.int .i64, .int .i64, .int .i64] n f, .lit (.int .i64 k), .lit (.int .i64 s), .lit (.int .i64 h), .row [.int .i64] m e]] => .ask (Row64 n f) (.ret (.lit (.bool true)))
  | _ => .stuck 1
end Go.RX.Span

/- Sparse domains: the law of ways back: the walk. -/
set_option linter.unusedVariables false
set_option linter.unusedSimpArgs false
set_option maxRecDepth 100000
namespace Go.RX.Span
open Go Go.RX
attribute [local irreducible] sx conB

--%R < ↑(\w+)\b => < ((\1 : Nat) : Int)
--%R ↑(\w+) (=|≤) => ((\1 : Nat) : Int) \2
set_option maxRecDepth 100000 in
theorem t_IBack (n : Nat) (f : Nat → R3) (k s h : Int) (m : Nat) (e : Nat → R1) : conB Go.Proofs.Try.prog (conOf kBk) noLoops 10 6 [.agg [.row [.int .i64, .int .i64, .int .i64] n f, .lit (.int .i64 k), .lit (.int .i64 s), .lit (.int .i64 h), .row [.int .i64] m e]] =
    T.ask (Row64 n f) (.br (U.not (lk fwB n f m)) (.ret (.lit (.bool true))) (.ask (Row64 n f) (.br (U.ne (lk spE n f k s h m e) (0 : Int)) (.ret (.lit (.bool true))) (.ask (Row64 n f ∧
      Row64 n f) (.br (U.ne (lk wnE n f k s h m e n f k s h) (0 : Int)) (.ret (.lit (.bool false))) (.ask (lk zn (lk wnE n f k s h m e n f k s h) n ≤ nat_lit 9223372036854775807 ∧ lk zn
      (lk wnE n f k s h m e n f k s h) (lk wnN n f k s h m e n (lk diF f f) k s h) ≤ nat_lit 9223372036854775807) (.br (U.not (lk smB (lk zn (lk wnE n f k s h m e n f k s h) n) (lk diF f
      f) (lk zi (lk wnE n f k s h m e n f k s h) k) (lk zi (lk wnE n f k s h m e n f k s h) s) (lk zi (lk wnE n f k s h m e n f k s h) h) (lk zn (lk wnE n f k s h m e n f k s h) (lk wnN n
      f k s h m e n (lk diF f f) k s h)) (lk wnF n f k s h m e n (lk diF f f) k s h) n f k s h m e)) (.ret (.lit (.bool false))) (.ask (Row64 n f) (.br (U.ne (Int.ofNat n) (2 : Int)) (.br
      (U.eq (lk brE n f k s h m e) (50 : Int)) (.ret (.lit (.bool true))) (.ret (.lit (.bool false)))) (.ask (Row64 n f) (.ask (Row64 n f) (.ask (Row64 (lk zn (lk brE n f k s h m e)
      (nat_lit 2)) (lk swF f)) (.br (U.eq (lk brE n f k s h m e) (0 : Int)) (.br (U.eq (lk frE n f k s h (lk zn (lk brE n f k s h m e) (lk stN f m e)) (lk stG f m e) (lk zn (lk brE n f k
      s h m e) (lk coN f m e)) (lk coG f m e)) (0 : Int)) (.br (U.eq (lk brE n f k s h m e) (0 : Int)) (.br (U.eq (lk brE (lk zn (lk brE n f k s h m e) (nat_lit 2)) (lk swF f) (lk zi (lk
      brE n f k s h m e) k) (lk zi (lk brE n f k s h m e) s) (lk zi (lk brE n f k s h m e) h) (lk zn (lk brE n f k s h m e) (lk tqN (lk szR (f (nat_lit 0))) (lk szR (f (nat_lit 1))) m e))
      (lk tqF (lk szR (f (nat_lit 0))) (lk szR (f (nat_lit 1))) m e)) (0 : Int)) (.ask (lk zn (lk frE n f k s h (lk zn (lk brE n f k s h m e) (lk stN f m e)) (lk stG f m e) (lk zn (lk brE
      n f k s h m e) (lk coN f m e)) (lk coG f m e)) n ≤ nat_lit 9223372036854775807 ∧ lk zn (lk frE n f k s h (lk zn (lk brE n f k s h m e) (lk stN f m e)) (lk stG f m e) (lk zn (lk brE
      n f k s h m e) (lk coN f m e)) (lk coG f m e)) (lk zn (lk brE n f k s h m e) (lk coN f m e)) ≤ nat_lit 9223372036854775807) (.br (lk smB (lk zn (lk frE n f k s h (lk zn (lk brE n f
      k s h m e) (lk stN f m e)) (lk stG f m e) (lk zn (lk brE n f k s h m e) (lk coN f m e)) (lk coG f m e)) n) f (lk zi (lk frE n f k s h (lk zn (lk brE n f k s h m e) (lk stN f m e))
      (lk stG f m e) (lk zn (lk brE n f k s h m e) (lk coN f m e)) (lk coG f m e)) k) (lk zi (lk frE n f k s h (lk zn (lk brE n f k s h m e) (lk stN f m e)) (lk stG f m e) (lk zn (lk brE
      n f k s h m e) (lk coN f m e)) (lk coG f m e)) s) (lk zi (lk frE n f k s h (lk zn (lk brE n f k s h m e) (lk stN f m e)) (lk stG f m e) (lk zn (lk brE n f k s h m e) (lk coN f m e))
      (lk coG f m e)) h) (lk zn (lk frE n f k s h (lk zn (lk brE n f k s h m e) (lk stN f m e)) (lk stG f m e) (lk zn (lk brE n f k s h m e) (lk coN f m e)) (lk coG f m e)) (lk zn (lk brE
      n f k s h m e) (lk coN f m e))) (lk frF (lk szR (f (nat_lit 0))) (lk szR (f (nat_lit 1))) (lk stG f m e) (lk coG f m e)) n f k s h m e) (.ask (lk zn (lk brE (lk zn (lk brE n f k s h
      m e) (nat_lit 2)) (lk swF f) (lk zi (lk brE n f k s h m e) k) (lk zi (lk brE n f k s h m e) s) (lk zi (lk brE n f k s h m e) h) (lk zn (lk brE n f k s h m e) (lk tqN (lk szR (f
      (nat_lit 0))) (lk szR (f (nat_lit 1))) m e)) (lk tqF (lk szR (f (nat_lit 0))) (lk szR (f (nat_lit 1))) m e)) (nat_lit 2) ≤ nat_lit 9223372036854775807 ∧ lk zn (lk brE (lk zn (lk brE
      n f k s h m e) (nat_lit 2)) (lk swF f) (lk zi (lk brE n f k s h m e) k) (lk zi (lk brE n f k s h m e) s) (lk zi (lk brE n f k s h m e) h) (lk zn (lk brE n f k s h m e) (lk tqN (lk
      szR (f (nat_lit 0))) (lk szR (f (nat_lit 1))) m e)) (lk tqF (lk szR (f (nat_lit 0))) (lk szR (f (nat_lit 1))) m e)) (lk tqN (lk szR (lk swF f (nat_lit 0))) (lk szR (lk swF f
      (nat_lit 1))) (lk zn (lk brE n f k s h m e) (lk tqN (lk szR (f (nat_lit 0))) (lk szR (f (nat_lit 1))) m e)) (lk tqF (lk szR (f (nat_lit 0))) (lk szR (f (nat_lit 1))) m e)) ≤ nat_lit
      9223372036854775807) (.br (lk smB (lk zn (lk brE (lk zn (lk brE n f k s h m e) (nat_lit 2)) (lk swF f) (lk zi (lk brE n f k s h m e) k) (lk zi (lk brE n f k s h m e) s) (lk zi (lk
      brE n f k s h m e) h) (lk zn (lk brE n f k s h m e) (lk tqN (lk szR (f (nat_lit 0))) (lk szR (f (nat_lit 1))) m e)) (lk tqF (lk szR (f (nat_lit 0))) (lk szR (f (nat_lit 1))) m e))
      (nat_lit 2)) (lk swF (lk swF f)) (lk zi (lk brE (lk zn (lk brE n f k s h m e) (nat_lit 2)) (lk swF f) (lk zi (lk brE n f k s h m e) k) (lk zi (lk brE n f k s h m e) s) (lk zi (lk
      brE n f k s h m e) h) (lk zn (lk brE n f k s h m e) (lk tqN (lk szR (f (nat_lit 0))) (lk szR (f (nat_lit 1))) m e)) (lk tqF (lk szR (f (nat_lit 0))) (lk szR (f (nat_lit 1))) m e))
      (lk zi (lk brE n f k s h m e) k)) (lk zi (lk brE (lk zn (lk brE n f k s h m e) (nat_lit 2)) (lk swF f) (lk zi (lk brE n f k s h m e) k) (lk zi (lk brE n f k s h m e) s) (lk zi (lk
      brE n f k s h m e) h) (lk zn (lk brE n f k s h m e) (lk tqN (lk szR (f (nat_lit 0))) (lk szR (f (nat_lit 1))) m e)) (lk tqF (lk szR (f (nat_lit 0))) (lk szR (f (nat_lit 1))) m e))
      (lk zi (lk brE n f k s h m e) s)) (lk zi (lk brE (lk zn (lk brE n f k s h m e) (nat_lit 2)) (lk swF f) (lk zi (lk brE n f k s h m e) k) (lk zi (lk brE n f k s h m e) s) (lk zi (lk
      brE n f k s h m e) h) (lk zn (lk brE n f k s h m e) (lk tqN (lk szR (f (nat_lit 0))) (lk szR (f (nat_lit 1))) m e)) (lk tqF (lk szR (f (nat_lit 0))) (lk szR (f (nat_lit 1))) m e))
      (lk zi (lk brE n f k s h m e) h)) (lk zn (lk brE (lk zn (lk brE n f k s h m e) (nat_lit 2)) (lk swF f) (lk zi (lk brE n f k s h m e) k) (lk zi (lk brE n f k s h m e) s) (lk zi (lk
      brE n f k s h m e) h) (lk zn (lk brE n f k s h m e) (lk tqN (lk szR (f (nat_lit 0))) (lk szR (f (nat_lit 1))) m e)) (lk tqF (lk szR (f (nat_lit 0))) (lk szR (f (nat_lit 1))) m e))
      (lk tqN (lk szR (lk swF f (nat_lit 0))) (lk szR (lk swF f (nat_lit 1))) (lk zn (lk brE n f k s h m e) (lk tqN (lk szR (f (nat_lit 0))) (lk szR (f (nat_lit 1))) m e)) (lk tqF (lk szR
      (f (nat_lit 0))) (lk szR (f (nat_lit 1))) m e))) (lk tqF (lk szR (lk swF f (nat_lit 0))) (lk szR (lk swF f (nat_lit 1))) (lk zn (lk brE n f k s h m e) (lk tqN (lk szR (f (nat_lit
      0))) (lk szR (f (nat_lit 1))) m e)) (lk tqF (lk szR (f (nat_lit 0))) (lk szR (f (nat_lit 1))) m e)) n f k s h m e) (.ret (.lit (.bool true))) (.ret (.lit (.bool false))))) (.ret
      (.lit (.bool false))))) (.ret (.lit (.bool false)))) (.ret (.lit (.bool false)))) (.ret (.lit (.bool false)))) (.ret (.lit (.bool false)))))))))))))))) := by kernel_rfl
end Go.RX.Span

/- Sparse domains: the law of ways back. -/
set_option linter.unusedVariables false
set_option linter.unusedSimpArgs false
set_option maxRecDepth 100000
namespace Go.RX.Span
open Go Go.RX
attribute [local irreducible] sx conB

theorem smB_ext {n : Nat} {f f' : Nat → R3} {k s h : Int} {m : Nat} {e e' : Nat → R1} (hf : ∀ i, i < n → f i = f' i) (he : ∀ i, i < m → e i = e' i) : smB n f k s h m e n f' k s h m e' = true := by
  unfold smB
  rw [eqR3_t.2 ⟨rfl, fun i hi => by rw [hf i hi]; exact ⟨rfl, rfl, rfl⟩⟩, eqR_t.2 ⟨rfl, fun i hi => by rw [he i hi]⟩, decide_eq_true (show k = k ∧ s = s ∧ h = h from ⟨rfl, rfl, rfl⟩)]; rfl
theorem lF_nl {m : Nat} {e : Nat → R1} {i : Nat} (hi : i < m) : lF (nl m e) i = e i := by
  have e1 : (lF (nl m e) i).1 = (e i).1 := nl_get hi
  exact Prod.ext e1 rfl
theorem brE_0 {n : Nat} {f : Nat → R3} {k s h : Int} {m : Nat} {e : Nat → R1} (g : spE n f k s h m e = 0) (h2 : n = 2) : brE n f k s h m e = 0 := by unfold brE; rw [if_neg (fun x => x g), if_neg (fun x => x h2)]
theorem IrregularBack_ok : ConOK P 6 c_IrregularBack := con_of (allOK mixed kBk_ok) 10 6 fun args r hh => by
  unfold c_IrregularBack at hh
  split at hh
  · rename_i n f k s h m e
    have hp := (T.is_ask hh).1
    obtain rfl := T.is_ret (T.is_ask hh).2
    refine T.all_of_eq (t_IBack n f k s h m e) ?_
    simp only [lk_eq]
    refine ⟨hp, fun g => rfl, fun g => ⟨hp, fun g2 => rfl, fun g2 => ⟨⟨hp, hp⟩, ?_⟩⟩⟩
    obtain ⟨hn, hm, _⟩ := fw_is (U.not_f.mp g)
    have g2 := U.ne_f.mp g2
    have hc := (pdE_zero.1 (spE_zero.1 g2).1).1
    obtain ⟨w1, w2⟩ := wn_self g2
    have wN : wnN n f k s h m e n (diF f f) k s h = m := by unfold wnN; rw [w2, nl_len]
    have wF : ∀ i, i < m → wnF n f k s h m e n (diF f f) k s h i = e i := fun i hi => by unfold wnF; rw [w2]; exact lF_nl hi
    rw [w1, zn_0, zn_0, zi_0, zi_0, zi_0, wN, smB_ext (fun i hi => di_self hc hi) wF]
    refine ⟨fun x => absurd rfl (U.ne_t.mp x), fun _ => ⟨⟨by show n ≤ 9223372036854775807; omega, by show m ≤ 9223372036854775807; omega⟩, fun x => absurd (U.not_t.mp x) (by decide), fun _ => ⟨hp, fun g3 => ⟨fun g4 => rfl, fun g4 => ?_⟩, fun g3 => ⟨hp, hp, ?_⟩⟩⟩⟩
    · have g3 := U.ne_t.mp g3
      simp only [Int.ofNat_eq_natCast] at g3
      exact absurd (by unfold brE; rw [if_neg (fun x => x g2), if_pos (by omega)]) (U.eq_f.mp g4)
    · have g3 := U.ne_f.mp g3
      simp only [Int.ofNat_eq_natCast] at g3
      have h2 : n = 2 := by omega
      subst h2
      have b0 := brE_0 g2 rfl
      have t0 := brE_0 (tr_right g2) rfl
      obtain ⟨f0, f1⟩ := fr_zero g2 rfl
      have s0 : szR (swF f 0) = szR (f 1) := rfl
      have s1 : szR (swF f 1) = szR (f 0) := rfl
      have tw := tr_twice g2
      have tN : tqN (szR (f 1)) (szR (f 0)) (tqN (szR (f 0)) (szR (f 1)) m e) (tqF (szR (f 0)) (szR (f 1)) m e) = m := by unfold tqN at tw ⊢; rw [tw, nl_len]
      have tF : ∀ i, i < m → tqF (szR (f 1)) (szR (f 0)) (tqN (szR (f 0)) (szR (f 1)) m e) (tqF (szR (f 0)) (szR (f 1)) m e) i = e i := fun i hi => by
        have : tqF (szR (f 1)) (szR (f 0)) (tqN (szR (f 0)) (szR (f 1)) m e) (tqF (szR (f 0)) (szR (f 1)) m e) = lF (nl m e) := congrArg lF tw
        rw [this]; exact lF_nl hi
      rw [co_len] at f0
      simp only [b0, zn_0, zi_0, t0, co_len, f0, s0, s1, tN]
      rw [smB_ext (fun _ _ => rfl) f1, smB_ext (fun i hi => sw_sw f hi) tF]
      refine ⟨fun i hi => ?_, fun _ => ⟨fun _ => ⟨fun _ => ⟨fun _ => ⟨⟨by decide, by show m ≤ 9223372036854775807; omega⟩, fun _ => ⟨⟨by decide, by show m ≤ 9223372036854775807; omega⟩, fun _ => rfl, fun x => absurd x (by decide)⟩, fun x => absurd x (by decide)⟩, fun x => absurd rfl (U.eq_f.mp x)⟩, fun x => absurd rfl (U.eq_f.mp x)⟩, fun x => absurd rfl (U.eq_f.mp x)⟩, fun x => absurd rfl (U.eq_f.mp x)⟩
      rcases (show i = 0 ∨ i = 1 by omega) with rfl | rfl
      · exact hp 1 (by decide)
      · exact hp 0 (by decide)
  · exact hh.elim
end Go.RX.Span

