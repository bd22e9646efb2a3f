/- The hash of an index: the contracts. -/
import Derived.Test.YtoncmmlgpecklaaPZg
import Derived.Test.YtoncmmlgpecklaaPZb
set_option linter.unusedVariables false
set_option linter.unusedSimpArgs false
set_option maxRecDepth 100000
namespace Go.RX.Span
open Go Go.RX
attribute [local irreducible] sx conB

theorem tm_em {a b : Int} (hb : 0 < b) : (a.tmod b < 0 → a.tmod b + b = emd a b) ∧ (¬ a.tmod b < 0 → a.tmod b = emd a b) ∧ -b < a.tmod b ∧ a.tmod b < b := by
  have h1 := Int.tmod_add_mul_tdiv a b
  have h2 : a.tmod b < b := Int.tmod_lt_of_pos _ hb
  have h3 : -b < a.tmod b := by
    have := Int.lt_tmod_of_pos a hb
    omega
  refine ⟨fun h => ?_, fun h => ?_, h3, h2⟩
  · have e : a = (a.tmod b + b) + b * (a.tdiv b - 1) := by rw [Int.mul_sub, Int.mul_one]; omega
    unfold emd
    conv => rhs; rw [e]
    rw [Int.add_mul_emod_self_left, Int.emod_eq_of_lt (by omega) (by omega)]
  · unfold emd
    conv => rhs; rw [← h1]
    rw [Int.add_mul_emod_self_left, Int.emod_eq_of_lt (by omega) h2]
theorem dmod_ok : ConOK P 138 c_dmod := con_of (allOK mixed none_ok) 10 138 fun args r h => by
  unfold c_dmod at h
  split at h
  · rename_i a b
    obtain ⟨h0, h1, h2⟩ := (T.is_ask h).1
    obtain rfl := T.is_ret (T.is_ask h).2
    obtain ⟨m1, m2, m3, m4⟩ := tm_em (a := a) h0
    rw [t_dmod]
    simp only [U.rem_eq, lk_eq]
    refine ⟨by omega, fun hn => ?_, fun hn => ?_⟩
    · have hn := U.lt_t.mp hn
      show SV.lit (.int .i64 (U.add .i64 (a.tmod b) b)) = _
      rw [U.add64 (by unfold I64; omega), m1 hn]
    · have hn := U.lt_f.mp hn
      show SV.lit (.int .i64 (a.tmod b)) = _
      rw [m2 (by omega)]
  · exact h.elim
theorem kHm_ok : ∀ p ∈ kHm, ConOK P p.1 p.2 := by
  intro p hp
  simp only [kHm, List.mem_singleton] at hp
  subst hp
  exact dmod_ok
theorem EHm_ok : EnvOK EHm := envOK (allOK mixed kHm_ok) 10
theorem hash_step (e : Nat → R1) (j : Nat) : U.rem (U.add .i64 (U.mul .i64 31 (hashN e j)) (emd (nv e j) 1000003)) 1000003 = hashN e (j + 1) := by
  have hb := hashN_bnd e j
  have e1 := Int.emod_nonneg (nv e j) (show (1000003 : Int) ≠ 0 by decide)
  have e2 := Int.emod_lt_of_pos (nv e j) (show (0 : Int) < 1000003 by decide)
  have em : emd (nv e j) 1000003 = nv e j % 1000003 := rfl
  rw [em, U.rem_eq, U.mul64 (by unfold I64; omega), U.add64 (by unfold I64; omega), Int.tmod_eq_emod_of_nonneg (by omega)]
  rfl
structure XH where
  (n : Nat) (e : Nat → R1) (j : Nat)
noncomputable abbrev VHp (q : XH) : Few := ([.lit (.int .i64 (hashN q.e q.j)), .row [.int .i64] q.n q.e, .lit (.int .i64 (q.n : Int)), .lit (.int .i64 (q.j : Int))], [])
noncomputable abbrev VHr (q : XH) : Few := ([.row [.int .i64] q.n q.e, .lit (.int .i64 (hashN q.e q.j)), .lit (.int .i64 (q.j : Int))], [])
noncomputable def OHp (q : XH) : Ex × Few := (.exit 0, VHp { q with j := q.n })
noncomputable def OHr (q : XH) : Ex × Few := (.exit 0, VHr { q with j := q.n })
def PhiH (n0 : Nat) (q : XH) : Prop := PreH n0 q.n q.e ∧ q.j ≤ q.n
theorem row1H {n : Nat} {f g : Nat → R1} (h : ∀ i, i < n → f i = g i) : sameRow n f g := ⟨eqShs_refl _, fun i hi => h i hi⟩
theorem tnH (j : Nat) : U.toNat (j : Int) = j := tn j
theorem roundHp (n0 : Nat) (q : XH) (hq : PhiH n0 q) : ((sx EHm [] n0 (loopOf P 53 3) (mkS 20 [3,6,7,8] (VHp q).1, (VHp q).2)).bind (proj 20 [3,6,7,8])).All fun r => match r.1 with
      | .normal => ∃ q', PhiH n0 q' ∧ q'.n - q'.j < q.n - q.j ∧ Wk 20 [3,6,7,8] n0 r.2 (VHp q') ∧ ∀ o, o = OHp q' → o = OHp q
      | e => ∃ s, (e, s) = OHp q ∧ Wk 20 [3,6,7,8] n0 r.2 s := by
  obtain ⟨n, e, j⟩ := q
  obtain ⟨⟨h0, hn, he⟩, hj⟩ := hq
  simp only [] at h0 hn he hj
  subst h0
  refine T.all_of_eq (t_Hp 0 n e (hashN e j) (j : Int)) ?_
  have e2 : U.add .i64 (j : Int) 1 = ((j + 1 : Nat) : Int) := by rw [U.add64 (by unfold I64; omega)]; omega
  simp only [tnH, e2, lk_eq]
  have w0 : ∀ {vs vs' : List SV}, RlL (idR 0) vs vs' → Wk 20 [3,6,7,8] 0 (vs, []) (vs', []) := fun h => wk_of (idR 0) rfl (Nat.zero_le _) (fun b hb => by omega) h trivial
  by_cases hlt : j < n
  · refine ⟨fun _ => ⟨⟨by omega, by omega⟩, ⟨by decide, by decide, he j hlt⟩, by decide, ⟨n, e, j + 1⟩, ⟨⟨rfl, hn, he⟩, by simp only []; omega⟩, by simp only []; omega, w0 ⟨?_, ⟨rfl, row1H fun _ _ => rfl⟩, rfl, rfl, trivial⟩, fun o ho => ho⟩, fun h => absurd (U.lt_f.mp h) (by simp only [Int.ofNat_eq_natCast]; omega)⟩
    show Value.int .i64 _ = Value.int .i64 _
    exact congrArg _ (hash_step e j)
  · obtain rfl : j = n := by omega
    exact ⟨fun h => absurd (U.lt_t.mp h) (by simp only [Int.ofNat_eq_natCast]; omega), fun _ => ⟨_, rfl, w0 ⟨rfl, ⟨rfl, row1H fun _ _ => rfl⟩, rfl, rfl, trivial⟩⟩⟩
theorem roundHr (n0 : Nat) (q : XH) (hq : PhiH n0 q) : ((sx E0 [] n0 (loopOf P 54 3) (mkS 27 [0,3,4] (VHr q).1, (VHr q).2)).bind (proj 27 [0,3,4])).All fun r => match r.1 with
      | .normal => ∃ q', PhiH n0 q' ∧ q'.n - q'.j < q.n - q.j ∧ Wk 27 [0,3,4] n0 r.2 (VHr q') ∧ ∀ o, o = OHr q' → o = OHr q
      | e => ∃ s, (e, s) = OHr q ∧ Wk 27 [0,3,4] n0 r.2 s := by
  obtain ⟨n, e, j⟩ := q
  obtain ⟨⟨h0, hn, he⟩, hj⟩ := hq
  simp only [] at h0 hn he hj
  subst h0
  refine T.all_of_eq (t_Hr 0 n e (hashN e j) (j : Int)) ?_
  have e2 : U.add .i64 (j : Int) 1 = ((j + 1 : Nat) : Int) := by rw [U.add64 (by unfold I64; omega)]; omega
  simp only [tnH, e2, lk_eq]
  have w0 : ∀ {vs vs' : List SV}, RlL (idR 0) vs vs' → Wk 27 [0,3,4] 0 (vs, []) (vs', []) := fun h => wk_of (idR 0) rfl (Nat.zero_le _) (fun b hb => by omega) h trivial
  by_cases hlt : j < n
  · obtain ⟨m1, m2, m3, m4⟩ := tm_em (a := nv e j) (b := 1000003) (by decide)
    have key : ∀ x, x = emd (nv e j) 1000003 → ∃ q' : XH, PhiH 0 q' ∧ q'.n - q'.j < n - j ∧ Wk 27 [0,3,4] 0 ([.row [.int .i64] n e, .lit (.int .i64 (U.rem (U.add .i64 (U.mul .i64 31 (hashN e j)) x) 1000003)), .lit (.int .i64 ((j + 1 : Nat) : Int))], []) (VHr q') ∧ ∀ o, o = OHr q' → o = OHr ⟨n, e, j⟩ := fun x hx => by
      subst hx
      refine ⟨⟨n, e, j + 1⟩, ⟨⟨rfl, hn, he⟩, by simp only []; omega⟩, by simp only []; omega, w0 ⟨⟨rfl, row1H fun _ _ => rfl⟩, ?_, rfl, trivial⟩, fun o ho => ho⟩
      show Value.int .i64 _ = Value.int .i64 _
      exact congrArg _ (hash_step e j)
    refine ⟨fun _ => ⟨⟨by omega, by omega⟩, by decide, fun hh => ⟨by decide, ?_⟩, fun hh => ⟨by decide, ?_⟩⟩, fun h => absurd (U.lt_f.mp h) (by simp only [Int.ofNat_eq_natCast]; omega)⟩
    · refine key _ ?_
      have hh : U.rem (nv e j) 1000003 < 0 := U.lt_t.mp hh
      rw [U.rem_eq] at hh
      show U.add .i64 (U.rem (nv e j) 1000003) 1000003 = _
      rw [U.rem_eq, U.add64 (by unfold I64; omega), m1 hh]
    · refine key _ ?_
      have hh : 0 ≤ U.rem (nv e j) 1000003 := U.lt_f.mp hh
      rw [U.rem_eq] at hh
      show U.rem (nv e j) 1000003 = _
      rw [U.rem_eq, m2 (by omega)]
  · obtain rfl : j = n := by omega
    exact ⟨fun h => absurd (U.lt_t.mp h) (by simp only [Int.ofNat_eq_natCast]; omega), fun _ => ⟨_, rfl, w0 ⟨⟨rfl, row1H fun _ _ => rfl⟩, rfl, rfl, trivial⟩⟩⟩
theorem loopHp : LoopOK P (loopOf P 53 3) (few 20 [3,6,7,8] gHp) :=
  loop_few (E := EHm) mixed EHm_ok loopsOK_none 20 [3,6,7,8] (X := XH) gHp (fun _ x => VHp x) PhiH (fun q => q.n - q.j) (fun _ x o => o = OHp x)
    (fun n0 st r h => by
      unfold gHp at h
      split at h
      · rename_i n0 n e N'
        obtain ⟨hp, rfl⟩ := (T.is_ask h).1
        obtain rfl := T.is_ret (T.is_ask h).2
        rw [lk_eq] at hp
        have h0 := hp.1
        subst h0
        exact ⟨⟨n, e, 0⟩, ⟨hp, Nat.zero_le _⟩, wk_of (idR 0) rfl (Nat.zero_le _) (fun b hb => by omega) ⟨rfl, ⟨rfl, row1H fun _ _ => rfl⟩, rfl, rfl, trivial⟩ trivial, fun o ho => by rw [ho]; simp only [lk_eq]; rfl⟩
      · exact h.elim)
    roundHp
theorem loopHr : LoopOK P (loopOf P 54 3) (few 27 [0,3,4] gHr) :=
  loop_few (E := E0) mixed E0_ok loopsOK_none 27 [0,3,4] (X := XH) gHr (fun _ x => VHr x) PhiH (fun q => q.n - q.j) (fun _ x o => o = OHr x)
    (fun n0 st r h => by
      unfold gHr at h
      split at h
      · rename_i n0 n e
        have hp := (T.is_ask h).1
        obtain rfl := T.is_ret (T.is_ask h).2
        rw [lk_eq] at hp
        have h0 := hp.1
        subst h0
        exact ⟨⟨n, e, 0⟩, ⟨hp, Nat.zero_le _⟩, wk_of (idR 0) rfl (Nat.zero_le _) (fun b hb => by omega) ⟨⟨rfl, row1H fun _ _ => rfl⟩, rfl, rfl, trivial⟩ trivial, fun o ho => by rw [ho]; simp only [lk_eq]; rfl⟩
      · exact h.elim)
    roundHr
theorem lHp_ok : ∀ p ∈ lHp, LoopsOK P p.2 (bodyOf P p.1) := by
  intro p hp
  simp only [lHp, List.mem_singleton] at hp
  subst hp
  refine loopsOK_of (by kernel_rfl) fun k g hk => ?_
  simp only [List.mem_singleton, Prod.mk.injEq, LoopC.sum.injEq] at hk
  obtain ⟨rfl, rfl⟩ := hk
  exact loopHp
theorem lHr_ok : ∀ p ∈ lHr, LoopsOK P p.2 (bodyOf P p.1) := by
  intro p hp
  simp only [lHr, List.mem_singleton] at hp
  subst hp
  refine loopsOK_of (by kernel_rfl) fun k g hk => ?_
  simp only [List.mem_singleton, Prod.mk.injEq, LoopC.sum.injEq] at hk
  obtain ⟨rfl, rfl⟩ := hk
  exact loopHr
end Go.RX.Span

/- The hash of an index: the functions. -/
set_option linter.unusedVariables false
set_option linter.unusedSimpArgs false
set_option maxRecDepth 100000
namespace Go.RX.Span
open Go Go.RX
attribute [local irreducible] sx conB

--%R ↑n = ↑n => ((n : Nat) : Int) = ((n : Nat) : Int)
set_option maxRecDepth 100000 in
theorem t_Hash (n : Nat) (e : Nat → R1) : conB Go.Proofs.Try.prog (conOf kHm) (loopsOf lHp) 10 53 [.row [.int .i64] n e] =
    T.ask (lk PreH (nat_lit 0) n e ∧ ((n : Nat) : Int) = ((n : Nat) : Int)) (.ret (.lit (.int .i64 (lk hashN e n)))) := by kernel_rfl
set_option maxRecDepth 100000 in
theorem t_qHash (n : Nat) (e : Nat → R1) : conB Go.Proofs.Try.prog (conOf []) (loopsOf lHr) 10 54 [.row [.int .i64] n e] =
    T.ask (lk PreH (nat_lit 0) n e) (.ret (.lit (.int .i64 (lk hashN e n)))) := by kernel_rfl
theorem Hash_ok : ConOK P 53 c_Hash := con_of (allOKL mixed kHm_ok lHp_ok) 10 53 fun args r h => by
  unfold c_Hash at h
  split at h
  · rename_i n e
    obtain ⟨h1, h2⟩ := (T.is_ask h).1
    obtain rfl := T.is_ret (T.is_ask h).2
    rw [t_Hash]
    simp only [lk_eq]
    exact ⟨⟨⟨rfl, h1, h2⟩, trivial⟩, rfl⟩
  · exact h.elim
theorem qHash_ok : ConOK P 54 c_Hash := con_of (allOKL mixed none_ok lHr_ok) 10 54 fun args r h => by
  unfold c_Hash at h
  split at h
  · rename_i n e
    obtain ⟨h1, h2⟩ := (T.is_ask h).1
    obtain rfl := T.is_ret (T.is_ask h).2
    rw [t_qHash]
    simp only [lk_eq]
    exact ⟨⟨rfl, h1, h2⟩, rfl⟩
  · exact h.elim
end Go.RX.Span

/- Domain maps: contracts of the small functions. -/
set_option linter.unusedVariables false
set_option linter.unusedSimpArgs false
set_option maxRecDepth 100000
namespace Go.RX.Span
open Go Go.RX
attribute [local irreducible] sx conB

noncomputable abbrev kU0 : List (Nat × Con) := [(63, c_DCheck), (41, c_DSize), (88, c_DHas), (68, c_DNth), (120, c_Position), (28, c_Size), (53, c_Hash), (172, c_DAll)] --%K
theorem kU0_ok : ∀ p ∈ kU0, ConOK P p.1 p.2 := by
  intro p hp
  simp only [kU0, List.mem_cons, List.not_mem_nil, or_false] at hp
  rcases hp with rfl | rfl | rfl | rfl | rfl | rfl | rfl | rfl
  · exact DCheck_ok
  · exact DSize_ok
  · exact DHas_ok
  · exact DNth_ok
  · exact Position_ok
  · exact Size_ok
  · exact Hash_ok
  · exact DAll_ok
noncomputable abbrev kQ0 : List (Nat × Con) := [(86, c_DCheck), (87, c_DSize), (89, c_DHas), (84, c_DNth), (166, c_Position), (143, c_Size), (54, c_Hash)] --%K
theorem kQ0_ok : ∀ p ∈ kQ0, ConOK P p.1 p.2 := by
  intro p hp
  simp only [kQ0, List.mem_cons, List.not_mem_nil, or_false] at hp
  rcases hp with rfl | rfl | rfl | rfl | rfl | rfl | rfl
  · exact qCheck_ok
  · exact qSize_ok
  · exact qHas_ok
  · exact qNth_ok
  · exact rPosition_ok
  · exact rSize_ok
  · exact qHash_ok
noncomputable def c_dmCheck : Con := fun args => match args with
  | [.agg [.row [.int .i64, .int .i64, .int .i64] n f, .lit (.int .i64 k), .lit (.int .i64 s), .lit (.int .i64 h)], .lit (.int .i64 L)] => .ask (Row64 n f) (.ret (.lit (.int .i64 (lk dmE n f k s h L))))
  | _ => .stuck 1
/-- The error where a list is made. -/
def lsE (n : Nat) (f : Nat → R3) (k s h L : Int) : Int := if dmE n f k s h L ≠ 0 then dmE n f k s h L else if 5000 < szD n f k s h then 7 else 0
/-- The same, with a locale. -/
def lcE (n : Nat) (f : Nat → R3) (k s h L l : Int) : Int := if lsE n f k s h L ≠ 0 then lsE n f k s h L else if l < 0 ∨ L ≤ l then 4 else 0
noncomputable def c_listed : Con := fun args => match args with
  | [.agg [.row [.int .i64, .int .i64, .int .i64] n f, .lit (.int .i64 k), .lit (.int .i64 s), .lit (.int .i64 h)], .lit (.int .i64 L)] => .ask (Row64 n f) (.ret (.lit (.int .i64 (lk lsE n f k s h L))))
  | _ => .stuck 1
noncomputable def c_located : Con := fun args => match args with
  | [.agg [.row [.int .i64, .int .i64, .int .i64] n f, .lit (.int .i64 k), .lit (.int .i64 s), .lit (.int .i64 h)], .lit (.int .i64 L), .lit (.int .i64 l)] => .ask (Row64 n f) (.ret (.lit (.int .i64 (lk lcE n f k s h L l))))
  | _ => .stuck 1
end Go.RX.Span

/- Domain maps: the small functions. -/
set_option linter.unusedVariables false
set_option linter.unusedSimpArgs false
set_option maxRecDepth 100000
namespace Go.RX.Span
open Go Go.RX
attribute [local irreducible] sx conB

--%R ofList\s+\[\((\S+),\s+\(\)\) => ofList (ss := [.int .i64]) [(\1, ())
--%R ↑\((2) : Nat\) => ((\1 : Nat) : Int)
--%R ↑\(\(0 : Nat\) \+ n \+ \(1 : Nat\)\) => (((0 : Nat) + n + (1 : Nat) : Nat) : Int)
set_option maxRecDepth 100000 in
theorem t_dmCheck (n : Nat) (f : Nat → R3) (k s h L : Int) : conB Go.Proofs.Try.prog (conOf kU0) noLoops 10 40 [.agg [.row [.int .i64, .int .i64, .int .i64] n f, .lit (.int .i64 k), .lit (.int .i64 s), .lit (.int .i64 h)], .lit (.int .i64 L)] =
    T.br (U.lt L (1 : Int)) (.ret (.lit (.int .i64 4))) (.br (U.gt L (8 : Int)) (.ret (.lit (.int .i64 4))) (.ask (Row64 n f) (.br (U.ne (lk chD n f k s h) (0 : Int)) (.ret (.lit (.int
      .i64 (lk chD n f k s h)))) (.br (U.eq k (0 : Int)) (.br (U.ge h L) (.ret (.lit (.int .i64 70))) (.ret (.lit (.int .i64 0)))) (.ret (.lit (.int .i64 0))))))) := by kernel_rfl
set_option maxRecDepth 100000 in
theorem t_listed (n : Nat) (f : Nat → R3) (k s h L : Int) : conB Go.Proofs.Try.prog (conOf ((40, c_dmCheck) :: kU0)) noLoops 10 129 [.agg [.row [.int .i64, .int .i64, .int .i64] n f, .lit (.int .i64 k), .lit (.int .i64 s), .lit (.int .i64 h)], .lit (.int .i64 L)] =
    T.ask (Row64 n f) (.br (U.ne (lk dmE n f k s h L) (0 : Int)) (.ret (.lit (.int .i64 (lk dmE n f k s h L)))) (.ask (Row64 n f) (.br (U.gt (lk szD n f k s h) (5000 : Int)) (.ret (.lit
      (.int .i64 7))) (.ret (.lit (.int .i64 0)))))) := by kernel_rfl
set_option maxRecDepth 100000 in
theorem t_located (n : Nat) (f : Nat → R3) (k s h L l : Int) : conB Go.Proofs.Try.prog (conOf [(129, c_listed)]) noLoops 10 134 [.agg [.row [.int .i64, .int .i64, .int .i64] n f, .lit (.int .i64 k), .lit (.int .i64 s), .lit (.int .i64 h)], .lit (.int .i64 L), .lit (.int .i64 l)] =
    T.ask (Row64 n f) (.br (U.ne (lk lsE n f k s h L) (0 : Int)) (.ret (.lit (.int .i64 (lk lsE n f k s h L)))) (.br (U.lt l (0 : Int)) (.ret (.lit (.int .i64 4))) (.br (U.ge l L) (.ret
      (.lit (.int .i64 4))) (.ret (.lit (.int .i64 0)))))) := by kernel_rfl
theorem tnO0 : U.toNat (0 : Int) = 0 := tn 0
theorem tnOf (n : Nat) : U.toNat (Int.ofNat n) = n := tn n
theorem dmCheck_ok : ConOK P 40 c_dmCheck := con_of (allOK mixed kU0_ok) 10 40 fun args r h => by
  unfold c_dmCheck at h
  split at h
  · rename_i n f k s h' L
    have d := (T.is_ask h).1
    obtain rfl := T.is_ret (T.is_ask h).2
    rw [t_dmCheck]
    simp only [lk_eq]
    have key : ∀ x, x = dmE n f k s h' L → (SV.lit (.int .i64 x)) = SV.lit (.int .i64 (dmE n f k s h' L)) := fun x hx => by rw [hx]
    refine ⟨fun g => key _ ?_, fun g => ⟨fun g2 => key _ ?_, fun g2 => ⟨d, fun g3 => key _ ?_, fun g3 => ⟨fun g4 => ⟨fun g5 => key _ ?_, fun g5 => key _ ?_⟩, fun g4 => key _ ?_⟩⟩⟩⟩
    all_goals unfold dmE
    · have := U.lt_t.mp g; rw [if_pos (by omega)]
    · have := U.gt_t.mp g2; rw [if_pos (by omega)]
    · have a := U.lt_f.mp g; have b := U.gt_f.mp g2; have c := U.ne_t.mp g3
      rw [if_neg (by omega), if_pos c]
    · have a := U.lt_f.mp g; have b := U.gt_f.mp g2; have c := U.ne_f.mp g3
      have e := U.eq_t.mp g4; have e2 := U.ge_t.mp g5
      rw [if_neg (by omega), if_neg (by simp [c]), if_pos (by omega)]
    · have a := U.lt_f.mp g; have b := U.gt_f.mp g2; have c := U.ne_f.mp g3
      have e := U.eq_t.mp g4; have e2 := U.ge_f.mp g5
      rw [if_neg (by omega), if_neg (by simp [c]), if_neg (by omega)]
    · have a := U.lt_f.mp g; have b := U.gt_f.mp g2; have c := U.ne_f.mp g3
      have e := U.eq_f.mp g4
      rw [if_neg (by omega), if_neg (by simp [c]), if_neg (fun w => e w.1)]
  · exact h.elim
noncomputable abbrev kU1 : List (Nat × Con) := (40, c_dmCheck) :: kU0 --%K
theorem kU1_ok : ∀ p ∈ kU1, ConOK P p.1 p.2 := by
  intro p hp
  simp only [kU1, List.mem_cons] at hp
  rcases hp with rfl | hp
  · exact dmCheck_ok
  · exact kU0_ok p (by simpa [kU0] using hp)
theorem listed_ok : ConOK P 129 c_listed := con_of (allOK mixed kU1_ok) 10 129 fun args r h => by
  unfold c_listed at h
  split at h
  · rename_i n f k s h' L
    have d := (T.is_ask h).1
    obtain rfl := T.is_ret (T.is_ask h).2
    refine T.all_of_eq (t_listed n f k s h' L) ?_
    simp only [lk_eq]
    have key : ∀ x, x = lsE n f k s h' L → (SV.lit (.int .i64 x)) = SV.lit (.int .i64 (lsE n f k s h' L)) := fun x hx => by rw [hx]
    refine ⟨d, fun g => key _ ?_, fun g => ⟨d, fun g2 => key _ ?_, fun g2 => key _ ?_⟩⟩
    all_goals unfold lsE
    · have a := U.ne_t.mp g; rw [if_pos a]
    · have a := U.ne_f.mp g; have b := U.gt_t.mp g2; rw [if_neg (by simp [a]), if_pos b]
    · have a := U.ne_f.mp g; have b := U.gt_f.mp g2; rw [if_neg (by simp [a]), if_neg (by omega)]
  · exact h.elim
theorem kL1_ok : ∀ p ∈ [(129, c_listed)], ConOK P p.1 p.2 := by
  intro p hp
  simp only [List.mem_singleton] at hp
  subst hp
  exact listed_ok
theorem located_ok : ConOK P 134 c_located := con_of (allOK mixed kL1_ok) 10 134 fun args r h => by
  unfold c_located at h
  split at h
  · rename_i n f k s h' L l
    have d := (T.is_ask h).1
    obtain rfl := T.is_ret (T.is_ask h).2
    rw [t_located]
    simp only [lk_eq]
    have key : ∀ x, x = lcE n f k s h' L l → (SV.lit (.int .i64 x)) = SV.lit (.int .i64 (lcE n f k s h' L l)) := fun x hx => by rw [hx]
    refine ⟨d, fun g => key _ ?_, fun g => ⟨fun g2 => key _ ?_, fun g2 => ⟨fun g3 => key _ ?_, fun g3 => key _ ?_⟩⟩⟩
    all_goals unfold lcE
    · have a := U.ne_t.mp g; rw [if_pos a]
    · have a := U.ne_f.mp g; have b := U.lt_t.mp g2; rw [if_neg (by simp [a]), if_pos (by omega)]
    · have a := U.ne_f.mp g; have b := U.lt_f.mp g2; have c := U.ge_t.mp g3; rw [if_neg (by simp [a]), if_pos (by omega)]
    · have a := U.ne_f.mp g; have b := U.lt_f.mp g2; have c := U.ge_f.mp g3; rw [if_neg (by simp [a]), if_neg (by omega)]
  · exact h.elim
end Go.RX.Span

/- Domain maps: the owner of an index. -/
set_option linter.unusedVariables false
set_option linter.unusedSimpArgs false
set_option maxRecDepth 100000
namespace Go.RX.Span
open Go Go.RX
attribute [local irreducible] sx conB

section
variable {e z g : Nat → R1} {n : Nat}
end
/-- The k of a right map. -/
theorem fit_k {k s h : Int} (hf : fitB k s h = true) : k = 0 ∨ k = 1 ∨ k = 2 ∨ (k = 3 ∧ 1 ≤ s ∧ s ≤ 1000) ∨ k = 4 := by
  have := of_decide_eq_true hf
  omega
section
variable {n : Nat} {f : Nat → R3} {k s h L : Int}
theorem mul_small {q : Int} (h0 : 0 ≤ q) (h1 : q ≤ 5000000) (l0 : 0 ≤ L) (l8 : L ≤ 8) : I64 (q * L) := by
  have a := Int.mul_nonneg h0 l0
  have b := Int.mul_le_mul h1 l8 l0 (by omega)
  unfold I64; omega
theorem quo_pos {a b : Int} (ha : 0 ≤ a) (hb : 0 < b) (hl : a ≤ 9223372036854775807) : U.quo .i64 a b = a.tdiv b := by
  rw [U.quo_eq]
  have e := Int.tdiv_eq_ediv_of_nonneg ha (b := b)
  have h1 := Int.ediv_nonneg ha (show 0 ≤ b by omega)
  have h2 := Int.ediv_le_self b ha
  rw [e]
  have := U.add64 (a := a / b) (b := 0) (by unfold I64; omega)
  rw [U.add_eq, Int.add_zero] at this
  exact this
/-- What the five functions return. -/
theorem ow_0 (hk : k = 0) (q : Int) (e : Nat → R1) : owQ n f k s h L q e = h := by unfold owQ; rw [if_pos hk]
theorem ow_1 (hk : k = 1) (q : Int) (e : Nat → R1) (l1 : 0 ≤ L) (l8 : L ≤ 8) (h0 : 0 ≤ q) (h1 : q ≤ 5000000) (hs : 0 < szR (f 0)) : U.quo .i64 (U.mul .i64 q L) (szR (f 0)) = owQ n f k s h L q e := by
  have m := mul_small h0 h1 l1 l8
  unfold owQ
  rw [if_neg (by omega), if_pos hk, U.mul64 m, quo_pos (Int.mul_nonneg h0 l1) hs (by unfold I64 at m; omega)]
theorem ow_2 (hk : k = 2) (q : Int) (e : Nat → R1) : U.rem q L = owQ n f k s h L q e := by
  unfold owQ
  rw [if_neg (by omega), if_neg (by omega), if_pos hk, U.rem_eq]
theorem ow_3 (hk : k = 3) (q : Int) (e : Nat → R1) (h0 : 0 ≤ q) (h1 : q ≤ 5000000) (hs : 0 < s) : U.rem (U.quo .i64 q s) L = owQ n f k s h L q e := by
  unfold owQ
  rw [if_neg (by omega), if_neg (by omega), if_neg (by omega), if_pos hk, U.rem_eq, quo_pos h0 hs (by omega)]
theorem ow_4 (hk : k = 4) (q : Int) (e : Nat → R1) : U.rem (hashN e n) L = owQ n f k s h L q e := by
  unfold owQ
  rw [if_neg (by omega), if_neg (by omega), if_neg (by omega), if_neg (by omega), U.rem_eq]
end
end Go.RX.Span

/- Domain maps: Owner and OwnerAt, of the program and of the reference. -/
set_option linter.unusedVariables false
set_option linter.unusedSimpArgs false
set_option maxRecDepth 100000
namespace Go.RX.Span
open Go Go.RX
attribute [local irreducible] sx conB

section
variable (n : Nat) (f : Nat → R3) (k s h L : Int) (m : Nat) (e : Nat → R1) (p : Int)
end
theorem has_64 {r : R3} (h : RR r) {v : Int} (hv : hasR r v = true) : I64 v := by
  obtain ⟨a1, a2, _⟩ := rr_64 h
  obtain ⟨_, h1, h2, _⟩ := (of_decide_eq_true hv : chk (rA r) (rB r) (rC r) = 0 ∧ rA r ≤ v ∧ v ≤ rB r ∧ (v - rA r) % rC r = 0)
  unfold I64 at *; omega
section
variable {n : Nat} {f : Nat → R3} {k s h L : Int} {m : Nat} {e : Nat → R1} {p : Int}
theorem hasD_has (hh : hasD n f k s h m e = true) : chD n f k s h = 0 ∧ m = n ∧ hasR (f 0) (nv e 0) = true ∧ (n = 2 → hasR (f 1) (nv e 1) = true) := of_decide_eq_true hh
end
end Go.RX.Span

/- Domain maps: the reference's Check, Owner, OwnerAt. -/
set_option linter.unusedVariables false
set_option linter.unusedSimpArgs false
set_option maxRecDepth 100000
namespace Go.RX.Span
open Go Go.RX
attribute [local irreducible] sx conB

end Go.RX.Span

/- Domain maps: the functions that say who owns: contracts. -/
set_option linter.unusedVariables false
set_option linter.unusedSimpArgs false
set_option maxRecDepth 100000
namespace Go.RX.Span
open Go Go.RX
attribute [local irreducible] sx conB

def dK (d : DE) : Int := d.2.1
def dS (d : DE) : Int := d.2.2.1
def dN (d : DE) : Nat := d.1.1
/-- The owner that the functions return, by what they have captured. -/
noncomputable def owC (d : DE) (L q x y : Int) : Int := owQ d.1.1 d.1.2 d.2.1 d.2.2.1 d.2.2.2.1 L q (ixF x y)
def OcAsk (w : Int) (d : DE) (L q x y : Int) : Prop := dmE d.1.1 d.1.2 d.2.1 d.2.2.1 d.2.2.2.1 L = 0 ∧ dK d = w ∧ 0 ≤ q ∧ q < szR (d.1.2 0) ∧ I64 x ∧ I64 y
def OcHome (d : DE) : Prop := dK d = 0
noncomputable abbrev ssL : List Sh := [.int .i64]
noncomputable abbrev rpL (fl : Nat → R1) : SV := .rptr [.int .i64] 1 fl 0 0
noncomputable def c_ow0 : Con := fun args => match args with
  | [.lit (.int .i64 q), .agg [.lit (.int .i64 x), .lit (.int .i64 y)], .rptr [.sl [.int .i64, .int .i64, .int .i64], .int .i64, .int .i64, .int .i64] 1 fd 0 0] => .ask (lk OcHome (fd 0)) (.ret (.lit (.int .i64 (lk owC (fd 0) 0 q x y))))
  | _ => .stuck 1
noncomputable def c_ow1 (w : Int) : Con := fun args => match args with
  | [.lit (.int .i64 q), .agg [.lit (.int .i64 x), .lit (.int .i64 y)], .rptr [.int .i64] 1 fl 0 0, .rptr [.sl [.int .i64, .int .i64, .int .i64], .int .i64, .int .i64, .int .i64] 1 fd 0 0] => .ask (lk OcAsk w (fd 0) (lk nv fl 0) q x y) (.ret (.lit (.int .i64 (lk owC (fd 0) (lk nv fl 0) q x y))))
  | _ => .stuck 1
noncomputable def c_ow2 (w : Int) : Con := fun args => match args with
  | [.lit (.int .i64 q), .agg [.lit (.int .i64 x), .lit (.int .i64 y)], .rptr [.sl [.int .i64, .int .i64, .int .i64], .int .i64, .int .i64, .int .i64] 1 fd 0 0, .rptr [.int .i64] 1 fl 0 0] => .ask (lk OcAsk w (fd 0) (lk nv fl 0) q x y) (.ret (.lit (.int .i64 (lk owC (fd 0) (lk nv fl 0) q x y))))
  | _ => .stuck 1
noncomputable def c_ow3 : Con := fun args => match args with
  | [.lit (.int .i64 q), .agg [.lit (.int .i64 x), .lit (.int .i64 y)], .rptr [.int .i64] 1 fl 0 0] => .ask (lk nv fl 0 ≠ 0) (.ret (.lit (.int .i64 (U.rem q (lk nv fl 0)))))
  | _ => .stuck 1
noncomputable def c_owners : Con := fun args => match args with
  | [.agg [.row [.int .i64, .int .i64, .int .i64] n f, .lit (.int .i64 k), .lit (.int .i64 s), .lit (.int .i64 h)], .lit (.int .i64 L)] =>
    .ret (.agg [.fn (.func 224) [] [rpD fun _ => ((n, f), k, s, h, ())], .fn (.func 225) [] [rpL fun _ => (L, ()), rpD fun _ => ((n, f), k, s, h, ())], .fn (.func 226) [] [rpL fun _ => (L, ())], .fn (.func 227) [] [rpD fun _ => ((n, f), k, s, h, ()), rpL fun _ => (L, ())], .fn (.func 228) [] [rpD fun _ => ((n, f), k, s, h, ()), rpL fun _ => (L, ())]])
  | _ => .stuck 1
end Go.RX.Span

/- Domain maps: the functions that say who owns. -/
set_option linter.unusedVariables false
set_option linter.unusedSimpArgs false
set_option maxRecDepth 100000
namespace Go.RX.Span
open Go Go.RX
attribute [local irreducible] sx conB

--%R ofList\s+\[\((\S+),\s+\(\)\) => ofList (ss := [.int .i64]) [(\1, ())
--%R ↑\((2) : Nat\) => ((\1 : Nat) : Int)
set_option maxRecDepth 100000 in
theorem t_ow0 (fd : Nat → DE) (q x y : Int) : conB Go.Proofs.Try.prog (conOf kU0) noLoops 10 224 [.lit (.int .i64 q), .agg [.lit (.int .i64 x), .lit (.int .i64 y)], rpD fd] =
    T.ret (.lit (.int .i64 (fd (0 : Nat)).2.2.2.1)) := by kernel_rfl
set_option maxRecDepth 100000 in
theorem t_ow1 (fd : Nat → DE) (fl : Nat → R1) (q x y : Int) : conB Go.Proofs.Try.prog (conOf kU0) noLoops 10 225 [.lit (.int .i64 q), .agg [.lit (.int .i64 x), .lit (.int .i64 y)], rpL fl, rpD fd] =
    T.ask ((0 : Int) ≤ (0 : Int) ∧ (0 : Int) < ↑(fd (0 : Nat)).fst.1) (.ask (I64 ((fd (0 : Nat)).fst.snd (U.toNat (0 : Int))).1 ∧ I64 ((fd (0 : Nat)).fst.snd (U.toNat (0 : Int))).2.1 ∧
      I64 ((fd (0 : Nat)).fst.snd (U.toNat (0 : Int))).2.2.1) (.ask (lk size ((fd (0 : Nat)).fst.snd (U.toNat (0 : Int))).1 ((fd (0 : Nat)).fst.snd (U.toNat (0 : Int))).2.1 ((fd (0 :
      Nat)).fst.snd (U.toNat (0 : Int))).2.2.1 ≠ (0 : Int)) (.ret (.lit (.int .i64 (U.quo .i64 (U.mul .i64 q (fl (0 : Nat)).1) (lk size ((fd (0 : Nat)).fst.snd (U.toNat (0 : Int))).1 ((fd
      (0 : Nat)).fst.snd (U.toNat (0 : Int))).2.1 ((fd (0 : Nat)).fst.snd (U.toNat (0 : Int))).2.2.1))))))) := by kernel_rfl
set_option maxRecDepth 100000 in
theorem t_ow2 (fl : Nat → R1) (q x y : Int) : conB Go.Proofs.Try.prog (conOf kU0) noLoops 10 226 [.lit (.int .i64 q), .agg [.lit (.int .i64 x), .lit (.int .i64 y)], rpL fl] =
    T.ask ((fl (0 : Nat)).1 ≠ (0 : Int)) (.ret (.lit (.int .i64 (U.rem q (fl (0 : Nat)).1)))) := by kernel_rfl
set_option maxRecDepth 100000 in
theorem t_ow3 (fd : Nat → DE) (fl : Nat → R1) (q x y : Int) : conB Go.Proofs.Try.prog (conOf kU0) noLoops 10 227 [.lit (.int .i64 q), .agg [.lit (.int .i64 x), .lit (.int .i64 y)], rpD fd, rpL fl] =
    T.ask ((fd (0 : Nat)).2.2.1 ≠ (0 : Int)) (.ask ((fl (0 : Nat)).1 ≠ (0 : Int)) (.ret (.lit (.int .i64 (U.rem (U.quo .i64 q (fd (0 : Nat)).2.2.1) (fl (0 : Nat)).1))))) := by kernel_rfl
set_option maxRecDepth 100000 in
theorem t_ow4 (fd : Nat → DE) (fl : Nat → R1) (q x y : Int) : conB Go.Proofs.Try.prog (conOf kU0) noLoops 10 228 [.lit (.int .i64 q), .agg [.lit (.int .i64 x), .lit (.int .i64 y)], rpD fd, rpL fl] =
    T.ask ((0 : Int) ≤ Int.ofNat (fd (0 : Nat)).fst.1 ∧ Int.ofNat (fd (0 : Nat)).fst.1 ≤ ((2 : Nat) : Int)) (.ask (U.toNat (Int.ofNat (fd (0 : Nat)).fst.1) ≤ (1000000 : Nat) ∧ I64s
      (U.toNat (Int.ofNat (fd (0 : Nat)).fst.1)) (ofList (ss := [.int .i64]) [(y, ()), (x, ())].reverse)) (.ask ((fl (0 : Nat)).1 ≠ (0 : Int)) (.ret (.lit (.int .i64 (U.rem (lk hashN
      (ofList (ss := [.int .i64]) [(y, ()), (x, ())].reverse) (U.toNat (Int.ofNat (fd (0 : Nat)).fst.1))) (fl (0 : Nat)).1)))))) := by kernel_rfl
set_option maxRecDepth 100000 in
theorem t_owners (n : Nat) (f : Nat → R3) (k s h L : Int) : conB Go.Proofs.Try.prog (conOf kU0) noLoops 10 188 [.agg [.row [.int .i64, .int .i64, .int .i64] n f, .lit (.int .i64 k), .lit (.int .i64 s), .lit (.int .i64 h)], .lit (.int .i64 L)] =
    T.ret (.agg [SV.fn (Fn.func (nat_lit 224)) [] [SV.rptr [.sl [.int .i64, .int .i64, .int .i64], .int .i64, .int .i64, .int .i64] (nat_lit 1) (fun x => ((n, f), k, s, h, PUnit.unit))
      (nat_lit 0) (nat_lit 0)], SV.fn (Fn.func (nat_lit 225)) [] [SV.rptr [.int .i64] (nat_lit 1) (fun x => (L, PUnit.unit)) (nat_lit 0) (nat_lit 0), SV.rptr [.sl [.int .i64, .int .i64,
      .int .i64], .int .i64, .int .i64, .int .i64] (nat_lit 1) (fun x => ((n, f), k, s, h, PUnit.unit)) (nat_lit 0) (nat_lit 0)], SV.fn (Fn.func (nat_lit 226)) [] [SV.rptr [.int .i64]
      (nat_lit 1) (fun x => (L, PUnit.unit)) (nat_lit 0) (nat_lit 0)], SV.fn (Fn.func (nat_lit 227)) [] [SV.rptr [.sl [.int .i64, .int .i64, .int .i64], .int .i64, .int .i64, .int .i64]
      (nat_lit 1) (fun x => ((n, f), k, s, h, PUnit.unit)) (nat_lit 0) (nat_lit 0), SV.rptr [.int .i64] (nat_lit 1) (fun x => (L, PUnit.unit)) (nat_lit 0) (nat_lit 0)], SV.fn (Fn.func
      (nat_lit 228)) [] [SV.rptr [.sl [.int .i64, .int .i64, .int .i64], .int .i64, .int .i64, .int .i64] (nat_lit 1) (fun x => ((n, f), k, s, h, PUnit.unit)) (nat_lit 0) (nat_lit 0),
      SV.rptr [.int .i64] (nat_lit 1) (fun x => (L, PUnit.unit)) (nat_lit 0) (nat_lit 0)]]) := by kernel_rfl
theorem owners_ok : ConOK P 188 c_owners := con_of (allOK mixed kU0_ok) 10 188 fun args r h => by
  unfold c_owners at h
  split at h
  · rename_i n f k s h' L
    obtain rfl := T.is_ret h
    rw [t_owners]
    rfl
  · exact h.elim
theorem ow0_ok : ConOK P 224 c_ow0 := con_of (allOK mixed kU0_ok) 10 224 fun args r h => by
  unfold c_ow0 at h
  split at h
  · rename_i q x y fd
    have h0 := (lk_eq OcHome ▸ (T.is_ask h).1 : OcHome (fd 0))
    obtain rfl := T.is_ret (T.is_ask h).2
    refine T.all_of_eq (t_ow0 fd q x y) ?_
    simp only [lk_eq]
    have e : owC (fd 0) 0 q x y = (fd 0).2.2.2.1 := ow_0 h0 q _
    rw [e]; rfl
  · exact h.elim
theorem oc_facts {w : Int} {d : DE} {L q x y : Int} (h : OcAsk w d L q x y) : 1 ≤ L ∧ L ≤ 8 ∧ (dN d = 1 ∨ dN d = 2) ∧ (I64 (d.1.2 0).1 ∧ I64 (d.1.2 0).2.1 ∧ I64 (d.1.2 0).2.2.1) ∧ 0 < szR (d.1.2 0) ∧ q ≤ 5000000 ∧ (dK d = 3 → 0 < dS d) := by
  obtain ⟨hd, hk, q0, q1, ix, iy⟩ := h
  obtain ⟨l1, l8, hc, _⟩ := dmE_zero.1 hd
  obtain ⟨d1, fit⟩ := chD_zero.1 hc
  have hn := d1.1
  have r0 := d1.2 0 (by omega)
  have hsz := rr_size r0
  refine ⟨l1, l8, hn, rr_64 r0, by omega, by omega, fun e => ?_⟩
  have := fit_k fit
  have this : dK d = 0 ∨ dK d = 1 ∨ dK d = 2 ∨ (dK d = 3 ∧ 1 ≤ dS d ∧ dS d ≤ 1000) ∨ dK d = 4 := this
  omega
theorem ow1_ok : ConOK P 225 (c_ow1 1) := con_of (allOK mixed kU0_ok) 10 225 fun args r h => by
  unfold c_ow1 at h
  split at h
  · rename_i q x y fl fd
    have h0 := (lk_eq OcAsk ▸ (T.is_ask h).1 : OcAsk 1 (fd 0) (lk nv fl 0) q x y)
    obtain rfl := T.is_ret (T.is_ask h).2
    rw [lk_eq] at h0
    obtain ⟨l1, l8, hn, i0, s0, q5, _⟩ := oc_facts h0
    refine T.all_of_eq (t_ow1 fd fl q x y) ?_
    simp only [lk_eq, tnO0]
    refine ⟨⟨by omega, ?_⟩, i0, ?_, ?_⟩
    · show (0 : Int) < ((dN (fd 0) : Nat) : Int)
      omega
    · show szR ((fd 0).1.2 0) ≠ 0
      omega
    · have e := ow_1 (n := (fd 0).1.1) (f := (fd 0).1.2) (s := (fd 0).2.2.1) (h := (fd 0).2.2.2.1) (L := nv fl 0) h0.2.1 q (ixF x y) (by omega) l8 h0.2.2.1 q5 s0
      exact congrArg (fun v => SV.lit (.int .i64 v)) e
  · exact h.elim
theorem ow3_ok : ConOK P 226 c_ow3 := con_of (allOK mixed kU0_ok) 10 226 fun args r h => by
  unfold c_ow3 at h
  split at h
  · rename_i q x y fl
    have h0 := (T.is_ask h).1
    obtain rfl := T.is_ret (T.is_ask h).2
    refine T.all_of_eq (t_ow2 fl q x y) ?_
    rw [lk_eq] at h0 ⊢
    exact ⟨h0, rfl⟩
  · exact h.elim
theorem ow2_ok : ConOK P 227 (c_ow2 3) := con_of (allOK mixed kU0_ok) 10 227 fun args r h => by
  unfold c_ow2 at h
  split at h
  · rename_i q x y fd fl
    have h0 := (lk_eq OcAsk ▸ (T.is_ask h).1 : OcAsk 3 (fd 0) (lk nv fl 0) q x y)
    obtain rfl := T.is_ret (T.is_ask h).2
    rw [lk_eq] at h0
    obtain ⟨l1, l8, hn, i0, s0, q5, hs⟩ := oc_facts h0
    have hs := hs h0.2.1
    refine T.all_of_eq (t_ow3 fd fl q x y) ?_
    simp only [lk_eq]
    refine ⟨?_, ?_, ?_⟩
    · show dS (fd 0) ≠ 0
      omega
    · show nv fl 0 ≠ 0
      omega
    · have e := ow_3 (n := (fd 0).1.1) (f := (fd 0).1.2) (s := (fd 0).2.2.1) (h := (fd 0).2.2.2.1) (L := nv fl 0) h0.2.1 q (ixF x y) h0.2.2.1 q5 hs
      exact congrArg (fun v => SV.lit (.int .i64 v)) e
  · exact h.elim
theorem ow4_ok : ConOK P 228 (c_ow2 4) := con_of (allOK mixed kU0_ok) 10 228 fun args r h => by
  unfold c_ow2 at h
  split at h
  · rename_i q x y fd fl
    have h0 := (lk_eq OcAsk ▸ (T.is_ask h).1 : OcAsk 4 (fd 0) (lk nv fl 0) q x y)
    obtain rfl := T.is_ret (T.is_ask h).2
    rw [lk_eq] at h0
    obtain ⟨l1, l8, hn, i0, s0, q5, _⟩ := oc_facts h0
    obtain ⟨_, hk4, _, _, ix, iy⟩ := h0
    refine T.all_of_eq (t_ow4 fd fl q x y) ?_
    simp only [lk_eq, tnOf]
    refine ⟨⟨Int.natCast_nonneg _, ?_⟩, ⟨?_, fun i hi => ?_⟩, ?_, ?_⟩
    · show ((dN (fd 0) : Nat) : Int) ≤ 2
      omega
    · show dN (fd 0) ≤ 1000000
      omega
    · have hi : i < dN (fd 0) := hi
      rcases (show i = 0 ∨ i = 1 by omega) with rfl | rfl
      · exact ix
      · exact iy
    · show nv fl 0 ≠ 0
      omega
    · have e := ow_4 (n := (fd 0).1.1) (f := (fd 0).1.2) (s := (fd 0).2.2.1) (h := (fd 0).2.2.2.1) (L := nv fl 0) hk4 q (ixF x y)
      exact congrArg (fun v => SV.lit (.int .i64 v)) e
  · exact h.elim
noncomputable abbrev kA0 : List (Nat × Con) := [(224, c_ow0), (225, c_ow1 1), (226, c_ow3), (227, c_ow2 3), (228, c_ow2 4), (188, c_owners), (28, c_Size), (172, c_DAll)] --%K
theorem kA0_ok : ∀ p ∈ kA0, ConOK P p.1 p.2 := by
  intro p hp
  simp only [kA0, List.mem_cons, List.not_mem_nil, or_false] at hp
  rcases hp with rfl | rfl | rfl | rfl | rfl | rfl | rfl | rfl
  · exact ow0_ok
  · exact ow1_ok
  · exact ow3_ok
  · exact ow2_ok
  · exact ow4_ok
  · exact owners_ok
  · exact Size_ok
  · exact DAll_ok
end Go.RX.Span

/- Domain maps: all positions with their owners: the states. -/
set_option linter.unusedVariables false
set_option linter.unusedSimpArgs false
set_option maxRecDepth 100000
namespace Go.RX.Span
open Go Go.RX
attribute [local irreducible] sx conB

/-- The function that says who owns, by the kind of the map. -/
noncomputable def ofV (k : Int) (d : DE) (L : Int) : SV :=
  if k = 0 then .fn (.func 224) [] [rpD fun _ => d] else if k = 1 then .fn (.func 225) [] [rpL fun _ => (L, ()), rpD fun _ => d] else if k = 2 then .fn (.func 226) [] [rpL fun _ => (L, ())]
  else if k = 3 then .fn (.func 227) [] [rpD fun _ => d, rpL fun _ => (L, ())] else .fn (.func 228) [] [rpD fun _ => d, rpL fun _ => (L, ())]
noncomputable def dOw (d : DE) (L : Int) (p : Nat) : Int := owP d.1.1 d.1.2 d.2.1 d.2.2.1 d.2.2.2.1 L p
def dSz (d : DE) : Nat := szDn d.1.1 d.1.2 d.2.1 d.2.2.1 d.2.2.2.1
def dDm (d : DE) (L : Int) : Int := dmE d.1.1 d.1.2 d.2.1 d.2.2.1 d.2.2.2.1 L
def dCol (d : DE) : Int := ((colN d.1.1 d.1.2 : Nat) : Int)
/-- What is yielded. -/
noncomputable def elA (d : DE) (L : Int) (p : Nat) : List Value := [.int .i64 (p : Int), .int .i64 (dOw d L p)]
def PreA (n0 : Nat) (K : Cons) (d : DE) (L : Int) (c : Nat) (el : Nat → List Value) : Prop := n0 ≤ 4 ∧ K.P = P ∧ dDm d L = 0 ∧ c = dSz d ∧ el = elD d.1.1 d.1.2 ∧ K.n = c ∧ K.el = elA d L
structure XA where
  (K : Cons) (fd : Nat → DE) (fl : Nat → R1) (c : Nat) (el : Nat → List Value)
noncomputable abbrev slA (fd : Nat → DE) (fl : Nat → R1) : List SV := [rpD fd, rpL fl, .ptr 1 0, .ptr 2 0, .ptr 3 0]
noncomputable abbrev memA (K : Cons) (i : Nat) (fv : SV) (C : Int) : Mem := [(0, some (.seq true K i)), (0, some (.cells [yieldV K] 44)), (0, some (.cells [fv] 182)), (0, some (.cells [.lit (.int .i64 C)] 3))]
noncomputable abbrev memA' (K : Cons) (i : Nat) : Mem := [(0, some (.seq false K i)), (0, none), (0, none), (0, none)]
def ColOk (cv : SV) (C : Int) : Prop := cv = .lit (.int .i64 C) ∨ (cv = .ki .i64 1 ∧ C = 1)
noncomputable def gA : Nat → Nat → (Nat → List Value) → Few → T (Ex × Few)
  | n0, c, el, ([.rptr ss 1 fd 0 0, .rptr ss2 1 fl 0 0, .ptr 1 0, .ptr 2 0, .ptr 3 0], [(_, some (.seq true K 0)), (_, some (.cells [.lit (.func (.yield l) ⟨[]⟩ ⟨[]⟩)] t1)), (_, some (.cells [fv] t2)), (_, some (.cells [cv] t3))]) =>
    if e : eqShs ss ssD = true ∧ eqShs ss2 ssL = true then
      .ask (lk PreA n0 K (castEls e.1 fd 0) (lk nv (castEls e.2 fl) 0) c el ∧ fv = ofV (dK (castEls e.1 fd 0)) (castEls e.1 fd 0) (lk nv (castEls e.2 fl) 0) ∧ ColOk cv (lk dCol (castEls e.1 fd 0)) ∧ K.l = l ∧ t1 = 44 ∧ t2 = 182 ∧ t3 = 3)
        (.br (lk okB K 0 c) (.ret (.normal, (slA (castEls e.1 fd) (castEls e.2 fl), memA K c fv (lk dCol (castEls e.1 fd 0))))) (.ret (.ret, (slA (castEls e.1 fd) (castEls e.2 fl), memA' K (lk stopA K 0 c + 1)))))
    else .stuck 2
  | _, _, _, _ => .stuck 1
noncomputable abbrev cdA : Code := rangeOf P 223 1006 --%K
noncomputable abbrev asA : Code := match rangeOf P 223 1006 with | .rangeFunc _ _ a _ => a | _ => .skip --%K
noncomputable abbrev bdA : Code := match rangeOf P 223 1006 with | .rangeFunc _ _ _ b => b | _ => .skip --%K
noncomputable abbrev EA : Env := ⟨P, conOf kA0, scall P (conOf kA0) noLoops 10⟩
end Go.RX.Span

/- Domain maps: all positions with their owners: the walk. -/
set_option linter.unusedVariables false
set_option linter.unusedSimpArgs false
set_option maxRecDepth 100000
namespace Go.RX.Span
open Go Go.RX
attribute [local irreducible] sx conB

set_option maxRecDepth 100000 in
theorem t_A0 (K : Cons) (fd : Nat → DE) (fl : Nat → R1) (i : Nat) (p x y C : Int) : (sxR EA [] 4 #[26, 27] asA bdA [.int .i64 p, .agg #[.int .i64 x, .int .i64 y]] (mkS 38 [1,2,3,4,5] (slA fd fl), memA K i (.fn (.func 224) [] [rpD fun _ => fd 0]) C)).bind (fun r => .ret (r.1, r.2.2)) =
    T.ask (C ≠ (0 : Int)) (.ask (lk OcHome ((fun x => fd (0 : Nat)) (0 : Nat))) (.ask (YldAsk EA.P K.5 K i [.int .i64 p, .int .i64 (lk owC (fd (nat_lit 0)) (0 : Int) (U.quo .i64 p C) x
      y)]) (.br (K.4 i) (.ret (Ex.normal, [(nat_lit 1, some (Blk.seq true K (i.add (nat_lit 1)))), (nat_lit 0, some (Blk.cells [.lit (Value.func (Fn.yield K.5) { toList := [] } { toList
      := [] })] (nat_lit 44))), (nat_lit 0, some (Blk.cells [SV.fn (Fn.func (nat_lit 224)) [] [SV.rptr [.sl [.int .i64, .int .i64, .int .i64], .int .i64, .int .i64, .int .i64] (nat_lit 1)
      (fun x => fd (nat_lit 0)) (nat_lit 0) (nat_lit 0)]] (nat_lit 182))), (nat_lit 0, some (Blk.cells [.lit (.int .i64 C)] (nat_lit 3))), (nat_lit 1, some (Blk.cells [.lit (.int .i64 x),
      .lit (.int .i64 y)] (nat_lit 103)))])) (.ret (Ex.ret, [(nat_lit 1, some (Blk.seq false K (i.add (nat_lit 1)))), (nat_lit 0, some (Blk.cells [.lit (Value.func (Fn.yield K.5) { toList
      := [] } { toList := [] })] (nat_lit 44))), (nat_lit 0, some (Blk.cells [SV.fn (Fn.func (nat_lit 224)) [] [SV.rptr [.sl [.int .i64, .int .i64, .int .i64], .int .i64, .int .i64, .int
      .i64] (nat_lit 1) (fun x => fd (nat_lit 0)) (nat_lit 0) (nat_lit 0)]] (nat_lit 182))), (nat_lit 0, some (Blk.cells [.lit (.int .i64 C)] (nat_lit 3))), (nat_lit 1, some (Blk.cells
      [.lit (.int .i64 x), .lit (.int .i64 y)] (nat_lit 103)))]))))) := by kernel_rfl
set_option maxRecDepth 100000 in
theorem t_A1 (K : Cons) (fd : Nat → DE) (fl : Nat → R1) (i : Nat) (p x y C : Int) : (sxR EA [] 4 #[26, 27] asA bdA [.int .i64 p, .agg #[.int .i64 x, .int .i64 y]] (mkS 38 [1,2,3,4,5] (slA fd fl), memA K i (.fn (.func 225) [] [rpL fun _ => (nv fl 0, ()), rpD fun _ => fd 0]) C)).bind (fun r => .ret (r.1, r.2.2)) =
    T.ask (C ≠ (0 : Int)) (.ask (lk OcAsk (1 : Int) ((fun x => fd (0 : Nat)) (0 : Nat)) (lk nv (fun x => ((fl (0 : Nat)).1, PUnit.unit)) (nat_lit 0)) (U.quo .i64 p C) x y) (.ask (YldAsk
      EA.P K.5 K i [.int .i64 p, .int .i64 (lk owC (fd (nat_lit 0)) (lk nv (fun x => ((fl (0 : Nat)).1, PUnit.unit)) (nat_lit 0)) (U.quo .i64 p C) x y)]) (.br (K.4 i) (.ret (Ex.normal,
      [(nat_lit 1, some (Blk.seq true K (i.add (nat_lit 1)))), (nat_lit 0, some (Blk.cells [.lit (Value.func (Fn.yield K.5) { toList := [] } { toList := [] })] (nat_lit 44))), (nat_lit 0,
      some (Blk.cells [SV.fn (Fn.func (nat_lit 225)) [] [SV.rptr [.int .i64] (nat_lit 1) (fun x => ((fl (0 : Nat)).1, PUnit.unit)) (nat_lit 0) (nat_lit 0), SV.rptr [.sl [.int .i64, .int
      .i64, .int .i64], .int .i64, .int .i64, .int .i64] (nat_lit 1) (fun x => fd (nat_lit 0)) (nat_lit 0) (nat_lit 0)]] (nat_lit 182))), (nat_lit 0, some (Blk.cells [.lit (.int .i64 C)]
      (nat_lit 3))), (nat_lit 1, some (Blk.cells [.lit (.int .i64 x), .lit (.int .i64 y)] (nat_lit 103)))])) (.ret (Ex.ret, [(nat_lit 1, some (Blk.seq false K (i.add (nat_lit 1)))),
      (nat_lit 0, some (Blk.cells [.lit (Value.func (Fn.yield K.5) { toList := [] } { toList := [] })] (nat_lit 44))), (nat_lit 0, some (Blk.cells [SV.fn (Fn.func (nat_lit 225)) []
      [SV.rptr [.int .i64] (nat_lit 1) (fun x => ((fl (0 : Nat)).1, PUnit.unit)) (nat_lit 0) (nat_lit 0), SV.rptr [.sl [.int .i64, .int .i64, .int .i64], .int .i64, .int .i64, .int .i64]
      (nat_lit 1) (fun x => fd (nat_lit 0)) (nat_lit 0) (nat_lit 0)]] (nat_lit 182))), (nat_lit 0, some (Blk.cells [.lit (.int .i64 C)] (nat_lit 3))), (nat_lit 1, some (Blk.cells [.lit
      (.int .i64 x), .lit (.int .i64 y)] (nat_lit 103)))]))))) := by kernel_rfl
set_option maxRecDepth 100000 in
theorem t_A2 (K : Cons) (fd : Nat → DE) (fl : Nat → R1) (i : Nat) (p x y C : Int) : (sxR EA [] 4 #[26, 27] asA bdA [.int .i64 p, .agg #[.int .i64 x, .int .i64 y]] (mkS 38 [1,2,3,4,5] (slA fd fl), memA K i (.fn (.func 226) [] [rpL fun _ => (nv fl 0, ())]) C)).bind (fun r => .ret (r.1, r.2.2)) =
    T.ask (C ≠ (0 : Int)) (.ask (lk nv (fun x => ((fl (0 : Nat)).1, PUnit.unit)) (nat_lit 0) ≠ (0 : Int)) (.ask (YldAsk EA.P K.5 K i [.int .i64 p, .int .i64 (U.rem (U.quo .i64 p C) (lk
      nv (fun x => ((fl (0 : Nat)).1, PUnit.unit)) (nat_lit 0)))]) (.br (K.4 i) (.ret (Ex.normal, [(nat_lit 1, some (Blk.seq true K (i.add (nat_lit 1)))), (nat_lit 0, some (Blk.cells
      [.lit (Value.func (Fn.yield K.5) { toList := [] } { toList := [] })] (nat_lit 44))), (nat_lit 0, some (Blk.cells [SV.fn (Fn.func (nat_lit 226)) [] [SV.rptr [.int .i64] (nat_lit 1)
      (fun x => ((fl (0 : Nat)).1, PUnit.unit)) (nat_lit 0) (nat_lit 0)]] (nat_lit 182))), (nat_lit 0, some (Blk.cells [.lit (.int .i64 C)] (nat_lit 3))), (nat_lit 1, some (Blk.cells
      [.lit (.int .i64 x), .lit (.int .i64 y)] (nat_lit 103)))])) (.ret (Ex.ret, [(nat_lit 1, some (Blk.seq false K (i.add (nat_lit 1)))), (nat_lit 0, some (Blk.cells [.lit (Value.func
      (Fn.yield K.5) { toList := [] } { toList := [] })] (nat_lit 44))), (nat_lit 0, some (Blk.cells [SV.fn (Fn.func (nat_lit 226)) [] [SV.rptr [.int .i64] (nat_lit 1) (fun x => ((fl (0 :
      Nat)).1, PUnit.unit)) (nat_lit 0) (nat_lit 0)]] (nat_lit 182))), (nat_lit 0, some (Blk.cells [.lit (.int .i64 C)] (nat_lit 3))), (nat_lit 1, some (Blk.cells [.lit (.int .i64 x),
      .lit (.int .i64 y)] (nat_lit 103)))]))))) := by kernel_rfl
set_option maxRecDepth 100000 in
theorem t_A3 (K : Cons) (fd : Nat → DE) (fl : Nat → R1) (i : Nat) (p x y C : Int) : (sxR EA [] 4 #[26, 27] asA bdA [.int .i64 p, .agg #[.int .i64 x, .int .i64 y]] (mkS 38 [1,2,3,4,5] (slA fd fl), memA K i (.fn (.func 227) [] [rpD fun _ => fd 0, rpL fun _ => (nv fl 0, ())]) C)).bind (fun r => .ret (r.1, r.2.2)) =
    T.ask (C ≠ (0 : Int)) (.ask (lk OcAsk (3 : Int) ((fun x => fd (0 : Nat)) (0 : Nat)) (lk nv (fun x => ((fl (0 : Nat)).1, PUnit.unit)) (nat_lit 0)) (U.quo .i64 p C) x y) (.ask (YldAsk
      EA.P K.5 K i [.int .i64 p, .int .i64 (lk owC (fd (nat_lit 0)) (lk nv (fun x => ((fl (0 : Nat)).1, PUnit.unit)) (nat_lit 0)) (U.quo .i64 p C) x y)]) (.br (K.4 i) (.ret (Ex.normal,
      [(nat_lit 1, some (Blk.seq true K (i.add (nat_lit 1)))), (nat_lit 0, some (Blk.cells [.lit (Value.func (Fn.yield K.5) { toList := [] } { toList := [] })] (nat_lit 44))), (nat_lit 0,
      some (Blk.cells [SV.fn (Fn.func (nat_lit 227)) [] [SV.rptr [.sl [.int .i64, .int .i64, .int .i64], .int .i64, .int .i64, .int .i64] (nat_lit 1) (fun x => fd (nat_lit 0)) (nat_lit 0)
      (nat_lit 0), SV.rptr [.int .i64] (nat_lit 1) (fun x => ((fl (0 : Nat)).1, PUnit.unit)) (nat_lit 0) (nat_lit 0)]] (nat_lit 182))), (nat_lit 0, some (Blk.cells [.lit (.int .i64 C)]
      (nat_lit 3))), (nat_lit 1, some (Blk.cells [.lit (.int .i64 x), .lit (.int .i64 y)] (nat_lit 103)))])) (.ret (Ex.ret, [(nat_lit 1, some (Blk.seq false K (i.add (nat_lit 1)))),
      (nat_lit 0, some (Blk.cells [.lit (Value.func (Fn.yield K.5) { toList := [] } { toList := [] })] (nat_lit 44))), (nat_lit 0, some (Blk.cells [SV.fn (Fn.func (nat_lit 227)) []
      [SV.rptr [.sl [.int .i64, .int .i64, .int .i64], .int .i64, .int .i64, .int .i64] (nat_lit 1) (fun x => fd (nat_lit 0)) (nat_lit 0) (nat_lit 0), SV.rptr [.int .i64] (nat_lit 1) (fun
      x => ((fl (0 : Nat)).1, PUnit.unit)) (nat_lit 0) (nat_lit 0)]] (nat_lit 182))), (nat_lit 0, some (Blk.cells [.lit (.int .i64 C)] (nat_lit 3))), (nat_lit 1, some (Blk.cells [.lit
      (.int .i64 x), .lit (.int .i64 y)] (nat_lit 103)))]))))) := by kernel_rfl
set_option maxRecDepth 100000 in
theorem t_A4 (K : Cons) (fd : Nat → DE) (fl : Nat → R1) (i : Nat) (p x y C : Int) : (sxR EA [] 4 #[26, 27] asA bdA [.int .i64 p, .agg #[.int .i64 x, .int .i64 y]] (mkS 38 [1,2,3,4,5] (slA fd fl), memA K i (.fn (.func 228) [] [rpD fun _ => fd 0, rpL fun _ => (nv fl 0, ())]) C)).bind (fun r => .ret (r.1, r.2.2)) =
    T.ask (C ≠ (0 : Int)) (.ask (lk OcAsk (4 : Int) ((fun x => fd (0 : Nat)) (0 : Nat)) (lk nv (fun x => ((fl (0 : Nat)).1, PUnit.unit)) (nat_lit 0)) (U.quo .i64 p C) x y) (.ask (YldAsk
      EA.P K.5 K i [.int .i64 p, .int .i64 (lk owC (fd (nat_lit 0)) (lk nv (fun x => ((fl (0 : Nat)).1, PUnit.unit)) (nat_lit 0)) (U.quo .i64 p C) x y)]) (.br (K.4 i) (.ret (Ex.normal,
      [(nat_lit 1, some (Blk.seq true K (i.add (nat_lit 1)))), (nat_lit 0, some (Blk.cells [.lit (Value.func (Fn.yield K.5) { toList := [] } { toList := [] })] (nat_lit 44))), (nat_lit 0,
      some (Blk.cells [SV.fn (Fn.func (nat_lit 228)) [] [SV.rptr [.sl [.int .i64, .int .i64, .int .i64], .int .i64, .int .i64, .int .i64] (nat_lit 1) (fun x => fd (nat_lit 0)) (nat_lit 0)
      (nat_lit 0), SV.rptr [.int .i64] (nat_lit 1) (fun x => ((fl (0 : Nat)).1, PUnit.unit)) (nat_lit 0) (nat_lit 0)]] (nat_lit 182))), (nat_lit 0, some (Blk.cells [.lit (.int .i64 C)]
      (nat_lit 3))), (nat_lit 1, some (Blk.cells [.lit (.int .i64 x), .lit (.int .i64 y)] (nat_lit 103)))])) (.ret (Ex.ret, [(nat_lit 1, some (Blk.seq false K (i.add (nat_lit 1)))),
      (nat_lit 0, some (Blk.cells [.lit (Value.func (Fn.yield K.5) { toList := [] } { toList := [] })] (nat_lit 44))), (nat_lit 0, some (Blk.cells [SV.fn (Fn.func (nat_lit 228)) []
      [SV.rptr [.sl [.int .i64, .int .i64, .int .i64], .int .i64, .int .i64, .int .i64] (nat_lit 1) (fun x => fd (nat_lit 0)) (nat_lit 0) (nat_lit 0), SV.rptr [.int .i64] (nat_lit 1) (fun
      x => ((fl (0 : Nat)).1, PUnit.unit)) (nat_lit 0) (nat_lit 0)]] (nat_lit 182))), (nat_lit 0, some (Blk.cells [.lit (.int .i64 C)] (nat_lit 3))), (nat_lit 1, some (Blk.cells [.lit
      (.int .i64 x), .lit (.int .i64 y)] (nat_lit 103)))]))))) := by kernel_rfl
end Go.RX.Span

/- Domain maps: all positions with their owners: the loop. -/
set_option linter.unusedVariables false
set_option linter.unusedSimpArgs false
set_option maxRecDepth 100000
namespace Go.RX.Span
open Go Go.RX
attribute [local irreducible] sx conB

section
variable {n : Nat} {f : Nat → R3} {k s h : Int}
theorem colN_pos (hc : chD n f k s h = 0) {p : Nat} (hp : p < szDn n f k s h) : 0 < colN n f ∧ colN n f ≤ 2000001 := by
  obtain ⟨d1, _⟩ := chD_zero.1 hc
  have hn := d1.1
  rw [szDn_right hc] at hp
  unfold colN
  by_cases h1 : n = 1
  · rw [if_pos h1]; omega
  · rw [if_neg h1] at hp ⊢
    have e1 := szN_R (d1.2 1 (by omega))
    have := rr_size (d1.2 1 (by omega))
    refine ⟨Nat.pos_of_ne_zero fun h0 => by rw [h0, Nat.mul_zero] at hp; omega, by omega⟩
theorem id_64 (hc : chD n f k s h = 0) {p : Nat} (hp : p < szDn n f k s h) : I64 (idX n f p) ∧ I64 (idY n f p) := by
  obtain ⟨d1, _⟩ := chD_zero.1 hc
  have hn := d1.1
  obtain ⟨_, h2, _⟩ := ix_all hc hp
  obtain ⟨_, _, g1, g2⟩ := hasD_has h2
  refine ⟨has_64 (d1.2 0 (by omega)) g1, ?_⟩
  by_cases h1 : n = 1
  · unfold idY; rw [if_pos h1]; unfold I64; omega
  · exact has_64 (d1.2 1 (by omega)) (g2 (by omega))
end
theorem dSz_bnd {d : DE} {L : Int} (hd : dDm d L = 0) : dSz d ≤ 5000000000000 := by
  have hc := (dmE_zero.1 hd).2.2.1
  have := (dr_prod (chD_zero.1 hc).1).2
  show szDn _ _ _ _ _ ≤ _
  unfold szDn
  rw [szD_right hc]; omega
theorem oc_of {d : DE} {L : Int} (hd : dDm d L = 0) {i : Nat} (hi : i < dSz d) :
    U.quo .i64 (i : Int) (dCol d) = ((i / colN d.1.1 d.1.2 : Nat) : Int) ∧ dCol d ≠ 0 ∧ OcAsk (dK d) d L ((i / colN d.1.1 d.1.2 : Nat) : Int) (idX d.1.1 d.1.2 i) (idY d.1.1 d.1.2 i) ∧ owC d L ((i / colN d.1.1 d.1.2 : Nat) : Int) (idX d.1.1 d.1.2 i) (idY d.1.1 d.1.2 i) = dOw d L i := by
  have hc := (dmE_zero.1 hd).2.2.1
  have hi : i < szDn d.1.1 d.1.2 d.2.1 d.2.2.1 d.2.2.2.1 := hi
  obtain ⟨c1, c2⟩ := colN_pos hc hi
  obtain ⟨r1, r2⟩ := row_lt hc hi
  obtain ⟨i1, i2⟩ := id_64 hc hi
  have hb : szDn d.1.1 d.1.2 d.2.1 d.2.2.1 d.2.2.2.1 ≤ 5000000000000 := dSz_bnd hd
  refine ⟨?_, ?_, ⟨hd, rfl, Int.natCast_nonneg _, r1, i1, i2⟩, rfl⟩
  · unfold dCol
    rw [quo_pos (Int.natCast_nonneg _) (by omega) (by omega)]
    exact (Int.ofNat_tdiv i (colN d.1.1 d.1.2)).symm
  · unfold dCol; omega
theorem ow_none {d : DE} {L q x y : Int} (h : dK d = 0) : owC d 0 q x y = owC d L q x y := (ow_0 h q _).trans (ow_0 h q _).symm
theorem ow_cyc {d : DE} {L q x y : Int} (h : dK d = 2) : U.rem q L = owC d L q x y := ow_2 h q _
theorem rl_ofV (ρ : Ren) (k : Int) (d : DE) (L : Int) : Rl ρ (ofV k d L) (ofV k d L) := by
  unfold ofV
  split
  · exact ⟨rfl, trivial, ⟨rfl, rfl, rfl, sameRowD⟩, trivial⟩
  split
  · exact ⟨rfl, trivial, ⟨rfl, rfl, rfl, row1H fun _ _ => rfl⟩, ⟨rfl, rfl, rfl, sameRowD⟩, trivial⟩
  split
  · exact ⟨rfl, trivial, ⟨rfl, rfl, rfl, row1H fun _ _ => rfl⟩, trivial⟩
  split
  · exact ⟨rfl, trivial, ⟨rfl, rfl, rfl, sameRowD⟩, ⟨rfl, rfl, rfl, row1H fun _ _ => rfl⟩, trivial⟩
  · exact ⟨rfl, trivial, ⟨rfl, rfl, rfl, sameRowD⟩, ⟨rfl, rfl, rfl, row1H fun _ _ => rfl⟩, trivial⟩
noncomputable abbrev mA (q : XA) (i : Nat) : Mem := memA q.K i (ofV (dK (q.fd 0)) (q.fd 0) (nv q.fl 0)) (dCol (q.fd 0))
def ZA (q : XA) (o : Ex × Few) : Prop := (okB q.K 0 q.c = true → o = (.normal, (slA q.fd q.fl, mA q q.c))) ∧ (okB q.K 0 q.c = false → o = (.ret, (slA q.fd q.fl, memA' q.K (lk stopA q.K 0 q.c + 1))))
def PhiA (n0 : Nat) (q : XA) : Prop := PreA n0 q.K (q.fd 0) (nv q.fl 0) q.c q.el
theorem ren4A {k : Nat} (hk : k ≤ 4) : ∀ b, b < k → Ren.of (idR 4) b = some b := renId hk
theorem slA_rl {ρ : Ren} (fd : Nat → DE) (fl : Nat → R1) (h1 : ρ.of 1 = some 1) (h2 : ρ.of 2 = some 2) (h3 : ρ.of 3 = some 3) : RlL ρ (slA fd fl) (slA fd fl) := ⟨⟨rfl, rfl, rfl, sameRowD⟩, ⟨rfl, rfl, rfl, row1H fun _ _ => rfl⟩, ⟨h1, rfl⟩, ⟨h2, rfl⟩, ⟨h3, rfl⟩, trivial⟩
/-- A round's end. -/
theorem endA {n0 : Nat} {q : XA} (hq : PhiA n0 q) {i : Nat} (hi : i < q.c) (hans : ∀ j, j < i → q.K.ans (0 + j) = true) {x y : Int} {g0 g1 g2 g3 g4 : Nat} {fv : SV} (hf : Rl (idR 4) fv (ofV (dK (q.fd 0)) (q.fd 0) (nv q.fl 0))) :
    (q.K.ans i = true → (∀ j, j < i + 1 → q.K.ans (0 + j) = true) ∧ Wk 38 [1,2,3,4,5] n0 (slA q.fd q.fl, [(g0, some (.seq true q.K (i + 1))), (g1, some (.cells [yieldV q.K] 44)), (g2, some (.cells [fv] 182)), (g3, some (.cells [.lit (.int .i64 (dCol (q.fd 0)))] 3)), (g4, some (.cells [.lit (.int .i64 x), .lit (.int .i64 y)] 103))]) (slA q.fd q.fl, mA q (i + 1))) ∧
    (q.K.ans i = false → ∃ s, ZA q (.ret, s) ∧ Wk 38 [1,2,3,4,5] n0 (slA q.fd q.fl, [(g0, some (.seq false q.K (i + 1))), (g1, some (.cells [yieldV q.K] 44)), (g2, some (.cells [fv] 182)), (g3, some (.cells [.lit (.int .i64 (dCol (q.fd 0)))] 3)), (g4, some (.cells [.lit (.int .i64 x), .lit (.int .i64 y)] 103))]) s) := by
  have h0 : n0 ≤ 4 := hq.1
  refine ⟨fun ha => ⟨fun j hj => ?_, ?_⟩, fun ha => ⟨(slA q.fd q.fl, memA' q.K (lk stopA q.K 0 q.c + 1)), ⟨fun h => ?_, fun _ => rfl⟩, ?_⟩⟩
  · rw [Nat.zero_add]
    by_cases e : j = i
    · subst e; exact ha
    · have := hans j (by omega); rwa [Nat.zero_add] at this
  · exact wk_of (idR 4) rfl h0 (ren4A h0) (slA_rl _ _ rfl rfl rfl) ⟨⟨rfl, rfl, rfl, rfl, rfl⟩, ⟨rfl, rfl, trivial⟩, ⟨rfl, hf, trivial⟩, ⟨rfl, rfl, trivial⟩, trivial⟩
  · rw [okB_f hi (by rw [Nat.zero_add]; exact ha)] at h; cases h
  · have hs0 : stopA q.K 0 q.c = i := stopA_eq hi (by rw [Nat.zero_add]; exact ha) hans
    exact wk_of (idR 4) rfl h0 (ren4A h0) (slA_rl _ _ rfl rfl rfl) ⟨⟨rfl, rfl, rfl, rfl, by rw [lk_eq, hs0]⟩, trivial⟩
theorem rangeA : RangeC P cdA (rfew 38 [1,2,3,4,5] gA) := by
  refine range_few (E := EA) (L := []) mixed (envOK (allOK mixed kA0_ok) 10) (g0 := .tmp 25) (ps := #[26, 27]) (assign := asA) (body := bdA) (by kernel_rfl) loopsOK_none loopsOK_none 38 [1,2,3,4,5] (by decide) (X := XA) gA
    (fun _ q => slA q.fd q.fl) (fun _ q i => mA q i) (fun q => q.c) (fun q => q.el) PhiA
    (fun _ q i => ∀ j, j < i → q.K.ans (0 + j) = true) (fun _ q o => ZA q o)
    (fun _ _ => rfl) ?_ ?_ ?_ ?_ ?_
  · intro m0 c0 el0 st r h
    unfold gA at h
    split at h
    · rename_i ss fd ss2 fl e0 K e1 l t1 e2 fv t2 e3 cv t3
      by_cases e : eqShs ss ssD = true ∧ eqShs ss2 ssL = true
      rotate_left
      · rw [dif_neg e] at h; exact h.elim
      rw [dif_pos e] at h
      have es := eqShs_eq _ _ e.1
      subst es
      have es2 := eqShs_eq _ _ e.2
      subst es2
      obtain ⟨hp, hfv, hcv, rfl, rfl, rfl, rfl⟩ := (T.is_ask h).1
      have hh := (T.is_ask h).2
      simp only [lk_eq] at hp hfv hcv hh
      have hfv : fv = ofV (dK (fd 0)) (fd 0) (nv fl 0) := hfv
      subst hfv
      have h0 : m0 ≤ 4 := hp.1
      have hcell : Rl (idR 4) cv (.lit (.int .i64 (dCol (fd 0)))) := by
        rcases hcv with rfl | ⟨rfl, hC⟩
        · exact rfl
        · show Value.int .i64 (dCol (fd 0)) = Value.int .i64 1
          exact congrArg _ hC
      have w : Wk 38 [1,2,3,4,5] m0 (slA fd fl, [(e0, some (.seq true K 0)), (e1, some (.cells [.lit (.func (.yield K.l) ⟨[]⟩ ⟨[]⟩)] 44)), (e2, some (.cells [ofV (dK (fd 0)) (fd 0) (nv fl 0)] 182)), (e3, some (.cells [cv] 3))]) (slA fd fl, mA ⟨K, fd, fl, c0, el0⟩ 0) :=
        wk_of (idR 4) rfl h0 (ren4A h0) (slA_rl _ _ rfl rfl rfl) ⟨⟨rfl, rfl, rfl, rfl, rfl⟩, ⟨rfl, rfl, trivial⟩, ⟨rfl, rl_ofV _ _ _ _, trivial⟩, ⟨rfl, hcell, trivial⟩, trivial⟩
      refine ⟨⟨K, fd, fl, c0, el0⟩, hp, rfl, rfl, w, fun j hj => absurd hj (Nat.not_lt_zero j), fun o ho => ?_⟩
      rcases hh with ⟨he, h⟩ | ⟨he, h⟩ <;> obtain rfl := T.is_ret h
      · exact ho.1 he
      · exact (ho.2 he).trans (by rw [lk_eq]; rfl)
    · exact h.elim
  · intro n0 q i hq hi
    have : q.el = elD _ _ := hq.2.2.2.2.1
    show (q.el i).length = 2
    rw [this]; rfl
  · intro n0 q i hq
    exact hq.1
  · intro n0 q i hq hi hans
    obtain ⟨K, fd, fl, c, el⟩ := q
    have hq' := hq
    obtain ⟨h0, hP, hd, hc, hel, hn, hK⟩ := hq'
    simp only [] at h0 hP hd hc hel hn hK hi
    have ex : el i = [.int .i64 (i : Int), .agg #[.int .i64 (idX (fd 0).1.1 (fd 0).1.2 i), .int .i64 (idY (fd 0).1.1 (fd 0).1.2 i)]] := by rw [hel]; unfold elD; rw [ixD_eq]; rfl
    have hi' : i < dSz (fd 0) := by omega
    obtain ⟨o1, o2, o3, o4⟩ := oc_of hd hi'
    have yk : ∀ v, v = dOw (fd 0) (nv fl 0) i → YldAsk P K.l K i [.int .i64 (i : Int), .int .i64 v] := fun v hv => ⟨hP, rfl, by omega, by rw [hK, hv]; rfl⟩
    have endA' := fun (fv : SV) (hf : fv = ofV (dK (fd 0)) (fd 0) (nv fl 0)) => endA (x := idX (fd 0).1.1 (fd 0).1.2 i) (y := idY (fd 0).1.1 (fd 0).1.2 i) (g0 := 1) (g1 := 0) (g2 := 0) (g3 := 0) (g4 := 1) (fv := fv) hq hi hans (by rw [hf]; exact rl_ofV _ _ _ _)
    have fit := fit_k (chD_zero.1 (dmE_zero.1 hd).2.2.1).2
    have fit : dK (fd 0) = 0 ∨ dK (fd 0) = 1 ∨ dK (fd 0) = 2 ∨ (dK (fd 0) = 3 ∧ _ ∧ _) ∨ dK (fd 0) = 4 := fit
    show ((sxR EA [] 4 #[26, 27] asA bdA (el i) (mkS 38 [1,2,3,4,5] (slA fd fl), memA K i (ofV (dK (fd 0)) (fd 0) (nv fl 0)) (dCol (fd 0)))).bind (fun r => .ret (r.1, r.2.2))).All _
    rw [ex]
    rcases fit with hk | hk | hk | ⟨hk, _⟩ | hk
    · have ev : ofV (dK (fd 0)) (fd 0) (nv fl 0) = .fn (.func 224) [] [rpD fun _ => fd 0] := by unfold ofV; rw [if_pos hk]
      obtain ⟨eN, eR⟩ := endA' _ ev.symm
      rw [ev]
      rw [t_A0]
      simp only [lk_eq, o1]
      exact ⟨o2, hk, yk _ ((ow_none hk).trans o4), eN, eR⟩
    · have ev : ofV (dK (fd 0)) (fd 0) (nv fl 0) = .fn (.func 225) [] [rpL fun _ => (nv fl 0, ()), rpD fun _ => fd 0] := by unfold ofV; rw [if_neg (by omega), if_pos hk]
      obtain ⟨eN, eR⟩ := endA' _ ev.symm
      rw [ev]
      rw [t_A1]
      simp only [lk_eq, o1]
      rw [hk] at o3
      exact ⟨o2, o3, yk _ o4, eN, eR⟩
    · have ev : ofV (dK (fd 0)) (fd 0) (nv fl 0) = .fn (.func 226) [] [rpL fun _ => (nv fl 0, ())] := by unfold ofV; rw [if_neg (by omega), if_neg (by omega), if_pos hk]
      obtain ⟨eN, eR⟩ := endA' _ ev.symm
      rw [ev]
      rw [t_A2]
      simp only [lk_eq, o1]
      exact ⟨o2, (by have := (dmE_zero.1 hd).1; show nv fl 0 ≠ 0; omega), yk _ ((ow_cyc hk).trans o4), eN, eR⟩
    · have ev : ofV (dK (fd 0)) (fd 0) (nv fl 0) = .fn (.func 227) [] [rpD fun _ => fd 0, rpL fun _ => (nv fl 0, ())] := by unfold ofV; rw [if_neg (by omega), if_neg (by omega), if_neg (by omega), if_pos hk]
      obtain ⟨eN, eR⟩ := endA' _ ev.symm
      rw [ev]
      rw [t_A3]
      simp only [lk_eq, o1]
      rw [hk] at o3
      exact ⟨o2, o3, yk _ o4, eN, eR⟩
    · have ev : ofV (dK (fd 0)) (fd 0) (nv fl 0) = .fn (.func 228) [] [rpD fun _ => fd 0, rpL fun _ => (nv fl 0, ())] := by unfold ofV; rw [if_neg (by omega), if_neg (by omega), if_neg (by omega), if_neg (by omega)]
      obtain ⟨eN, eR⟩ := endA' _ ev.symm
      rw [ev]
      rw [t_A4]
      simp only [lk_eq, o1]
      rw [hk] at o3
      exact ⟨o2, o3, yk _ o4, eN, eR⟩
  · intro n0 q hq hans
    have h0 : n0 ≤ 4 := hq.1
    have hall := okB_t.2 hans
    exact ⟨_, ⟨fun _ => rfl, fun h => absurd (hall.symm.trans h) (by decide)⟩, wk_of (idR 4) rfl h0 (ren4A h0) (slA_rl _ _ rfl rfl rfl) ⟨⟨rfl, rfl, rfl, rfl, rfl⟩, ⟨rfl, rfl, trivial⟩, ⟨rfl, rl_ofV _ _ _ _, trivial⟩, ⟨rfl, rfl, trivial⟩, trivial⟩⟩
end Go.RX.Span

/- Domain maps: all positions with their owners: what is yielded. -/
set_option linter.unusedVariables false
set_option linter.unusedSimpArgs false
set_option maxRecDepth 100000
namespace Go.RX.Span
open Go Go.RX
attribute [local irreducible] sx conB

noncomputable abbrev lA : List (Nat × Loops) := [(223, [(1006, .rng 209 sc209 (rfew 38 [1,2,3,4,5] gA))])] --%K
theorem lA_ok : ∀ p ∈ lA, LoopsOK P p.2 (bodyOf P p.1) := by
  intro p hp
  simp only [lA, List.mem_singleton] at hp
  subst hp
  refine loopsOK_ofR (by kernel_rfl) (by kernel_rfl) (fun k g hk => by simp at hk) fun k gf sc g hk => ?_
  simp only [List.mem_singleton, Prod.mk.injEq, LoopC.rng.injEq] at hk
  obtain ⟨rfl, rfl, rfl, rfl⟩ := hk
  exact ⟨sc209_ok, rangeA⟩
def DmAsk (d : DE) (L : Int) : Prop := dDm d L = 0
noncomputable def sc223 : SCon := fun args => match args with
  | [.rptr [.sl [.int .i64, .int .i64, .int .i64], .int .i64, .int .i64, .int .i64] 1 fd 0 0, .rptr [.int .i64] 1 fl 0 0] => .ask (lk DmAsk (fd 0) (lk nv fl 0)) (.ret (lk dSz (fd 0), lk elA (fd 0) (lk nv fl 0)))
  | _ => .stuck 1
noncomputable def c_all2 : Con := fun args => match args with
  | [.agg [.row [.int .i64, .int .i64, .int .i64] n f, .lit (.int .i64 k), .lit (.int .i64 s), .lit (.int .i64 h)], .lit (.int .i64 L)] => .ret (.fn (.func 223) [] [rpD fun _ => ((n, f), k, s, h, ()), rpL fun _ => (L, ())])
  | _ => .stuck 1
set_option maxRecDepth 100000 in
theorem t_all2 (n : Nat) (f : Nat → R3) (k s h L : Int) : conB Go.Proofs.Try.prog (conOf []) noLoops 10 187 [.agg [.row [.int .i64, .int .i64, .int .i64] n f, .lit (.int .i64 k), .lit (.int .i64 s), .lit (.int .i64 h)], .lit (.int .i64 L)] =
    T.ret (SV.fn (Fn.func (nat_lit 223)) [] [SV.rptr [.sl [.int .i64, .int .i64, .int .i64], .int .i64, .int .i64, .int .i64] (nat_lit 1) (fun x => ((n, f), k, s, h, PUnit.unit))
      (nat_lit 0) (nat_lit 0), SV.rptr [.int .i64] (nat_lit 1) (fun x => (L, PUnit.unit)) (nat_lit 0) (nat_lit 0)]) := by kernel_rfl
theorem all2_ok : ConOK P 187 c_all2 := con_of (allOK mixed none_ok) 10 187 fun args r h => by
  unfold c_all2 at h
  split at h
  · rename_i n f k s h' L
    obtain rfl := T.is_ret h
    rw [t_all2]
    rfl
  · exact h.elim
end Go.RX.Span

/- Domain maps: all positions with their owners: the iterator yields what is said. -/
set_option linter.unusedVariables false
set_option linter.unusedSimpArgs false
set_option maxRecDepth 100000
namespace Go.RX.Span
open Go Go.RX
attribute [local irreducible] sx conB

noncomputable abbrev dSz' (d : DE) : Nat := lk szDn d.1.1 d.1.2 d.2.1 d.2.2.1 d.2.2.2.1
/-- The walk behind the choice of the function. -/
noncomputable def tlA (K : Cons) (fd : Nat → DE) (fl : Nat → R1) (fv cv : SV) (g3 : Nat) : T (SV × Mem) :=
  .ask (Row64 (fd 0).1.1 (fd 0).1.2) (.ask (lk PreA 1 K (fd 0) (lk nv fl 0) (dSz' (fd 0)) (lk elD (fd 0).1.1 (fd 0).1.2) ∧ fv = ofV (dK (fd 0)) (fd 0) (lk nv fl 0) ∧ ColOk cv (lk dCol (fd 0)) ∧ K.l = K.l ∧ 44 = 44 ∧ 182 = 182 ∧ 3 = 3)
    (.br (lk okB K 0 (dSz' (fd 0))) (.ret (.tup [], [(1, some (.seq true K (dSz' (fd 0)))), (1, some (.cells [yieldV K] 44)), (2, some (.cells [fv] 182)), (g3, some (.cells [.lit (.int .i64 (lk dCol (fd 0)))] 3))]))
      (.ret (.tup [], [(1, some (.seq false K (lk stopA K 0 (dSz' (fd 0)) + 1))), (1, none), (2, none), (g3, none)]))))
noncomputable def brA (K : Cons) (fd : Nat → DE) (fl : Nat → R1) (fv : SV) : T (SV × Mem) :=
  .br (U.gt (Int.ofNat (fd 0).1.1) 1) (.ask ((0 : Int) ≤ 1 ∧ (1 : Int) < ((fd 0).1.1 : Int)) (.ask (I64 ((fd 0).1.2 (U.toNat 1)).1 ∧ I64 ((fd 0).1.2 (U.toNat 1)).2.1 ∧ I64 ((fd 0).1.2 (U.toNat 1)).2.2.1)
    (tlA K fd fl fv (.lit (.int .i64 (lk size ((fd 0).1.2 (U.toNat 1)).1 ((fd 0).1.2 (U.toNat 1)).2.1 ((fd 0).1.2 (U.toNat 1)).2.2.1))) 3))) (tlA K fd fl fv (.ki .i64 1) 2)
theorem t_223 (K : Cons) (fd : Nat → DE) (fl : Nat → R1) : scall P (conOf kA0) (loopsOf lA) 10 223 [yieldV K, rpD fd, rpL fl] [(0, some (.seq true K 0))] =
    .br (U.eq (dK (fd 0)) 0) (brA K fd fl (.fn (.func 224) [] [rpD fun _ => fd 0])) (.br (U.eq (dK (fd 0)) 1) (brA K fd fl (.fn (.func 225) [] [rpL fun _ => (nv fl 0, ()), rpD fun _ =>
      fd 0])) (.br (U.eq (dK (fd 0)) 2) (brA K fd fl (.fn (.func 226) [] [rpL fun _ => (nv fl 0, ())])) (.br (U.eq (dK (fd 0)) 3) (brA K fd fl (.fn (.func 227) [] [rpD fun _ => fd 0, rpL
      fun _ => (nv fl 0, ())])) (.br (U.eq (dK (fd 0)) 4) (brA K fd fl (.fn (.func 228) [] [rpD fun _ => fd 0, rpL fun _ => (nv fl 0, ())])) (.stuck 41))))) := by kernel_rfl
theorem tl_all {K : Cons} {fd : Nat → DE} {fl : Nat → R1} {fv cv : SV} {g3 : Nat} (hd : dDm (fd 0) (nv fl 0) = 0) (hK : K.P = P) (hn : K.n = dSz (fd 0)) (hel : K.el = elA (fd 0) (nv fl 0)) (hf : fv = ofV (dK (fd 0)) (fd 0) (nv fl 0)) (hc : ColOk cv (dCol (fd 0))) :
    (tlA K fd fl fv cv g3).All fun p => SeqEnd K p.2 := by
  have h64 : Row64 (fd 0).1.1 (fd 0).1.2 := dr_64 (chD_zero.1 (dmE_zero.1 hd).2.2.1).1
  unfold tlA
  simp only [dSz', lk_eq]
  exact ⟨h64, ⟨⟨by decide, hK, hd, rfl, rfl, hn, hel⟩, hf, hc, trivial, trivial, trivial, trivial⟩, fun _ => .inl (by rw [hn]; rfl), fun _ => .inr ⟨_, rfl⟩⟩
theorem br_all {K : Cons} {fd : Nat → DE} {fl : Nat → R1} {fv : SV} (hd : dDm (fd 0) (nv fl 0) = 0) (hK : K.P = P) (hn : K.n = dSz (fd 0)) (hel : K.el = elA (fd 0) (nv fl 0)) (hf : fv = ofV (dK (fd 0)) (fd 0) (nv fl 0)) :
    (brA K fd fl fv).All fun p => SeqEnd K p.2 := by
  obtain ⟨d1, _⟩ := chD_zero.1 (dmE_zero.1 hd).2.2.1
  have hdn : dN (fd 0) = 1 ∨ dN (fd 0) = 2 := d1.1
  unfold brA
  have t1 : U.toNat (1 : Int) = 1 := tn 1
  simp only [lk_eq, t1]
  refine ⟨fun g => ?_, fun g => tl_all hd hK hn hel hf (.inr ⟨rfl, ?_⟩)⟩
  · have g : (1 : Int) < ((dN (fd 0) : Nat) : Int) := U.gt_t.mp g
    refine ⟨⟨by decide, g⟩, dr_64 d1 1 (show 1 < dN (fd 0) by omega), tl_all hd hK hn hel hf (.inl ?_)⟩
    have hr := d1.2 1 (show 1 < dN (fd 0) by omega)
    have e := szN_R hr
    have ec : dCol (fd 0) = szR ((fd 0).1.2 1) := by
      show ((colN (fd 0).1.1 (fd 0).1.2 : Nat) : Int) = _
      have : ¬ dN (fd 0) = 1 := by omega
      exact (congrArg (fun v : Nat => (v : Int)) (if_neg this)).trans e
    exact congrArg (fun v => SV.lit (.int .i64 v)) ec.symm
  · have g : ((dN (fd 0) : Nat) : Int) ≤ 1 := U.gt_f.mp g
    show ((colN (fd 0).1.1 (fd 0).1.2 : Nat) : Int) = 1
    have : dN (fd 0) = 1 := by omega
    exact congrArg (fun v : Nat => (v : Int)) (if_pos this)
theorem sc223_ok : SConOK P 223 sc223 := scon_of (allOKL mixed kA0_ok lA_ok) 10 223 fun args q h K hK hn hel => by
  unfold sc223 at h
  split at h
  · rename_i fd fl
    have hd : dDm (fd 0) (nv fl 0) = 0 := by have := (T.is_ask h).1; simp only [lk_eq] at this; exact this
    obtain rfl := T.is_ret (T.is_ask h).2
    simp only [lk_eq] at hn hel
    refine T.all_of_eq (t_223 K fd fl) ?_
    have fit := fit_k (chD_zero.1 (dmE_zero.1 hd).2.2.1).2
    have fit : dK (fd 0) = 0 ∨ dK (fd 0) = 1 ∨ dK (fd 0) = 2 ∨ (dK (fd 0) = 3 ∧ _ ∧ _) ∨ dK (fd 0) = 4 := fit
    refine ⟨fun g => br_all hd hK hn hel ?_, fun g0 => ⟨fun g => br_all hd hK hn hel ?_, fun g1 => ⟨fun g => br_all hd hK hn hel ?_, fun g2 => ⟨fun g => br_all hd hK hn hel ?_, fun g3 => ⟨fun g => br_all hd hK hn hel ?_, fun g4 => ?_⟩⟩⟩⟩⟩
    · have g := U.eq_t.mp g; unfold ofV; rw [if_pos g]
    · have g := U.eq_t.mp g; unfold ofV; rw [if_neg (by omega), if_pos g]
    · have g := U.eq_t.mp g; unfold ofV; rw [if_neg (by omega), if_neg (by omega), if_pos g]
    · have g := U.eq_t.mp g; unfold ofV; rw [if_neg (by omega), if_neg (by omega), if_neg (by omega), if_pos g]
    · have g := U.eq_t.mp g; unfold ofV; rw [if_neg (by omega), if_neg (by omega), if_neg (by omega), if_neg (by omega)]
    · have a0 := U.eq_f.mp g0; have a1 := U.eq_f.mp g1; have a2 := U.eq_f.mp g2; have a3 := U.eq_f.mp g3; have a4 := U.eq_f.mp g4
      omega
  · exact h.elim
end Go.RX.Span

/- Domain maps: the local parts of all locales: the states. -/
set_option linter.unusedVariables false
set_option linter.unusedSimpArgs false
set_option maxRecDepth 100000
namespace Go.RX.Span
open Go Go.RX
attribute [local irreducible] sx conB

abbrev NF := Nat → Bool × Nat × (Nat → R1)
noncomputable abbrev cdPt : Code := rangeOf P 131 1003 --%K
noncomputable abbrev asPt : Code := match rangeOf P 131 1003 with | .rangeFunc _ _ a _ => a | _ => .skip --%K
noncomputable abbrev bdPt : Code := match rangeOf P 131 1003 with | .rangeFunc _ _ _ b => b | _ => .skip --%K
noncomputable abbrev EPt : Env := ⟨P, conOf [], scall P (conOf []) noLoops 10⟩
noncomputable abbrev memPt (N : Nat) (F : NF) : Mem := [(0, none), (0, some (.nest N [.int .i64] F none 35 3)), (0, some (.cells [.own false 1 N] 134))]
/-- The positions of a locale among the first so many. -/
def pkL (ow : Nat → Int) (i : Nat) (l : Int) : List Nat := (List.range i).filter fun p => decide (ow p = l)
noncomputable def nFd (d : DE) (L : Int) (i : Nat) : NF := fun l => (decide (pkL (dOw d L) i l = []), (pkL (dOw d L) i l).length, rowN (pkL (dOw d L) i l))
/-- The local parts, as rows. -/
noncomputable def paF (d : DE) (L : Int) (l : Nat) : Els [.sl [.int .i64]] := (((partL d.1.1 d.1.2 d.2.1 d.2.2.1 d.2.2.2.1 L l).length, rowN (partL d.1.1 d.1.2 d.2.1 d.2.2.1 d.2.2.2.1 L l)), ())
def PrePt (n0 : Nat) (d : DE) (L : Int) (c : Nat) (el : Nat → List Value) (N : Nat) (F : NF) : Prop := n0 ≤ 3 ∧ dDm d L = 0 ∧ c = dSz d ∧ el = elA d L ∧ N = U.toNat L ∧ c ≤ 5000 ∧ ∀ l, l < N → (F l).1 = true ∧ (F l).2.1 = 0
noncomputable def gPt : Nat → Nat → (Nat → List Value) → Few → T (Ex × Few)
  | n0, c, el, ([.lit (.int .i64 L), .ptr 2 0], [(_, some (.cells [.row [.int .i64, .int .i64, .int .i64] n f, .lit (.int .i64 k), .lit (.int .i64 s), .lit (.int .i64 h)] t0)), (_, some (.nest N [.int .i64] F none t1 t2)), (_, some (.cells [.own false 1 N'] t3))]) =>
    .ask (lk PrePt n0 ((n, f), k, s, h, ()) L c el N F ∧ N' = N ∧ t0 = 49 ∧ t1 = 35 ∧ t2 = 3 ∧ t3 = 134) (.ret (.normal, ([.lit (.int .i64 L), .ptr 2 0], memPt N (lk nFd ((n, f), k, s, h, ()) L c))))
  | _, _, _, _ => .stuck 1
structure XPt where
  (d : DE) (L : Int) (c : Nat) (el : Nat → List Value) (N : Nat) (F : NF)
end Go.RX.Span

/- Domain maps: the local parts of all locales: the walk. -/
set_option linter.unusedVariables false
set_option linter.unusedSimpArgs false
set_option maxRecDepth 100000
namespace Go.RX.Span
open Go Go.RX
attribute [local irreducible] sx conB

set_option maxRecDepth 100000 in
theorem t_Pt (N : Nat) (F : NF) (L p l : Int) : (sxR EPt [] 3 #[13, 14] asPt bdPt [.int .i64 p, .int .i64 l] (mkS 26 [1, 5] [.lit (.int .i64 L), .ptr 2 0], memPt N F)).bind (fun r => .ret (r.1, unf r.2.2)) =
    T.ask ((0 : Int) ≤ l ∧ l < ↑N) (.ask (U.toNat l < N) (.ask (((F (U.toNat l)).2.1 + (1 : Nat)) * nat_lit 8 ≤ nat_lit 140737488351232) (.ask ((0 : Int) ≤ l ∧ l < ↑N) (.ask (U.toNat l
      = U.toNat l) (.ret (Ex.normal, [(nat_lit 0, none), (nat_lit 3, some (Blk.nest N [.int .i64] (U.upd F (U.toNat l) (false, (F (U.toNat l)).2.1.add (nat_lit 1), U.cat (F (U.toNat
      l)).2.1 (F (U.toNat l)).snd.2 fun x => (p, PUnit.unit))) none (nat_lit 35) (nat_lit 3))), (nat_lit 0, some (Blk.cells [SV.own false (nat_lit 1) N] (nat_lit 134))), (nat_lit 1,
      none), (nat_lit 0, some (Blk.cells [.lit (.int .i64 p)] (nat_lit 3))), (nat_lit 1, none)])))))) := by kernel_rfl
theorem pk_s (ow : Nat → Int) (i : Nat) (l : Int) : pkL ow (i + 1) l = pkL ow i l ++ (if ow i = l then [i] else []) := by
  unfold pkL
  rw [List.range_succ, List.filter_append]
  by_cases h : ow i = l <;> simp [h]
theorem pk_len (ow : Nat → Int) (i : Nat) (l : Int) : (pkL ow i l).length ≤ i := Nat.le_trans (List.length_filter_le _ _) (by simp)
def oneR (x : Int) : R1 := (x, ())
theorem rowN_app (l : List Nat) (p : Nat) (x : Int) (hx : x = (p : Int)) : ∀ i, i < l.length + 1 → U.cat l.length (rowN l) (fun _ => oneR x) i = rowN (l ++ [p]) i := fun i hi => by
  refine (U.cat_eq _ _ _ _).trans ?_
  subst hx
  by_cases h : i < l.length
  · rw [if_pos h]; unfold rowN
    rw [List.getD_eq_getElem?_getD, List.getD_eq_getElem?_getD, List.getElem?_append_left h]
  · rw [if_neg h]
    obtain rfl : i = l.length := by omega
    unfold rowN
    rw [List.getD_eq_getElem?_getD, List.getElem?_append_right (Nat.le_refl _), Nat.sub_self]; rfl
theorem nat64 {x : Int} (h : 0 ≤ x) : ((U.toNat x : Nat) : Int) = x := by rw [U.toNat_eq]; omega
theorem rangePt : RangeC P cdPt (rfewN 26 [1, 5] gPt) := by
  refine range_fewN (E := EPt) (L := []) mixed (envOK (allOK mixed none_ok) 10) (g0 := .tmp 12) (ps := #[13, 14]) (assign := asPt) (body := bdPt) (by kernel_rfl) loopsOK_none loopsOK_none 26 [1, 5] (by decide) (X := XPt) gPt
    (fun _ q => [.lit (.int .i64 q.L), .ptr 2 0]) (fun _ q i => memPt q.N (nFd q.d q.L i)) (fun q => q.c) (fun q => q.el) (fun n0 q => PrePt n0 q.d q.L q.c q.el q.N q.F)
    (fun _ _ _ => True) (fun _ q o => o = (.normal, ([.lit (.int .i64 q.L), .ptr 2 0], memPt q.N (nFd q.d q.L q.c))))
    (fun _ _ => rfl) ?_ ?_ ?_ ?_ ?_
  · intro m0 c0 el0 st r h
    unfold gPt at h
    split at h
    · rename_i L e0 n f k s h' t0 e1 N F t1 t2 e2 N' t3
      obtain ⟨hp, rfl, rfl, rfl, rfl, rfl⟩ := (T.is_ask h).1
      obtain rfl := T.is_ret (T.is_ask h).2
      rw [lk_eq] at hp
      have h0 : m0 ≤ 3 := hp.1
      refine ⟨⟨((n, f), k, s, h', ()), L, c0, el0, N', F⟩, hp, rfl, rfl, ?_, trivial, fun o ho => by rw [ho]; simp only [lk_eq]⟩
      refine wk_of (idR 3) rfl h0 (renId h0) ⟨rfl, ⟨rfl, rfl⟩, trivial⟩ ⟨⟨rfl, rfl, rfl, rfl, eqShs_refl _, fun i hi => ?_⟩, ⟨rfl, ⟨rfl, rfl, rfl⟩, trivial⟩, trivial⟩
      obtain ⟨a1, a2⟩ := hp.2.2.2.2.2.2 i hi
      exact ⟨a1, a2, eqShs_refl _, fun j hj => absurd hj (Nat.not_lt_zero j)⟩
    · exact h.elim
  · intro n0 q i hq hi
    have : q.el = elA _ _ := hq.2.2.2.1
    show (q.el i).length = 2
    rw [this]; rfl
  · intro n0 q i hq
    exact hq.1
  · intro n0 q i hq hi _
    obtain ⟨d, L, c, el, N, F⟩ := q
    obtain ⟨h0, hd, hc, hel, hN, h5, _⟩ := hq
    simp only [] at h0 hd hc hel hN h5 hi
    subst hel hN
    obtain ⟨l1, l8, hch, _⟩ := dmE_zero.1 hd
    obtain ⟨o1, o2⟩ := owP_bnd (L := L) hd (show i < szDn d.1.1 d.1.2 d.2.1 d.2.2.1 d.2.2.2.1 from (by omega : i < dSz d))
    have o1 : 0 ≤ dOw d L i := o1
    have o2 : dOw d L i < L := o2
    have eo := nat64 o1
    have eL := nat64 (show 0 ≤ L by omega)
    have lp := pk_len (dOw d L) i ((U.toNat (dOw d L i) : Nat) : Int)
    refine T.all_of_eq (t_Pt (U.toNat L) (nFd d L i) L (i : Int) (dOw d L i)) ?_
    refine ⟨⟨o1, by omega⟩, by omega, ?_, ⟨o1, by omega⟩, rfl, trivial, ?_⟩
    · show ((pkL (dOw d L) i ((U.toNat (dOw d L i) : Nat) : Int)).length + 1) * 8 ≤ 140737488351232
      omega
    · refine wk_of (idR 3) rfl h0 (renId h0) ⟨rfl, ⟨rfl, rfl⟩, trivial⟩ ⟨⟨rfl, rfl, rfl, rfl, eqShs_refl _, fun j hj => ?_⟩, ⟨rfl, ⟨rfl, rfl, rfl⟩, trivial⟩, trivial⟩
      by_cases e : j = U.toNat (dOw d L i)
      · have eu : ∀ v, U.upd (nFd d L i) (U.toNat (dOw d L i)) v j = v := fun v => (U.upd_eq _ _ _ _).trans (if_pos e)
        have ep : pkL (dOw d L) (i + 1) (j : Int) = pkL (dOw d L) i (j : Int) ++ [i] := by rw [pk_s, if_pos (by rw [e, eo])]
        rw [eu]
        subst e
        refine ⟨?_, ?_, eqShs_refl _, fun x hx => ?_⟩
        · show false = decide (pkL (dOw d L) (i + 1) _ = [])
          rw [ep]; simp
        · show (pkL (dOw d L) i _).length + 1 = (pkL (dOw d L) (i + 1) _).length
          rw [ep, List.length_append]; rfl
        · have hx : x < (pkL (dOw d L) (i + 1) ((U.toNat (dOw d L i) : Nat) : Int)).length := hx
          rw [ep, List.length_append] at hx
          have := rowN_app (pkL (dOw d L) i ((U.toNat (dOw d L i) : Nat) : Int)) i (i : Int) rfl x hx
          rw [← ep] at this
          exact this
      · have eu : ∀ v, U.upd (nFd d L i) (U.toNat (dOw d L i)) v j = nFd d L i j := fun v => (U.upd_eq _ _ _ _).trans (if_neg e)
        have ep : pkL (dOw d L) (i + 1) (j : Int) = pkL (dOw d L) i (j : Int) := by rw [pk_s, if_neg (by omega), List.append_nil]
        rw [eu]
        have en : nFd d L (i + 1) j = nFd d L i j := by unfold nFd; rw [ep]
        rw [en]
        exact ⟨rfl, rfl, eqShs_refl _, fun x hx => rfl⟩
  · intro n0 q hq _
    have h0 : n0 ≤ 3 := hq.1
    exact ⟨_, rfl, wk_of (idR 3) rfl h0 (renId h0) ⟨rfl, ⟨rfl, rfl⟩, trivial⟩ ⟨⟨rfl, rfl, rfl, rfl, eqShs_refl _, fun j hj => ⟨rfl, rfl, eqShs_refl _, fun x hx => rfl⟩⟩, ⟨rfl, ⟨rfl, rfl, rfl⟩, trivial⟩, trivial⟩⟩
end Go.RX.Span

/- Domain maps: the local parts of all locales; Part. -/
set_option linter.unusedVariables false
set_option linter.unusedSimpArgs false
set_option maxRecDepth 100000
namespace Go.RX.Span
open Go Go.RX
attribute [local irreducible] sx conB

noncomputable abbrev lPt : List (Nat × Loops) := [(131, [(1003, .rng 223 sc223 (rfewN 26 [1, 5] gPt))])] --%K
theorem lPt_ok : ∀ p ∈ lPt, LoopsOK P p.2 (bodyOf P p.1) := by
  intro p hp
  simp only [lPt, List.mem_singleton] at hp
  subst hp
  refine loopsOK_ofR (by kernel_rfl) (by kernel_rfl) (fun k g hk => by simp at hk) fun k gf sc g hk => ?_
  simp only [List.mem_singleton, Prod.mk.injEq, LoopC.rng.injEq] at hk
  obtain ⟨rfl, rfl, rfl, rfl⟩ := hk
  exact ⟨sc223_ok, rangePt⟩
noncomputable abbrev kPt : List (Nat × Con) := [(187, c_all2)] --%K
theorem kPt_ok : ∀ p ∈ kPt, ConOK P p.1 p.2 := by
  intro p hp
  simp only [kPt, List.mem_singleton] at hp
  subst hp
  exact all2_ok
def PaAsk (n : Nat) (f : Nat → R3) (k s h L : Int) : Prop := dmE n f k s h L = 0 ∧ szDn n f k s h ≤ 5000
noncomputable def c_parts : Con := fun args => match args with
  | [.agg [.row [.int .i64, .int .i64, .int .i64] n f, .lit (.int .i64 k), .lit (.int .i64 s), .lit (.int .i64 h)], .lit (.int .i64 L)] => .ask (lk PaAsk n f k s h L) (.ret (.row [.sl [.int .i64]] (U.toNat L) (lk paF ((n, f), k, s, h, ()) L)))
  | _ => .stuck 1
set_option maxRecDepth 100000 in
theorem t_parts (n : Nat) (f : Nat → R3) (k s h L : Int) : conB Go.Proofs.Try.prog (conOf kPt) (loopsOf lPt) 10 131 [.agg [.row [.int .i64, .int .i64, .int .i64] n f, .lit (.int .i64 k), .lit (.int .i64 s), .lit (.int .i64 h)], .lit (.int .i64 L)] =
    T.ask ((0 : Int) ≤ L ∧ L ≤ L ∧ ↑(nat_lit 24) * L ≤ (281474976710656 : Int) ∧ L ≤ (140737488351232 : Int)) (.ask (lk DmAsk ((fun x => ((n, f), k, s, h, ())) (0 : Nat)) (lk nv (fun x
      => (L, PUnit.unit)) (nat_lit 0))) (.ask ((lk PrePt (nat_lit 0) ((n, f), k, s, h, ()) L (lk dSz ((n, f), k, s, h, PUnit.unit)) (lk dSz ((n, f), k, s, h, PUnit.unit), lk elA ((fun x
      => ((n, f), k, s, h, ())) (0 : Nat)) (lk nv (fun x => (L, PUnit.unit)) (nat_lit 0))).snd (U.toNat L) fun x => (true, (0 : Nat), fun x => zeroEs [.int .i64])) ∧ U.toNat L = U.toNat L
      ∧ (49 : Nat) = (49 : TypeId) ∧ (35 : Nat) = (35 : TypeId) ∧ (3 : Nat) = (3 : TypeId) ∧ (134 : Nat) = (134 : TypeId)) (.ret (.row [.sl [.int .i64]] (U.toNat L) fun i => (((lk nFd
      ((n, f), k, s, h, ()) L (lk dSz ((fun x => ((n, f), k, s, h, ())) (0 : Nat)), lk elA ((fun x => ((n, f), k, s, h, ())) (0 : Nat)) (lk nv (fun x => (L, ())) (0 : Nat))).fst i).2.1,
      (lk nFd ((n, f), k, s, h, ()) L (lk dSz ((fun x => ((n, f), k, s, h, ())) (0 : Nat)), lk elA ((fun x => ((n, f), k, s, h, ())) (0 : Nat)) (lk nv (fun x => (L, ())) (0 : Nat))).fst
      i).snd.2), PUnit.unit))))) := by kernel_rfl
theorem parts_ok : ConOK P 131 c_parts := con_cl (allOKL mixed kPt_ok lPt_ok) 10 131 fun args r hh => by
  unfold c_parts at hh
  split at hh
  · rename_i n f k s h L
    obtain ⟨hd, h5⟩ := (lk_eq PaAsk ▸ (T.is_ask hh).1 : PaAsk n f k s h L)
    obtain rfl := T.is_ret (T.is_ask hh).2
    obtain ⟨l1, l8, _⟩ := dmE_zero.1 hd
    refine T.all_of_eq (t_parts n f k s h L) ?_
    simp only [lk_eq]
    refine ⟨⟨by omega, by omega, ?_, by omega⟩, hd, ⟨⟨by decide, hd, rfl, rfl, rfl, h5, fun l hl => ⟨rfl, rfl⟩⟩, trivial, trivial, trivial, trivial, trivial⟩, rfl, eqShs_refl _, fun i hi => rfl⟩
    show (24 : Int) * L ≤ 281474976710656
    omega
  · exact hh.elim
end Go.RX.Span

/- Domain maps: Part, the awake's contracts. -/
set_option linter.unusedVariables false
set_option linter.unusedSimpArgs false
set_option maxRecDepth 100000
namespace Go.RX.Span
open Go Go.RX
attribute [local irreducible] sx conB

/-- The part of a locale, as a row; its length. -/
noncomputable def ptE (n : Nat) (f : Nat → R3) (k s h L l : Int) : Int := lcE n f k s h L l
noncomputable def ptN (n : Nat) (f : Nat → R3) (k s h L l : Int) : Nat := if lcE n f k s h L l ≠ 0 then 0 else (partL n f k s h L l).length
noncomputable def ptF (n : Nat) (f : Nat → R3) (k s h L l : Int) : Nat → R1 := rowN (partL n f k s h L l)
noncomputable def c_Part : Con := fun args => match args with
  | [.agg [.row [.int .i64, .int .i64, .int .i64] n f, .lit (.int .i64 k), .lit (.int .i64 s), .lit (.int .i64 h)], .lit (.int .i64 L), .lit (.int .i64 l)] => .ask (Row64 n f) (.ret (.tup [.row [.int .i64] (lk ptN n f k s h L l) (lk ptF n f k s h L l), .lit (.int .i64 (lk ptE n f k s h L l))]))
  | _ => .stuck 1
noncomputable abbrev kPp : List (Nat × Con) := [(134, c_located), (129, c_listed), (131, c_parts)] --%K
theorem kPp_ok : ∀ p ∈ kPp, ConOK P p.1 p.2 := by
  intro p hp
  simp only [kPp, List.mem_cons, List.not_mem_nil, or_false] at hp
  rcases hp with rfl | rfl | rfl
  · exact located_ok
  · exact listed_ok
  · exact parts_ok
end Go.RX.Span

/- Domain maps: Part. -/
set_option linter.unusedVariables false
set_option linter.unusedSimpArgs false
set_option maxRecDepth 100000
namespace Go.RX.Span
open Go Go.RX
attribute [local irreducible] sx conB

set_option maxRecDepth 100000 in
theorem t_Part (n : Nat) (f : Nat → R3) (k s h L l : Int) : conB Go.Proofs.Try.prog (conOf kPp) noLoops 10 47 [.agg [.row [.int .i64, .int .i64, .int .i64] n f, .lit (.int .i64 k), .lit (.int .i64 s), .lit (.int .i64 h)], .lit (.int .i64 L), .lit (.int .i64 l)] =
    T.ask (Row64 n f) (.br (U.ne (lk lcE n f k s h L l) (0 : Int)) (.ret (.tup [.lit (.slice none (nat_lit 0) (nat_lit 0)), .lit (.int .i64 (lk lcE n f k s h L l))])) (.ask (lk PaAsk n
      f k s h L) (.ask ((0 : Int) ≤ l ∧ l < ↑(U.toNat L)) (.ret (.tup [.row [.int .i64] (lk paF ((n, f), k, s, h, ()) L (U.toNat l)).fst.1 (lk paF ((n, f), k, s, h, ()) L (U.toNat
      l)).fst.2, .lit (.int .i64 0)]))))) := by kernel_rfl
section
variable {n : Nat} {f : Nat → R3} {k s h L l : Int}
theorem lsE_zero : lsE n f k s h L = 0 ↔ dmE n f k s h L = 0 ∧ szD n f k s h ≤ 5000 := by
  unfold lsE
  by_cases h1 : dmE n f k s h L = 0
  · rw [if_neg (by simp [h1])]
    by_cases h2 : 5000 < szD n f k s h
    · rw [if_pos h2]; exact ⟨fun g => by omega, fun g => by omega⟩
    · rw [if_neg h2]; exact ⟨fun _ => ⟨h1, by omega⟩, fun _ => rfl⟩
  · rw [if_pos h1]; exact ⟨fun g => absurd g h1, fun g => absurd g.1 h1⟩
theorem lcE_zero : lcE n f k s h L l = 0 ↔ lsE n f k s h L = 0 ∧ 0 ≤ l ∧ l < L := by
  unfold lcE
  by_cases h1 : lsE n f k s h L = 0
  · rw [if_neg (by simp [h1])]
    by_cases h2 : l < 0 ∨ L ≤ l
    · rw [if_pos h2]; exact ⟨fun g => by omega, fun g => by omega⟩
    · rw [if_neg h2]; exact ⟨fun _ => ⟨h1, by omega⟩, fun _ => rfl⟩
  · rw [if_pos h1]; exact ⟨fun g => absurd g h1, fun g => absurd g.1 h1⟩
theorem pa_ask (h0 : lsE n f k s h L = 0) : PaAsk n f k s h L := by
  obtain ⟨h1, h2⟩ := lsE_zero.1 h0
  refine ⟨h1, ?_⟩
  unfold szDn; omega
end
theorem Part_ok : ConOK P 47 c_Part := con_cl (allOK mixed kPp_ok) 10 47 fun args r hh => by
  unfold c_Part at hh
  split at hh
  · rename_i n f k s h L l
    have d := (T.is_ask hh).1
    obtain rfl := T.is_ret (T.is_ask hh).2
    refine T.all_of_eq (t_Part n f k s h L l) ?_
    simp only [lk_eq]
    refine ⟨d, fun g => ?_, fun g => ?_⟩
    · have g := U.ne_t.mp g
      have e : ptN n f k s h L l = 0 := by unfold ptN; rw [if_pos g]
      rw [e]
      exact ⟨cl_nil, .inl rfl, rfl⟩
    · have g := U.ne_f.mp g
      obtain ⟨g1, g2, g3⟩ := lcE_zero.1 g
      have e : ptN n f k s h L l = (partL n f k s h L l).length := by unfold ptN; rw [if_neg (by simp [g])]
      have el := nat64 g2
      have eL := nat64 (show 0 ≤ L by omega)
      rw [e]
      refine ⟨pa_ask g1, ⟨g2, by omega⟩, ⟨?_, eqShs_refl _, fun i hi => ?_⟩, .inl (congrArg (fun v => SV.lit (.int .i64 v)) g), rfl⟩
      · show (partL n f k s h L ((U.toNat l : Nat) : Int)).length = _
        rw [el]
      · show rowN (partL n f k s h L ((U.toNat l : Nat) : Int)) i = rowN (partL n f k s h L l) i
        rw [el]
  · exact hh.elim
end Go.RX.Span

/- Domain maps: the example of the laws: contracts. -/
set_option linter.unusedVariables false
set_option linter.unusedSimpArgs false
set_option maxRecDepth 100000
namespace Go.RX.Span
open Go Go.RX
attribute [local irreducible] sx conB

noncomputable abbrev kW0 : List (Nat × Con) := [(47, c_Part), (53, c_Hash), (30, c_Equal)] --%K
theorem kW0_ok : ∀ p ∈ kW0, ConOK P p.1 p.2 := by
  intro p hp
  simp only [kW0, List.mem_cons, List.not_mem_nil, or_false] at hp
  rcases hp with rfl | rfl | rfl
  · exact Part_ok
  · exact Hash_ok
  · exact Equal_ok
end Go.RX.Span

/- Domain maps: the example of the laws. -/
set_option linter.unusedVariables false
set_option linter.unusedSimpArgs false
set_option maxRecDepth 100000
namespace Go.RX.Span
open Go Go.RX
attribute [local irreducible] sx conB

def exD : Nat → R3 := fun _ => ((0 : Int), (9 : Int), (1 : Int), ())
def ex5 : Nat → R1 := fun _ => oneR 5
def exL : List R1 := [oneR 0, oneR 1, oneR 8, oneR 9]
theorem t_awake5 : (conB P (conOf kW0) noLoops 10 42 []).force [true, true] = .ask (Row64 1 exD) (.ask (U.eq (lk ptE 1 exD 3 2 0 4 0) 0 = true) (.ask (lk ptN 1 exD 3 2 0 4 0 ≤ 9223372036854775807)
    (.ask (lk eqR (lk ptN 1 exD 3 2 0 4 0) (lk ptF 1 exD 3 2 0 4 0) 4 (U.nth exL (oneR 0)) = true) (.ask (1 ≤ 1000000 ∧ I64s 1 ex5) (.ret (.lit (.bool (U.eq (lk hashN ex5 1) 222)))))))) := by kernel_rfl
theorem exPt : ptE 1 exD 3 2 0 4 0 = 0 := by decide +kernel
theorem exPl : partL 1 exD 3 2 0 4 0 = [0, 1, 8, 9] := by decide +kernel
theorem exH : hashN ex5 1 = 222 := by decide +kernel
theorem awake5_ok : ConOK P 42 c_true := con_force (allOK mixed kW0_ok) 10 42 fun args r h => by
  unfold c_true at h
  split at h
  · obtain rfl := T.is_ret h
    have eN : ptN 1 exD 3 2 0 4 0 = 4 := by unfold ptN; rw [if_neg (by have : lcE 1 exD 3 2 0 4 0 = 0 := exPt; simp [this]), exPl]; rfl
    refine ⟨_, T.all_of_eq t_awake5 ?_⟩
    simp only [lk_eq]
    refine ⟨fun i hi => (show I64 0 ∧ I64 9 ∧ I64 1 by unfold I64; omega), U.eq_t.mpr exPt, by rw [eN]; decide, eqR_t.2 ⟨eN, fun i hi => ?_⟩, ⟨by decide, fun i hi => (show I64 5 by unfold I64; omega)⟩, .inl ?_⟩
    · rw [eN] at hi
      show (rowN (partL 1 exD 3 2 0 4 0) i).1 = (U.nth exL (oneR 0) i).1
      rw [exPl, U.nth_eq]
      rcases (show i = 0 ∨ i = 1 ∨ i = 2 ∨ i = 3 by omega) with rfl | rfl | rfl | rfl <;> rfl
    · rw [U.eq_t.mpr exH]
  · exact h.elim
end Go.RX.Span

/- Domain maps: Counts, the least and the greatest of a list: the states. -/
set_option linter.unusedVariables false
set_option linter.unusedSimpArgs false
set_option maxRecDepth 100000
namespace Go.RX.Span
open Go Go.RX
attribute [local irreducible] sx conB

abbrev RL := Els [.sl [.int .i64]]
/-- The greatest and the least of the first so many numbers. -/
def mmN (b : Bool) (e : Nat → R1) : Nat → Int
  | 0 => nv e 0
  | j + 1 => if b = true then max (mmN b e j) (nv e j) else min (mmN b e j) (nv e j)
noncomputable def gMx (b : Bool) : Nat → Few → T (Ex × Few)
  | n0, ([.row [.int .i64] n e, .lit (.int .i64 x), .ki .i64 1], []) => .ask (n0 = 0 ∧ 1 ≤ n ∧ n ≤ 100000 ∧ x = lk nv e 0) (.ret (.exit 0, ([.row [.int .i64] n e, .lit (.int .i64 (lk mmN b e n)), .lit (.int .i64 (n : Int))], [])))
  | _, _ => .stuck 1
noncomputable def c_mm (b : Bool) : Con := fun args => match args with
  | [.row [.int .i64] n e] => .ask (1 ≤ n ∧ n ≤ 100000) (.ret (.lit (.int .i64 (lk mmN b e n))))
  | _ => .stuck 1
noncomputable abbrev lMx : List (Nat × Loops) := [(44, [(5, .sum (few 25 [0,3,4] (gMx true)))])] --%K
noncomputable abbrev lMn : List (Nat × Loops) := [(45, [(5, .sum (few 25 [0,3,4] (gMx false)))])] --%K
noncomputable def ctN (n : Nat) (f : Nat → R3) (k s h L : Int) : Nat := if lsE n f k s h L ≠ 0 then 0 else U.toNat L
noncomputable def fewB (n : Nat) (f : Nat → R3) (k s h : Int) (w : Int) : Bool := decide (n ≤ 10 ∧ (szD n f k s h ≤ w ∨ 5000 < szD n f k s h))
noncomputable def c_Few : Con := fun args => match args with
  | [.agg [.row [.int .i64, .int .i64, .int .i64] n f, .lit (.int .i64 k), .lit (.int .i64 s), .lit (.int .i64 h)], .lit (.int .i64 w)] => .ask (Row64 n f) (.ret (.lit (.bool (lk fewB n f k s h w))))
  | _ => .stuck 1
end Go.RX.Span

/- Domain maps: Counts, the least and the greatest of a list: the walks. -/
set_option linter.unusedVariables false
set_option linter.unusedSimpArgs false
set_option maxRecDepth 100000
namespace Go.RX.Span
open Go Go.RX
attribute [local irreducible] sx conB

--%R ↑n = ↑n => ((n : Nat) : Int) = ((n : Nat) : Int)
set_option maxRecDepth 100000 in
theorem t_Mx (n : Nat) (e : Nat → R1) (x i : Int) : (sx E0 [] 0 (loopOf P 44 5) (mkS 25 [0,3,4] [.row [.int .i64] n e, .lit (.int .i64 x), .lit (.int .i64 i)], [])).bind (proj 25 [0,3,4]) =
    T.br (U.lt i (Int.ofNat n)) (.ask ((0 : Int) ≤ i ∧ i < ↑n) (.ret (Ex.normal, [.row [.int .i64] n e, .lit (.int .i64 (U.mm true x (e (U.toNat i)).1)), .lit (.int .i64 (U.add .i64 i
      (1 : Int)))], []))) (.ret (Ex.exit (nat_lit 0), [.row [.int .i64] n e, .lit (.int .i64 x), .lit (.int .i64 i)], [])) := by kernel_rfl
set_option maxRecDepth 100000 in
theorem t_Mn (n : Nat) (e : Nat → R1) (x i : Int) : (sx E0 [] 0 (loopOf P 45 5) (mkS 25 [0,3,4] [.row [.int .i64] n e, .lit (.int .i64 x), .lit (.int .i64 i)], [])).bind (proj 25 [0,3,4]) =
    T.br (U.lt i (Int.ofNat n)) (.ask ((0 : Int) ≤ i ∧ i < ↑n) (.ret (Ex.normal, [.row [.int .i64] n e, .lit (.int .i64 (U.mm false x (e (U.toNat i)).1)), .lit (.int .i64 (U.add .i64 i
      (1 : Int)))], []))) (.ret (Ex.exit (nat_lit 0), [.row [.int .i64] n e, .lit (.int .i64 x), .lit (.int .i64 i)], [])) := by kernel_rfl
set_option maxRecDepth 100000 in
theorem t_Max (n : Nat) (e : Nat → R1) : conB Go.Proofs.Try.prog (conOf []) (loopsOf lMx) 10 44 [.row [.int .i64] n e] =
    T.br (U.lt (Int.ofNat n) (1 : Int)) (.stuck (nat_lit 67)) (.ask ((0 : Int) ≤ (0 : Int) ∧ (0 : Int) < ↑n) (.ask (nat_lit 0 = (0 : Nat) ∧ (1 : Nat) ≤ n ∧ n ≤ (100000 : Nat) ∧ (e
      (U.toNat (0 : Int))).1 = lk nv e (nat_lit 0)) (.ret (.lit (.int .i64 (lk mmN true e n)))))) := by kernel_rfl
set_option maxRecDepth 100000 in
theorem t_Min (n : Nat) (e : Nat → R1) : conB Go.Proofs.Try.prog (conOf []) (loopsOf lMn) 10 45 [.row [.int .i64] n e] =
    T.br (U.lt (Int.ofNat n) (1 : Int)) (.stuck (nat_lit 67)) (.ask ((0 : Int) ≤ (0 : Int) ∧ (0 : Int) < ↑n) (.ask (nat_lit 0 = (0 : Nat) ∧ (1 : Nat) ≤ n ∧ n ≤ (100000 : Nat) ∧ (e
      (U.toNat (0 : Int))).1 = lk nv e (nat_lit 0)) (.ret (.lit (.int .i64 (lk mmN false e n)))))) := by kernel_rfl
set_option maxRecDepth 100000 in
theorem t_Few (n : Nat) (f : Nat → R3) (k s h w : Int) : conB Go.Proofs.Try.prog (conOf kQ0) noLoops 10 39 [.agg [.row [.int .i64, .int .i64, .int .i64] n f, .lit (.int .i64 k), .lit (.int .i64 s), .lit (.int .i64 h)], .lit (.int .i64 w)] =
    T.ask (Row64 n f) (.br (U.le (Int.ofNat n) (10 : Int)) (.br (U.le (lk szD n f k s h) w) (.ret (.lit (.bool true))) (.ret (.lit (.bool (U.gt (lk szD n f k s h) (5000 : Int))))))
      (.ret (.lit (.bool false)))) := by kernel_rfl
end Go.RX.Span

/- Domain maps: Counts, the least and the greatest of a list: the contracts. -/
set_option linter.unusedVariables false
set_option linter.unusedSimpArgs false
set_option maxRecDepth 100000
namespace Go.RX.Span
open Go Go.RX
attribute [local irreducible] sx conB

theorem rowRL {n : Nat} {f g : Nat → RL} (h : ∀ i, i < n → f i = g i) : sameRow n f g := ⟨eqShs_refl _, fun i hi => h i hi⟩
theorem ren1z (ρ : Ren) : ∀ b, b < 0 → ρ.of b = some b := fun b hb => absurd hb (Nat.not_lt_zero b)
theorem isz_s (j : Nat) : U.isz (j + 1) = false := by rw [U.isz_eq]; simp
structure XMx where
  (n : Nat) (e : Nat → R1) (j : Nat)
noncomputable abbrev VMx (b : Bool) (q : XMx) : Few := ([.row [.int .i64] q.n q.e, .lit (.int .i64 (mmN b q.e q.j)), .lit (.int .i64 (q.j : Int))], [])
noncomputable def OMx (b : Bool) (q : XMx) : Ex × Few := (.exit 0, VMx b { q with j := q.n })
def PhiMx (n0 : Nat) (q : XMx) : Prop := n0 = 0 ∧ q.n ≤ 100000 ∧ 1 ≤ q.j ∧ q.j ≤ q.n
theorem mm_step (b : Bool) (e : Nat → R1) (j : Nat) : U.mm b (mmN b e j) (nv e j) = mmN b e (j + 1) := by
  rw [U.mm_eq]
  show _ = if b = true then max (mmN b e j) (nv e j) else min (mmN b e j) (nv e j)
  cases b
  · simp only [Bool.false_eq_true, if_false]; split <;> omega
  · simp only [if_true]; split <;> omega
theorem mm_one (b : Bool) (e : Nat → R1) : mmN b e 1 = nv e 0 := by
  show (if b = true then max (nv e 0) (nv e 0) else min (nv e 0) (nv e 0)) = _
  cases b <;> simp
theorem roundMM (b : Bool) (c : Code) (t : ∀ (n : Nat) (e : Nat → R1) (x i : Int), (sx E0 [] 0 c (mkS 25 [0,3,4] [.row [.int .i64] n e, .lit (.int .i64 x), .lit (.int .i64 i)], [])).bind (proj 25 [0,3,4]) =
    T.br (U.lt i (Int.ofNat n)) (T.ask ((0 : Int) ≤ i ∧ i < (n : Int)) (T.ret (Ex.normal, [SV.row [Sh.int IntKind.i64] n e, SV.lit (Value.int IntKind.i64 (U.mm b x (nv e (U.toNat i)))), SV.lit (Value.int IntKind.i64 (U.add IntKind.i64 i (1 : Int)))], [])))
      (T.ret (Ex.exit (nat_lit 0), [SV.row [Sh.int IntKind.i64] n e, SV.lit (Value.int IntKind.i64 x), SV.lit (Value.int IntKind.i64 i)], [])))
    (n0 : Nat) (q : XMx) (hq : PhiMx n0 q) : ((sx E0 [] n0 c (mkS 25 [0,3,4] (VMx b q).1, (VMx b q).2)).bind (proj 25 [0,3,4])).All fun r => match r.1 with
      | .normal => ∃ q', PhiMx n0 q' ∧ q'.n - q'.j < q.n - q.j ∧ Wk 25 [0,3,4] n0 r.2 (VMx b q') ∧ ∀ o, o = OMx b q' → o = OMx b q
      | e => ∃ s, (e, s) = OMx b q ∧ Wk 25 [0,3,4] n0 r.2 s := by
  obtain ⟨n, e, j⟩ := q
  obtain ⟨h0, hn, h1, hj⟩ := hq
  simp only [] at h0 hn h1 hj
  subst h0
  refine T.all_of_eq (t n e (mmN b e j) (j : Int)) ?_
  have e2 : U.add .i64 (j : Int) 1 = ((j + 1 : Nat) : Int) := by rw [U.add64 (by unfold I64; omega)]; omega
  simp only [tnH, e2, mm_step]
  have w0 : ∀ {vs vs' : List SV}, RlL (idR 0) vs vs' → Wk 25 [0,3,4] 0 (vs, []) (vs', []) := fun h => wk_of (idR 0) rfl (Nat.zero_le _) (fun b hb => by omega) h trivial
  by_cases hlt : j < n
  · exact ⟨fun _ => ⟨⟨by omega, by omega⟩, ⟨n, e, j + 1⟩, ⟨rfl, hn, by simp only []; omega, by simp only []; omega⟩, by simp only []; omega, w0 ⟨⟨rfl, row1H fun _ _ => rfl⟩, rfl, rfl, trivial⟩, fun o ho => ho⟩, fun h => absurd (U.lt_f.mp h) (by simp only [Int.ofNat_eq_natCast]; omega)⟩
  · obtain rfl : j = n := by omega
    exact ⟨fun h => absurd (U.lt_t.mp h) (by simp only [Int.ofNat_eq_natCast]; omega), fun _ => ⟨_, rfl, w0 ⟨⟨rfl, row1H fun _ _ => rfl⟩, rfl, rfl, trivial⟩⟩⟩
theorem enterMx (b : Bool) (n0 : Nat) (st : Few) (r : Ex × Few) (h : (gMx b n0 st).Is r) : ∃ x, PhiMx n0 x ∧ Wk 25 [0,3,4] n0 st (VMx b x) ∧ ∀ o, o = OMx b x → o = r := by
  unfold gMx at h
  split at h
  · rename_i n0 n e x
    obtain ⟨h0, h1, hn, rfl⟩ := (T.is_ask h).1
    obtain rfl := T.is_ret (T.is_ask h).2
    subst h0
    refine ⟨⟨n, e, 1⟩, ⟨rfl, hn, Nat.le_refl _, h1⟩, wk_of (idR 0) rfl (Nat.zero_le _) (fun b hb => by omega) ⟨⟨rfl, row1H fun _ _ => rfl⟩, ?_, rfl, trivial⟩ trivial, fun o ho => by rw [ho]; simp only [lk_eq]; rfl⟩
    show Value.int .i64 (lk nv e 0) = Value.int .i64 (mmN b e 1)
    rw [lk_eq, mm_one]
  · exact h.elim
theorem loopMx : LoopOK P (loopOf P 44 5) (few 25 [0,3,4] (gMx true)) :=
  loop_few (E := E0) mixed E0_ok loopsOK_none 25 [0,3,4] (X := XMx) (gMx true) (fun _ x => VMx true x) PhiMx (fun q => q.n - q.j) (fun _ x o => o = OMx true x) (enterMx true) (roundMM true _ t_Mx)
theorem loopMn : LoopOK P (loopOf P 45 5) (few 25 [0,3,4] (gMx false)) :=
  loop_few (E := E0) mixed E0_ok loopsOK_none 25 [0,3,4] (X := XMx) (gMx false) (fun _ x => VMx false x) PhiMx (fun q => q.n - q.j) (fun _ x o => o = OMx false x) (enterMx false) (roundMM false _ t_Mn)
theorem lMx_ok : ∀ p ∈ lMx, LoopsOK P p.2 (bodyOf P p.1) := by
  intro p hp
  simp only [lMx, List.mem_singleton] at hp
  subst hp
  refine loopsOK_of (by kernel_rfl) fun k g hk => ?_
  simp only [List.mem_singleton, Prod.mk.injEq, LoopC.sum.injEq] at hk
  obtain ⟨rfl, rfl⟩ := hk
  exact loopMx
theorem lMn_ok : ∀ p ∈ lMn, LoopsOK P p.2 (bodyOf P p.1) := by
  intro p hp
  simp only [lMn, List.mem_singleton] at hp
  subst hp
  refine loopsOK_of (by kernel_rfl) fun k g hk => ?_
  simp only [List.mem_singleton, Prod.mk.injEq, LoopC.sum.injEq] at hk
  obtain ⟨rfl, rfl⟩ := hk
  exact loopMn
theorem Max8_ok : ConOK P 44 (c_mm true) := con_of (allOKL mixed none_ok lMx_ok) 10 44 fun args r h => by
  unfold c_mm at h
  split at h
  · rename_i n e
    obtain ⟨h1, hn⟩ := (T.is_ask h).1
    obtain rfl := T.is_ret (T.is_ask h).2
    rw [t_Max]
    simp only [lk_eq, tnO0]
    exact ⟨fun g => absurd (U.lt_t.mp g) (by simp only [Int.ofNat_eq_natCast]; omega), fun _ => ⟨⟨by omega, by omega⟩, ⟨trivial, h1, hn, rfl⟩, rfl⟩⟩
  · exact h.elim
theorem Min8_ok : ConOK P 45 (c_mm false) := con_of (allOKL mixed none_ok lMn_ok) 10 45 fun args r h => by
  unfold c_mm at h
  split at h
  · rename_i n e
    obtain ⟨h1, hn⟩ := (T.is_ask h).1
    obtain rfl := T.is_ret (T.is_ask h).2
    rw [t_Min]
    simp only [lk_eq, tnO0]
    exact ⟨fun g => absurd (U.lt_t.mp g) (by simp only [Int.ofNat_eq_natCast]; omega), fun _ => ⟨⟨by omega, by omega⟩, ⟨trivial, h1, hn, rfl⟩, rfl⟩⟩
  · exact h.elim
theorem Few_ok : ConOK P 39 c_Few := con_of (allOK mixed kQ0_ok) 10 39 fun args r h => by
  unfold c_Few at h
  split at h
  · rename_i n f k s h' w
    have d := (T.is_ask h).1
    obtain rfl := T.is_ret (T.is_ask h).2
    refine T.all_of_eq (t_Few n f k s h' w) ?_
    simp only [lk_eq]
    have key : ∀ x, x = fewB n f k s h' w → SV.lit (.bool x) = SV.lit (.bool (fewB n f k s h' w)) := fun x hx => by rw [hx]
    refine ⟨d, fun g => ⟨fun g2 => key _ ?_, fun g2 => key _ ?_⟩, fun g => key _ ?_⟩
    · have a := U.le_t.mp g; have b := U.le_t.mp g2
      simp only [Int.ofNat_eq_natCast] at a
      exact (decide_eq_true ⟨by omega, .inl b⟩).symm
    · have a := U.le_t.mp g; have b := U.le_f.mp g2
      simp only [Int.ofNat_eq_natCast] at a
      unfold fewB
      rw [Bool.eq_iff_iff, U.gt_t, decide_eq_true_eq]
      constructor
      · intro c; exact ⟨by omega, .inr c⟩
      · rintro ⟨_, c | c⟩ <;> omega
    · have a := U.le_f.mp g
      simp only [Int.ofNat_eq_natCast] at a
      exact (decide_eq_false fun c => by omega).symm
  · exact h.elim
end Go.RX.Span

/- Domain maps: Global, Local: plain; BinarySearch: its loop. -/
set_option linter.unusedVariables false
set_option linter.unusedSimpArgs false
set_option maxRecDepth 100000
namespace Go.RX.Span
open Go Go.RX
attribute [local irreducible] sx conB

section
variable (n : Nat) (f : Nat → R3) (k s h L : Int)
end
end Go.RX.Span

/- Domain maps: Global, Local, BinarySearch: the walks. -/
set_option linter.unusedVariables false
set_option linter.unusedSimpArgs false
set_option maxRecDepth 100000
namespace Go.RX.Span
open Go Go.RX
attribute [local irreducible] sx conB

--%R ↑n = ↑n => ((n : Nat) : Int) = ((n : Nat) : Int)
--%R ↑\((lk\s+bsI\s+n\s+e\s+x)\) => ((\1 : Nat) : Int)
end Go.RX.Span

/- Domain maps: Global, Local, BinarySearch: the contracts. -/
set_option linter.unusedVariables false
set_option linter.unusedSimpArgs false
set_option maxRecDepth 100000
namespace Go.RX.Span
open Go Go.RX
attribute [local irreducible] sx conB

end Go.RX.Span

/- Domain maps: Global, Local. -/
set_option linter.unusedVariables false
set_option linter.unusedSimpArgs false
set_option maxRecDepth 100000
namespace Go.RX.Span
open Go Go.RX
attribute [local irreducible] sx conB

theorem rowN_get {l : List Nat} {i : Nat} (h : i < l.length) : nv (rowN l) i = ((l[i] : Nat) : Int) := by
  show ((l.getD i 0 : Nat) : Int) = _
  rw [List.getD_eq_getElem?_getD, List.getElem?_eq_getElem h]; rfl
section
variable {n : Nat} {f : Nat → R3} {k s h L : Int}
end
end Go.RX.Span

/- Domain maps: how many indices the locales have, in plain Lean. -/
set_option linter.unusedVariables false
set_option linter.unusedSimpArgs false
namespace Go.RX.Span
open Go Go.RX

theorem mm_lo {b : Bool} {e : Nat → R1} {lo hi : Int} : ∀ {n : Nat}, (∀ i, i < n ∨ i = 0 → lo ≤ nv e i ∧ nv e i ≤ hi) → lo ≤ mmN b e n ∧ mmN b e n ≤ hi
  | 0, h => h 0 (.inr rfl)
  | n + 1, h => by
    have ih := mm_lo (b := b) (n := n) (e := e) (lo := lo) (hi := hi) fun i hi => h i (by omega)
    have := h n (by omega)
    show lo ≤ (if b = true then max (mmN b e n) (nv e n) else min (mmN b e n) (nv e n)) ∧ (if b = true then max (mmN b e n) (nv e n) else min (mmN b e n) (nv e n)) ≤ hi
    cases b
    · simp only [Bool.false_eq_true, if_false]; omega
    · simp only [if_true]; omega
section
variable {n : Nat} {f : Nat → R3} {k s h L : Int}
end
end Go.RX.Span

/- Domain maps: the law of balance. -/
set_option linter.unusedVariables false
set_option linter.unusedSimpArgs false
set_option maxRecDepth 100000
namespace Go.RX.Span
open Go Go.RX
attribute [local irreducible] sx conB

section
variable (n : Nat) (f : Nat → R3) (k s h L : Int)
noncomputable def hB (t : T SV) : T SV := .ask (Row64 n f) (.ask (U.not (lk fewB n f k s h 300) = false) (.ask (Row64 n f) (.ask (U.ne (lk dmE n f k s h L) 0 = false) (.ask (Row64 n f) (.ask (U.gt (lk szD n f k s h) 300 = false) (.ask (Row64 n f) (.ask (U.ne (lk lsE n f k s h L) 0 = false) (.ask (U.ne (Int.ofNat (lk ctN n f k s h L)) L = false) t))))))))
noncomputable def eB (b : Bool) (t : T SV) : T SV := .ask (U.ne k 0 = b) t
end
section
variable {n : Nat} {f : Nat → R3} {k s h L : Int} {K : SV → Prop} {t : T SV}
theorem szD_nn (hc : chD n f k s h = 0) : ((szDn n f k s h : Nat) : Int) = szD n f k s h := by
  have := (dr_prod (chD_zero.1 hc).1).1
  unfold szDn
  rw [szD_right hc]; omega
theorem ls_of (hd : dmE n f k s h L = 0) (h3 : szD n f k s h ≤ 300) : lsE n f k s h L = 0 := lsE_zero.2 ⟨hd, by omega⟩
end
end Go.RX.Span

/- Domain maps: the law of inverses: plain facts, the loops' states. -/
set_option linter.unusedVariables false
set_option linter.unusedSimpArgs false
set_option maxRecDepth 100000
namespace Go.RX.Span
open Go Go.RX
attribute [local irreducible] sx conB

section
variable {n : Nat} {f : Nat → R3} {k s h L : Int}
end
noncomputable abbrev boxD (n : Nat) (f : Nat → R3) (k s h : Int) : Nat × Option Blk := (0, some (.cells [.row [.int .i64, .int .i64, .int .i64] n f, .lit (.int .i64 k), .lit (.int .i64 s), .lit (.int .i64 h)] 49))
end Go.RX.Span

/- Domain maps: the pieces: contracts of the small ones. -/
set_option linter.unusedVariables false
set_option linter.unusedSimpArgs false
set_option maxRecDepth 100000
namespace Go.RX.Span
open Go Go.RX
attribute [local irreducible] sx conB

noncomputable def c_Cln : Con := fun args => match args with
  | [.row [.int .i64] n f] => .ask (0 < n ∧ n ≤ 10000) (.ret (.row [.int .i64] n f))
  | _ => .stuck 1
set_option maxRecDepth 100000 in
theorem t_Cln (n : Nat) (f : Nat → R1) : conB P (conOf []) noLoops 10 133 [.row [.int .i64] n f] =
    T.ask ((0 : Nat) < n) (.ask (((0 : Nat) + n) * nat_lit 8 ≤ nat_lit 140737488351232) (.ret (.row [.int .i64] (nat_lit 0 + n) (U.cat (nat_lit 0) (fun x => ((0 : Int), PUnit.unit))
      f)))) := by kernel_rfl
theorem Cln_ok : ConOK P 133 c_Cln := con_cl (allOK mixed none_ok) 10 133 fun args r h => by
  unfold c_Cln at h
  split at h
  · rename_i n f
    obtain ⟨h0, h1⟩ := (T.is_ask h).1
    have h := (T.is_ask h).2
    obtain rfl := T.is_ret h
    rw [t_Cln]
    refine ⟨h0, ?_, Nat.zero_add n, eqShs_refl _, fun i hi => (U.cat_eq _ _ _ _).trans (if_neg (Nat.not_lt_zero _))⟩
    show (0 + n) * 8 ≤ 140737488351232
    omega
  · exact h.elim
noncomputable abbrev kPc : List (Nat × Con) := [(129, c_listed), (131, c_parts), (133, c_Cln)] --%K
theorem kPc_ok : ∀ p ∈ kPc, ConOK P p.1 p.2 := by
  intro p hp
  simp only [kPc, List.mem_cons, List.not_mem_nil, or_false] at hp
  rcases hp with rfl | rfl | rfl
  · exact listed_ok
  · exact parts_ok
  · exact Cln_ok
noncomputable abbrev EPc : Env := ⟨P, conOf kPc, scall P (conOf kPc) noLoops 10⟩
theorem EPc_ok : EnvOK EPc := envOK (allOK mixed kPc_ok) 10
end Go.RX.Span

/- Domain maps: the pieces: plain facts. -/
set_option linter.unusedVariables false
set_option linter.unusedSimpArgs false
set_option maxRecDepth 100000
namespace Go.RX.Span
open Go Go.RX
attribute [local irreducible] sx conB

def cutN (len w c : Nat) : Nat := c * len / w
abbrev RE := Els [.int .i64, .sl [.int .i64]]
def pcS (F : Nat → RL) (w q : Nat) : Nat := cutN (F (q / w)).1.1 w (q % w + 1) - cutN (F (q / w)).1.1 w (q % w)
def pcE (F : Nat → RL) (w q : Nat) : RE := (((q / w : Nat) : Int), (pcS F w q, fun t => (F (q / w)).1.2 (t + cutN (F (q / w)).1.1 w (q % w))), ())
def pcQ (F : Nat → RL) (w Q : Nat) : List Nat := (List.range Q).filter fun q => decide (0 < pcS F w q)
def pcN (F : Nat → RL) (w i c : Int) : Nat := (pcQ F w.toNat (i.toNat * w.toNat + c.toNat)).length
def pcG (F : Nat → RL) (w i c : Int) (j : Nat) : RE := pcE F w.toNat ((pcQ F w.toNat (i.toNat * w.toNat + c.toNat)).getD j 0)
theorem cut_step (len w c : Nat) (hw : 0 < w) : cutN len w c + len / w ≤ cutN len w (c + 1) ∧ cutN len w (c + 1) ≤ cutN len w c + len / w + 1 := by
  unfold cutN
  rw [Nat.add_mul, Nat.one_mul]
  generalize c * len = X
  have a1 := Nat.div_mul_le_self X w
  have a2 := Nat.lt_div_mul_add (a := X) hw
  have b1 := Nat.div_mul_le_self len w
  have b2 := Nat.lt_div_mul_add (a := len) hw
  constructor
  · rw [Nat.le_div_iff_mul_le hw, Nat.add_mul]; omega
  · rw [← Nat.lt_succ_iff, Nat.div_lt_iff_lt_mul hw]
    simp only [Nat.succ_eq_add_one, Nat.add_mul]; omega
theorem cut_top (len w : Nat) (hw : 0 < w) : cutN len w w = len := Nat.mul_div_cancel_left len hw
theorem cut_zero (len w : Nat) : cutN len w 0 = 0 := by unfold cutN; rw [Nat.zero_mul, Nat.zero_div]
theorem cut_le (len w : Nat) (hw : 0 < w) {c : Nat} (hc : c ≤ w) : cutN len w c ≤ len := by
  exact Nat.le_trans (Nat.div_le_div_right (Nat.mul_le_mul_right _ hc)) (Nat.le_of_eq (cut_top len w hw))
theorem cut_mono (len w c : Nat) (hw : 0 < w) : cutN len w c ≤ cutN len w (c + 1) := Nat.le_trans (Nat.le_add_right _ _) (cut_step len w c hw).1
theorem qdiv {i w c : Nat} (hc : c < w) : (i * w + c) / w = i ∧ (i * w + c) % w = c := by
  have hw : 0 < w := by omega
  rw [Nat.mul_comm, Nat.mul_add_div hw, Nat.mul_add_mod, Nat.div_eq_of_lt hc, Nat.mod_eq_of_lt hc]
  exact ⟨rfl, rfl⟩
theorem div_iff {q w l : Nat} (hw : 0 < w) : q / w = l ↔ l * w ≤ q ∧ q < l * w + w := by
  have a1 := Nat.div_mul_le_self q w
  have a2 := Nat.lt_div_mul_add (a := q) hw
  constructor
  · rintro rfl; omega
  · rintro ⟨h1, h2⟩
    have c1 : l ≤ q / w := (Nat.le_div_iff_mul_le hw).2 h1
    have c2 : q / w < l + 1 := (Nat.div_lt_iff_lt_mul hw).2 (by rw [Nat.add_mul]; omega)
    omega
theorem pcQ_s (F : Nat → RL) (w q : Nat) : pcQ F w (q + 1) = pcQ F w q ++ (if 0 < pcS F w q then [q] else []) := by
  unfold pcQ
  rw [List.range_succ, List.filter_append]
  congr 1
  by_cases h : 0 < pcS F w q
  · simp [h]
  · simp [h]
theorem take_filter (p : Nat → Bool) : ∀ (Q j : Nat) (hj : j < ((List.range Q).filter p).length), ((List.range Q).filter p).take j = (List.range (((List.range Q).filter p)[j])).filter p
  | 0, j, hj => by simp at hj
  | Q + 1, j, hj => by
    have e : (List.range (Q + 1)).filter p = (List.range Q).filter p ++ [Q].filter p := by rw [List.range_succ, List.filter_append]
    simp only [e] at hj ⊢
    by_cases h : j < ((List.range Q).filter p).length
    · rw [List.getElem_append_left h, List.take_append_of_le_length (Nat.le_of_lt h)]
      exact take_filter p Q j h
    · by_cases hp : p Q = true
      · have e1 : [Q].filter p = [Q] := by simp [hp]
        simp only [e1] at hj ⊢
        have ej : j = ((List.range Q).filter p).length := by simp at hj; omega
        subst ej
        rw [List.getElem_append_right (Nat.le_refl _)]
        simp
      · have e1 : [Q].filter p = [] := by simp [hp]
        rw [e1] at hj
        simp at hj
        exact absurd hj h
/-- How much of locale l's part the pieces hold; their lengths. -/
def whN (F : Nat → RL) (w l : Nat) (qs : List Nat) : Nat := (qs.map fun q => if q / w = l then pcS F w q else 0).sum
def leL (F : Nat → RL) (w l : Nat) (qs : List Nat) : List Nat := (qs.filter fun q => decide (q / w = l)).map (pcS F w)
section
variable {F : Nat → RL} {w l : Nat}
theorem pcS_in (hw : 0 < w) {q : Nat} (h : q / w = l) : pcS F w q = cutN (F l).1.1 w (q - l * w + 1) - cutN (F l).1.1 w (q - l * w) := by
  have e : q % w = q - l * w := by
    have := Nat.mod_add_div q w
    rw [h] at this
    have e2 : w * l = l * w := Nat.mul_comm _ _
    omega
  unfold pcS
  rw [h, e]
theorem pcS_bnd (hw : 0 < w) {q : Nat} (h : q / w = l) : (F l).1.1 / w ≤ pcS F w q ∧ pcS F w q ≤ (F l).1.1 / w + 1 := by
  rw [pcS_in hw h]
  have := cut_step (F l).1.1 w (q - l * w) hw
  generalize (F l).1.1 / w = z at *
  omega
theorem wh_app (a b : List Nat) : whN F w l (a ++ b) = whN F w l a + whN F w l b := by unfold whN; rw [List.map_append, List.sum_append_nat]
theorem wh_one (q : Nat) : whN F w l [q] = if q / w = l then pcS F w q else 0 := by unfold whN; simp
theorem wh_q (hw : 0 < w) : ∀ q, whN F w l (pcQ F w q) = if q < l * w then 0 else if q < l * w + w then cutN (F l).1.1 w (q - l * w) else (F l).1.1
  | 0 => by
    have e0 : whN F w l (pcQ F w 0) = 0 := rfl
    rw [e0]
    by_cases h : 0 < l * w
    · rw [if_pos h]
    · rw [if_neg h, if_pos (by omega), Nat.zero_sub, cut_zero]
  | q + 1 => by
    have ih := wh_q hw q
    have e : whN F w l (pcQ F w (q + 1)) = whN F w l (pcQ F w q) + (if q / w = l then pcS F w q else 0) := by
      rw [pcQ_s, wh_app]
      congr 1
      by_cases h : 0 < pcS F w q
      · rw [if_pos h, wh_one]
      · rw [if_neg h]
        have : pcS F w q = 0 := by omega
        rw [this]
        show 0 = _
        split <;> rfl
    rw [e, ih]
    by_cases h : q / w = l
    · obtain ⟨h1, h2⟩ := (div_iff hw).1 h
      have st := cut_mono (F l).1.1 w (q - l * w) hw
      rw [if_neg (by omega), if_pos h2, if_pos h, pcS_in hw h, if_neg (by omega)]
      have es : q + 1 - l * w = q - l * w + 1 := by omega
      rw [es]
      by_cases h3 : q + 1 < l * w + w
      · rw [if_pos h3]; omega
      · rw [if_neg h3]
        have ew : q - l * w + 1 = w := by omega
        rw [ew, cut_top _ _ hw]
        rw [ew, cut_top _ _ hw] at st
        omega
    · rw [if_neg h, Nat.add_zero]
      have hn : ¬ (l * w ≤ q ∧ q < l * w + w) := fun g => h ((div_iff hw).2 g)
      by_cases h1 : q < l * w
      · rw [if_pos h1]
        by_cases h2 : q + 1 < l * w
        · rw [if_pos h2]
        · rw [if_neg h2, if_pos (by omega), show q + 1 - l * w = 0 by omega, cut_zero]
      · rw [if_neg h1, if_neg (by omega), if_neg (by omega), if_neg (by omega)]
theorem le_app (a b : List Nat) : leL F w l (a ++ b) = leL F w l a ++ leL F w l b := by unfold leL; rw [List.filter_append, List.map_append]
theorem le_one (q : Nat) : leL F w l [q] = if q / w = l then [pcS F w q] else [] := by
  unfold leL
  by_cases h : q / w = l
  · simp [h]
  · simp [h]
theorem le_mem {x q : Nat} (hw : 0 < w) (h : x ∈ leL F w l (pcQ F w q)) : 0 < x ∧ (F l).1.1 / w ≤ x ∧ x ≤ (F l).1.1 / w + 1 := by
  unfold leL at h
  obtain ⟨y, hy, rfl⟩ := List.mem_map.1 h
  obtain ⟨h1, h2⟩ := List.mem_filter.1 hy
  have h2 : y / w = l := of_decide_eq_true h2
  have h3 : 0 < pcS F w y := of_decide_eq_true (List.mem_filter.1 h1).2
  obtain ⟨b1, b2⟩ := pcS_bnd (F := F) hw h2
  exact ⟨h3, b1, b2⟩
/-- The number of pieces. -/
theorem le_few (hw : 0 < w) (hl : (F l).1.1 < w) : ∀ q, (leL F w l (pcQ F w q)).length = whN F w l (pcQ F w q)
  | 0 => rfl
  | q + 1 => by
    rw [pcQ_s, wh_app, le_app, List.length_append, le_few hw hl q]
    congr 1
    by_cases h : 0 < pcS F w q
    · rw [if_pos h, wh_one, le_one]
      by_cases h2 : q / w = l
      · rw [if_pos h2, if_pos h2]
        obtain ⟨b1, b2⟩ := pcS_bnd (F := F) hw h2
        rw [Nat.div_eq_of_lt hl] at b2
        show 1 = _
        omega
      · rw [if_neg h2, if_neg h2]; rfl
    · rw [if_neg h]; rfl
theorem le_many (hw : 0 < w) (hl : w ≤ (F l).1.1) : ∀ q, (leL F w l (pcQ F w q)).length = if q < l * w then 0 else if q < l * w + w then q - l * w else w
  | 0 => by
    have e0 : (leL F w l (pcQ F w 0)).length = 0 := rfl
    rw [e0]
    split
    · rfl
    · split <;> omega
  | q + 1 => by
    rw [pcQ_s, le_app, List.length_append, le_many hw hl q]
    have hd : 1 ≤ (F l).1.1 / w := (Nat.le_div_iff_mul_le hw).2 (by omega)
    by_cases h : q / w = l
    · obtain ⟨h1, h2⟩ := (div_iff hw).1 h
      obtain ⟨b1, _⟩ := pcS_bnd (F := F) hw h
      have e : (leL F w l (if 0 < pcS F w q then [q] else [])).length = 1 := by rw [if_pos (by omega), le_one, if_pos h]; rfl
      rw [e]
      repeat' split
      all_goals omega
    · have hn : ¬ (l * w ≤ q ∧ q < l * w + w) := fun g => h ((div_iff hw).2 g)
      have e : (leL F w l (if 0 < pcS F w q then [q] else [])).length = 0 := by
        split
        · rw [le_one, if_neg h]; rfl
        · rfl
      rw [e]
      repeat' split
      all_goals omega
theorem le_len (hw : 0 < w) {L : Nat} (hl : l < L) : (leL F w l (pcQ F w (L * w))).length = min w (F l).1.1 := by
  have hlw : l * w + w ≤ L * w := by
    have := Nat.mul_le_mul_right w (show l + 1 ≤ L by omega)
    rw [Nat.add_mul] at this; omega
  by_cases h : (F l).1.1 < w
  · rw [le_few hw h, wh_q hw, if_neg (by omega), if_neg (by omega)]; omega
  · rw [le_many hw (by omega), if_neg (by omega), if_neg (by omega)]; omega
theorem wh_len (hw : 0 < w) {L : Nat} (hl : l < L) : whN F w l (pcQ F w (L * w)) = (F l).1.1 := by
  have hlw : l * w + w ≤ L * w := by
    have := Nat.mul_le_mul_right w (show l + 1 ≤ L by omega)
    rw [Nat.add_mul] at this; omega
  rw [wh_q hw, if_neg (by omega), if_neg (by omega)]
end
end Go.RX.Span

/- Domain maps: Pieces: the loops' states. -/
set_option linter.unusedVariables false
set_option linter.unusedSimpArgs false
set_option maxRecDepth 100000
namespace Go.RX.Span
open Go Go.RX
attribute [local irreducible] sx conB

def LenOK (FN : Nat) (F : Nat → RL) : Prop := FN ≤ 8 ∧ ∀ l, l < FN → (F l).1.1 ≤ 10000
def PrePo (n0 : Nat) (w : Int) (FN : Nat) (F : Nat → RL) : Prop := n0 = 0 ∧ 1 ≤ w ∧ w ≤ 64 ∧ LenOK FN F
def PrePi (n0 : Nat) (w : Int) (u : Bool) (N : Nat) (l : Int) (pN : Nat) (pF : Nat → R1) (FN : Nat) (F : Nat → RL) (i : Int) (G : Nat → RE) : Prop :=
  PrePo n0 w FN F ∧ 0 ≤ i ∧ i < FN ∧ l = i ∧ pN = (F i.toNat).1.1 ∧ pF = (F i.toNat).1.2 ∧ N = pcN F w i 0 ∧ u = U.isz N ∧ ∀ p, p < N → G p = pcG F w i 0 p
noncomputable abbrev slPi (w : Int) (u : Bool) (N : Nat) (l : Int) (pN : Nat) (pF : Nat → R1) (FN : Nat) (F : Nat → RL) (i c : Int) : List SV := [.lit (.int .i64 w), .own u 1 N, .lit (.int .i64 l), .row [.int .i64] pN pF, .row [.sl [.int .i64]] FN F, .lit (.int .i64 (FN : Int)), .lit (.int .i64 i), .lit (.int .i64 w), .lit (.int .i64 c)]
noncomputable abbrev slPo (w : Int) (u : Bool) (N : Nat) (FN : Nat) (F : Nat → RL) (i : Int) : List SV := [.lit (.int .i64 w), .own u 1 N, .row [.sl [.int .i64]] FN F, .lit (.int .i64 (FN : Int)), .lit (.int .i64 i)]
noncomputable abbrev memPc (u : Bool) (N : Nat) (G : Nat → RE) : Mem := [(0, none), (0, some (.row u N [.int .i64, .sl [.int .i64]] G 61))]
noncomputable def gPi : Nat → Few → T (Ex × Few)
  | n0, ([.lit (.int .i64 w), .own u b N, .lit (.int .i64 l), .row [.int .i64] pN pF, .row [.sl [.int .i64]] FN F, .lit (.int .i64 FN'), .lit (.int .i64 i), .lit (.int .i64 w'), .ki .i64 0], [(_, none), (_, some (.row u' N' [.int .i64, .sl [.int .i64]] G t))]) =>
    .ask (lk PrePi n0 w u N l pN pF FN F i G ∧ b = 1 ∧ FN' = (FN : Int) ∧ w' = w ∧ u' = u ∧ N' = N ∧ t = 61)
      (.ret (.exit 2, (slPi w (U.isz (lk pcN F w i w)) (lk pcN F w i w) l pN pF FN F i w, memPc (U.isz (lk pcN F w i w)) (lk pcN F w i w) (lk pcG F w i w))))
  | _, _ => .stuck 1
noncomputable def gPo : Nat → Few → T (Ex × Few)
  | n0, ([.lit (.int .i64 w), .lit (.slice none 0 0), .row [.sl [.int .i64]] FN F, .lit (.int .i64 FN'), .ki .i64 0], [_]) =>
    .ask (lk PrePo n0 w FN F ∧ FN' = (FN : Int))
      (.ret (.exit 0, (slPo w (U.isz (lk pcN F w (FN : Int) 0)) (lk pcN F w (FN : Int) 0) FN F (FN : Int), memPc (U.isz (lk pcN F w (FN : Int) 0)) (lk pcN F w (FN : Int) 0) (lk pcG F w (FN : Int) 0))))
  | _, _ => .stuck 1
noncomputable abbrev LPi : Loops := [(11, .sum (few 67 [2,9,10,11,28,29,30,35,36] gPi))]
noncomputable abbrev lPc : List (Nat × Loops) := [(46, [(11, .sum (few 67 [2,9,10,11,28,29,30,35,36] gPi)), (8, .sum (few 67 [2,9,28,29,30] gPo))])] --%K
/-- The pieces of all parts. -/
noncomputable def pnN (n : Nat) (f : Nat → R3) (k s h L w : Int) : Nat := pcN (paF ((n, f), k, s, h, ()) L) w L 0
noncomputable def pnF (n : Nat) (f : Nat → R3) (k s h L w : Int) : Nat → RE := pcG (paF ((n, f), k, s, h, ()) L) w L 0
def PnAsk (n : Nat) (f : Nat → R3) (k s h L w : Int) : Prop := Row64 n f ∧ lsE n f k s h L = 0 ∧ 1 ≤ w ∧ w ≤ 64
noncomputable def c_Pieces : Con := fun args => match args with
  | [.agg [.row [.int .i64, .int .i64, .int .i64] n f, .lit (.int .i64 k), .lit (.int .i64 s), .lit (.int .i64 h)], .lit (.int .i64 L), .lit (.int .i64 w)] => .ask (lk PnAsk n f k s h L w) (.ret (.tup [.row [.int .i64, .sl [.int .i64]] (lk pnN n f k s h L w) (lk pnF n f k s h L w), .lit (.int .i64 0)]))
  | _ => .stuck 1
end Go.RX.Span

/- Domain maps: Pieces: the walks. -/
set_option linter.unusedVariables false
set_option linter.unusedSimpArgs false
set_option maxRecDepth 100000
namespace Go.RX.Span
open Go Go.RX
attribute [local irreducible] sx conB

--%R i < ↑FN => i < ((FN : Nat) : Int)
--%R ↑FN = ↑FN => ((FN : Nat) : Int) = ((FN : Nat) : Int)
--%R ≤ ↑pN => ≤ ((pN : Nat) : Int)
set_option maxRecDepth 100000 in
theorem t_Pi (w : Int) (u : Bool) (N : Nat) (l : Int) (pN : Nat) (pF : Nat → R1) (FN : Nat) (F : Nat → RL) (i c : Int) (G : Nat → RE) : (sx EPc [] 0 (loopOf P 46 11) (mkS 67 [2,9,10,11,28,29,30,35,36] (slPi w u N l pN pF FN F i c), memPc u N G)).bind (proj 67 [2,9,10,11,28,29,30,35,36]) =
    T.br (U.lt c w) (.ask (w ≠ (0 : Int)) (.ask (w ≠ (0 : Int)) (.ask ((0 : Int) ≤ U.quo .i64 (U.mul .i64 c (Int.ofNat pN)) w ∧ U.quo .i64 (U.mul .i64 c (Int.ofNat pN)) w ≤ U.quo .i64
      (U.mul .i64 (U.add .i64 c (1 : Int)) (Int.ofNat pN)) w ∧ U.quo .i64 (U.mul .i64 (U.add .i64 c (1 : Int)) (Int.ofNat pN)) w ≤ ((pN : Nat) : Int)) (.br (U.gt (Int.ofNat (U.nsub
      (U.toNat (U.quo .i64 (U.mul .i64 (U.add .i64 c (1 : Int)) (Int.ofNat pN)) w)) (U.toNat (U.quo .i64 (U.mul .i64 c (Int.ofNat pN)) w)))) (0 : Int)) (.ask ((0 : Nat) < U.nsub (U.toNat
      (U.quo .i64 (U.mul .i64 (U.add .i64 c (1 : Int)) (Int.ofNat pN)) w)) (U.toNat (U.quo .i64 (U.mul .i64 c (Int.ofNat pN)) w)) ∧ U.nsub (U.toNat (U.quo .i64 (U.mul .i64 (U.add .i64 c
      (1 : Int)) (Int.ofNat pN)) w)) (U.toNat (U.quo .i64 (U.mul .i64 c (Int.ofNat pN)) w)) ≤ (10000 : Nat)) (.ask ((N + (1 : Nat)) * nat_lit 32 ≤ nat_lit 140737488351232) (.ret
      (Ex.normal, [.lit (.int .i64 w), SV.own false (nat_lit 3) (N.add (nat_lit 1)), .lit (.int .i64 l), .row [.int .i64] pN pF, .row [.sl [.int .i64]] FN F, .lit (.int .i64 (Int.ofNat
      FN)), .lit (.int .i64 i), .lit (.int .i64 w), .lit (.int .i64 (U.add .i64 c (1 : Int)))], [(nat_lit 0, none), (nat_lit 1, none), (nat_lit 0, some (Blk.cells [.lit (.int .i64 l),
      .row [.int .i64] (U.nsub (U.toNat (U.quo .i64 (U.mul .i64 (U.add .i64 c (1 : Int)) (Int.ofNat pN)) w)) (U.toNat (U.quo .i64 (U.mul .i64 c (Int.ofNat pN)) w))) fun i => pF (i +
      U.toNat (U.quo .i64 (U.mul .i64 c (Int.ofNat pN)) w))] (nat_lit 61))), (nat_lit 0, some (Blk.row false (N.add (nat_lit 1)) [.int .i64, .sl [.int .i64]] (U.cat N G fun x => (l,
      (U.nsub (U.toNat (U.quo .i64 (U.mul .i64 (U.add .i64 c (1 : Int)) (Int.ofNat pN)) w)) (U.toNat (U.quo .i64 (U.mul .i64 c (Int.ofNat pN)) w)), fun i => pF (i + U.toNat (U.quo .i64
      (U.mul .i64 c (Int.ofNat pN)) w))), PUnit.unit)) (nat_lit 61)))])))) (.ret (Ex.normal, [.lit (.int .i64 w), SV.own u (nat_lit 1) N, .lit (.int .i64 l), .row [.int .i64] pN pF, .row
      [.sl [.int .i64]] FN F, .lit (.int .i64 (Int.ofNat FN)), .lit (.int .i64 i), .lit (.int .i64 w), .lit (.int .i64 (U.add .i64 c (1 : Int)))], [(nat_lit 0, none), (nat_lit 0, some
      (Blk.row u N [.int .i64, .sl [.int .i64]] G (nat_lit 61)))])))))) (.ret (Ex.exit (nat_lit 2), [.lit (.int .i64 w), SV.own u (nat_lit 1) N, .lit (.int .i64 l), .row [.int .i64] pN
      pF, .row [.sl [.int .i64]] FN F, .lit (.int .i64 (Int.ofNat FN)), .lit (.int .i64 i), .lit (.int .i64 w), .lit (.int .i64 c)], [(nat_lit 0, none), (nat_lit 0, some (Blk.row u N
      [.int .i64, .sl [.int .i64]] G (nat_lit 61)))])) := by kernel_rfl
set_option maxRecDepth 100000 in
theorem t_Po (w : Int) (u : Bool) (N : Nat) (FN : Nat) (F : Nat → RL) (i : Int) (G : Nat → RE) : (sx EPc LPi 0 (loopOf P 46 8) (mkS 67 [2,9,28,29,30] (slPo w u N FN F i), memPc u N G)).bind (proj 67 [2,9,28,29,30]) =
    T.br (U.lt i (Int.ofNat FN)) (.ask ((0 : Int) ≤ i ∧ i < ((FN : Nat) : Int)) (.ask (lk PrePi (0 : Nat) w u N i (F (U.toNat i)).fst.1 (F (U.toNat i)).fst.snd FN F i G ∧ (1 : Nat) = (1
      : Nat) ∧ ((FN : Nat) : Int) = ((FN : Nat) : Int) ∧ w = w ∧ u = u ∧ N = N ∧ (61 : TypeId) = (61 : TypeId)) (.ret (Ex.normal, [.lit (.int .i64 w), SV.own (U.isz (lk pcN F w i w))
      (nat_lit 1) (lk pcN F w i w), .row [.sl [.int .i64]] FN F, .lit (.int .i64 (Int.ofNat FN)), .lit (.int .i64 (U.add .i64 i (1 : Int)))], [(nat_lit 1, none), (nat_lit 1, some (Blk.row
      (U.isz (lk pcN F w i w)) (lk pcN F w i w) [.int .i64, .sl [.int .i64]] (lk pcG F w i w) (nat_lit 61)))])))) (.ret (Ex.exit (nat_lit 0), [.lit (.int .i64 w), SV.own u (nat_lit 1) N,
      .row [.sl [.int .i64]] FN F, .lit (.int .i64 (Int.ofNat FN)), .lit (.int .i64 i)], [(nat_lit 0, none), (nat_lit 0, some (Blk.row u N [.int .i64, .sl [.int .i64]] G (nat_lit 61)))])) := by kernel_rfl
end Go.RX.Span

/- Domain maps: Pieces. -/
set_option linter.unusedVariables false
set_option linter.unusedSimpArgs false
set_option maxRecDepth 100000
namespace Go.RX.Span
open Go Go.RX
attribute [local irreducible] sx conB

theorem add1p {j : Nat} (h : j ≤ 1000000) : U.add .i64 (j : Int) 1 = ((j + 1 : Nat) : Int) := by rw [U.add64 (by unfold I64; omega)]; omega
theorem quo_cut {len W C : Nat} (hC : C ≤ 64) (hl : len ≤ 10000) (hw : 0 < W) : U.quo .i64 (U.mul .i64 (C : Int) (Int.ofNat len)) (W : Int) = ((cutN len W C : Nat) : Int) := by
  have hb : C * len ≤ 64 * 10000 := Nat.mul_le_mul hC hl
  have e : (C : Int) * Int.ofNat len = ((C * len : Nat) : Int) := (Int.natCast_mul C len).symm
  rw [U.mul64 (by rw [e]; unfold I64; omega), e, quo_pos (by omega) (by omega) (by omega), Int.tdiv_eq_ediv_of_nonneg (by omega)]
  exact (Int.natCast_ediv _ _).symm
section
variable {F : Nat → RL} {W I C : Nat}
theorem pcS_at (hC : C < W) : pcS F W (I * W + C) = cutN (F I).1.1 W (C + 1) - cutN (F I).1.1 W C := by
  obtain ⟨e1, e2⟩ := qdiv (i := I) hC
  unfold pcS; rw [e1, e2]
theorem pcE_at (hC : C < W) : pcE F W (I * W + C) = ((I : Int), (cutN (F I).1.1 W (C + 1) - cutN (F I).1.1 W C, fun t => (F I).1.2 (t + cutN (F I).1.1 W C)), ()) := by
  obtain ⟨e1, e2⟩ := qdiv (i := I) hC
  unfold pcE; rw [pcS_at hC, e1, e2]; rfl
theorem pcN_le (Q : Nat) : (pcQ F W Q).length ≤ Q := by
  unfold pcQ; exact Nat.le_trans (List.length_filter_le _ _) (by simp)
theorem pc_yes (hC : C < W) (hp : 0 < cutN (F I).1.1 W (C + 1) - cutN (F I).1.1 W C) : pcN F W I ((C + 1 : Nat) : Int) = pcN F W I C + 1 ∧ (∀ j, j < pcN F W I C → pcG F W I ((C + 1 : Nat) : Int) j = pcG F W I C j) ∧ pcG F W I ((C + 1 : Nat) : Int) (pcN F W I C) = pcE F W (I * W + C) := by
  have e : pcQ F W (I * W + (C + 1)) = pcQ F W (I * W + C) ++ [I * W + C] := by
    rw [← Nat.add_assoc, pcQ_s, if_pos (by rw [pcS_at hC]; exact hp)]
  refine ⟨?_, fun j hj => ?_, ?_⟩
  · show (pcQ F W (I * W + (C + 1))).length = (pcQ F W (I * W + C)).length + 1
    rw [e]; simp
  · show pcE F W ((pcQ F W (I * W + (C + 1))).getD j 0) = pcE F W ((pcQ F W (I * W + C)).getD j 0)
    have hj : j < (pcQ F W (I * W + C)).length := hj
    rw [e, List.getD_eq_getElem?_getD, List.getD_eq_getElem?_getD, List.getElem?_append_left hj]
  · show pcE F W ((pcQ F W (I * W + (C + 1))).getD (pcQ F W (I * W + C)).length 0) = _
    rw [e, List.getD_eq_getElem?_getD, List.getElem?_append_right (Nat.le_refl _), Nat.sub_self]; rfl
theorem pc_no (hC : C < W) (hp : ¬ 0 < cutN (F I).1.1 W (C + 1) - cutN (F I).1.1 W C) : pcN F W I ((C + 1 : Nat) : Int) = pcN F W I C ∧ pcG F W I ((C + 1 : Nat) : Int) = pcG F W I C := by
  have e : pcQ F W (I * W + (C + 1)) = pcQ F W (I * W + C) := by
    rw [← Nat.add_assoc, pcQ_s, if_neg (by rw [pcS_at hC]; exact hp), List.append_nil]
  refine ⟨?_, funext fun j => ?_⟩
  · show (pcQ F W (I * W + (C + 1))).length = _
    rw [e]; rfl
  · show pcE F W ((pcQ F W (I * W + (C + 1))).getD j 0) = _
    rw [e]; rfl
theorem pc_next : pcN F W I (W : Int) = pcN F W ((I + 1 : Nat) : Int) 0 ∧ pcG F W I (W : Int) = pcG F W ((I + 1 : Nat) : Int) 0 := by
  have e : I * W + W = (I + 1) * W + 0 := by rw [Nat.add_mul]; omega
  constructor
  · show (pcQ F W (I * W + W)).length = (pcQ F W ((I + 1) * W + 0)).length
    rw [e]
  · refine funext fun j => ?_
    show pcE F W ((pcQ F W (I * W + W)).getD j 0) = pcE F W ((pcQ F W ((I + 1) * W + 0)).getD j 0)
    rw [e]
end
theorem rowRE {n : Nat} {f g : Nat → RE} (h : ∀ i, i < n → f i = g i) : sameRow n f g := ⟨eqShs_refl _, fun i hi => h i hi⟩
structure XPi where
  (W I FN : Nat) (F : Nat → RL) (C : Nat)
noncomputable abbrev VPi (q : XPi) : Few := (slPi q.W (U.isz (pcN q.F q.W q.I q.C)) (pcN q.F q.W q.I q.C) q.I (q.F q.I).1.1 (q.F q.I).1.2 q.FN q.F q.I q.C, memPc (U.isz (pcN q.F q.W q.I q.C)) (pcN q.F q.W q.I q.C) (pcG q.F q.W q.I q.C))
noncomputable def OPi (q : XPi) : Ex × Few := (.exit 2, (slPi q.W (U.isz (pcN q.F q.W q.I q.W)) (pcN q.F q.W q.I q.W) q.I (q.F q.I).1.1 (q.F q.I).1.2 q.FN q.F q.I q.W, memPc (U.isz (pcN q.F q.W q.I q.W)) (pcN q.F q.W q.I q.W) (pcG q.F q.W q.I q.W)))
def PhiPi (n0 : Nat) (q : XPi) : Prop := PrePo n0 q.W q.FN q.F ∧ q.I < q.FN ∧ q.C ≤ q.W
theorem slPi_rl {ρ : Ren} {b b' : Nat} {u u' : Bool} {N N' : Nat} {w l : Int} {pN : Nat} {pF : Nat → R1} {FN : Nat} {F : Nat → RL} {i c c' : Int} (hb : ρ.of b' = some b) (hu : u = u') (hN : N = N') (hc : c = c') :
    RlL ρ [.lit (.int .i64 w), .own u b N, .lit (.int .i64 l), .row [.int .i64] pN pF, .row [.sl [.int .i64]] FN F, .lit (.int .i64 (FN : Int)), .lit (.int .i64 i), .lit (.int .i64 w), .lit (.int .i64 c)]
      [.lit (.int .i64 w), .own u' b' N', .lit (.int .i64 l), .row [.int .i64] pN pF, .row [.sl [.int .i64]] FN F, .lit (.int .i64 (FN : Int)), .lit (.int .i64 i), .lit (.int .i64 w), .lit (.int .i64 c')] := by
  subst hu hN hc
  exact ⟨rfl, ⟨rfl, rfl, hb⟩, rfl, ⟨rfl, row1H fun _ _ => rfl⟩, ⟨rfl, rowRL fun _ _ => rfl⟩, rfl, rfl, rfl, rfl, trivial⟩
theorem roundPi (n0 : Nat) (q : XPi) (hq : PhiPi n0 q) : ((sx EPc [] n0 (loopOf P 46 11) (mkS 67 [2,9,10,11,28,29,30,35,36] (VPi q).1, (VPi q).2)).bind (proj 67 [2,9,10,11,28,29,30,35,36])).All fun r => match r.1 with
      | .normal => ∃ q', PhiPi n0 q' ∧ q'.W - q'.C < q.W - q.C ∧ Wk 67 [2,9,10,11,28,29,30,35,36] n0 r.2 (VPi q') ∧ ∀ o, o = OPi q' → o = OPi q
      | e => ∃ s, (e, s) = OPi q ∧ Wk 67 [2,9,10,11,28,29,30,35,36] n0 r.2 s := by
  obtain ⟨W, I, FN, F, C⟩ := q
  obtain ⟨⟨h0, w1, w2, l1, l2⟩, hI, hC⟩ := hq
  have hI : I < FN := hI
  have hC : C ≤ W := hC
  have w1 : (1 : Int) ≤ (W : Int) := w1
  have w2 : (W : Int) ≤ 64 := w2
  have l1 : FN ≤ 8 := l1
  have lI : (F I).1.1 ≤ 10000 := l2 I hI
  simp only [] at h0 l2
  subst h0
  refine T.all_of_eq (t_Pi (W : Int) (U.isz (pcN F W I C)) (pcN F W I C) (I : Int) (F I).1.1 (F I).1.2 FN F (I : Int) (C : Int) (pcG F W I C)) ?_
  have e2 := add1p (j := C) (by omega)
  have qa := quo_cut (len := (F I).1.1) (W := W) (C := C) (by omega) lI (by omega)
  by_cases hlt : C < W
  · have qb := quo_cut (len := (F I).1.1) (W := W) (C := C + 1) (by omega) lI (by omega)
    have cm := cut_mono (F I).1.1 W C (by omega)
    have ct := cut_le (F I).1.1 W (by omega) (c := C + 1) (by omega)
    have bN : pcN F W I C ≤ I * W + C := pcN_le _
    have bM : I * W ≤ 8 * 64 := Nat.mul_le_mul (by omega) (by omega)
    simp only [e2, qa, qb, tnH, U.nsub_eq]
    refine ⟨fun _ => ⟨by omega, by omega, ⟨by omega, by omega, by omega⟩, fun g => ?_, fun g => ?_⟩, fun g => absurd (U.lt_f.mp g) (by omega)⟩
    · have g := U.gt_t.mp g
      simp only [Int.ofNat_eq_natCast] at g
      obtain ⟨y1, y2, y3⟩ := pc_yes (F := F) (I := I) hlt (by omega)
      refine ⟨⟨by omega, by omega⟩, ?_, ⟨W, I, FN, F, C + 1⟩, ⟨⟨rfl, w1, w2, l1, l2⟩, hI, hlt⟩, (show W - (C + 1) < W - C by omega), ?_, fun o ho => ho⟩
      · show (pcN F W I C + 1) * 32 ≤ 140737488351232
        omega
      · have ei : U.isz (pcN F W I ((C + 1 : Nat) : Int)) = false := by rw [y1]; exact isz_s _
        refine wk_of [none, some 3] rfl (Nat.zero_le _) (ren1z _) (slPi_rl rfl ei.symm y1.symm rfl) ⟨⟨rfl, ei.symm, y1.symm, rowRE fun j hj => ?_⟩, trivial⟩
        refine (U.cat_eq _ _ _ _).trans ?_
        by_cases hj' : j < pcN F W I C
        · exact (if_pos hj').trans (y2 j hj').symm
        · have hj : j < pcN F W I ((C + 1 : Nat) : Int) := hj
          obtain rfl : j = pcN F W I C := by omega
          exact (if_neg hj').trans (y3.trans (pcE_at hlt)).symm
    · have g := U.gt_f.mp g
      simp only [Int.ofNat_eq_natCast] at g
      obtain ⟨y1, y2⟩ := pc_no (F := F) (I := I) hlt (by omega)
      refine ⟨⟨W, I, FN, F, C + 1⟩, ⟨⟨rfl, w1, w2, l1, l2⟩, hI, hlt⟩, (show W - (C + 1) < W - C by omega), ?_, fun o ho => ho⟩
      exact wk_of [none, some 1] rfl (Nat.zero_le _) (ren1z _) (slPi_rl rfl (congrArg U.isz y1.symm) y1.symm rfl) ⟨⟨rfl, congrArg U.isz y1.symm, y1.symm, rowRE fun j hj => (congrFun y2 j).symm⟩, trivial⟩
  · obtain rfl : C = W := by omega
    refine ⟨fun g => absurd (U.lt_t.mp g) (by omega), fun _ => ⟨_, rfl, ?_⟩⟩
    exact wk_of [none, some 1] rfl (Nat.zero_le _) (ren1z _) (slPi_rl rfl rfl rfl rfl) ⟨⟨rfl, rfl, rfl, rowRE fun _ _ => rfl⟩, trivial⟩
theorem loopPi : LoopOK P (loopOf P 46 11) (few 67 [2,9,10,11,28,29,30,35,36] gPi) :=
  loop_few (E := EPc) mixed EPc_ok loopsOK_none 67 [2,9,10,11,28,29,30,35,36] (X := XPi) gPi (fun _ x => VPi x) PhiPi (fun q => q.W - q.C) (fun _ x o => o = OPi x)
    (fun n0 st r h => by
      unfold gPi at h
      split at h
      · rename_i n0 w u b N l pN pF FN F FN' i w' e0 e1 u' N' G t
        obtain ⟨hp, rfl, rfl, rfl, rfl, rfl, rfl⟩ := (T.is_ask h).1
        obtain rfl := T.is_ret (T.is_ask h).2
        rw [lk_eq] at hp
        obtain ⟨⟨h0, w1, w2, hl⟩, i0, i1, rfl, rfl, rfl, hN, hu, hG⟩ := hp
        obtain ⟨W, rfl⟩ : ∃ W : Nat, w' = (W : Int) := ⟨w'.toNat, by omega⟩
        obtain ⟨I, rfl⟩ : ∃ I : Nat, l = (I : Int) := ⟨l.toNat, by omega⟩
        subst h0 hu hN
        refine ⟨⟨W, I, FN, F, 0⟩, ⟨⟨rfl, w1, w2, hl⟩, (by simp only []; omega), Nat.zero_le _⟩, wk_of [none, some 1] rfl (Nat.zero_le _) (ren1z _) (slPi_rl rfl rfl rfl rfl) ⟨⟨rfl, rfl, rfl, rowRE fun j hj => hG j hj⟩, trivial⟩, fun o ho => ?_⟩
        rw [ho]
        simp only [lk_eq]; rfl
      · exact h.elim)
    roundPi
theorem LPi_ok : LoopsOK P LPi (bodyOf P 46) := loopsOK_of (by kernel_rfl) fun k g hk => by
  simp only [List.mem_singleton, Prod.mk.injEq, LoopC.sum.injEq] at hk
  obtain ⟨rfl, rfl⟩ := hk
  exact loopPi
structure XPo where
  (W FN : Nat) (F : Nat → RL) (I : Nat)
noncomputable abbrev VPo (q : XPo) : Few := (slPo q.W (U.isz (pcN q.F q.W q.I 0)) (pcN q.F q.W q.I 0) q.FN q.F q.I, memPc (U.isz (pcN q.F q.W q.I 0)) (pcN q.F q.W q.I 0) (pcG q.F q.W q.I 0))
noncomputable def OPo (q : XPo) : Ex × Few := (.exit 0, VPo { q with I := q.FN })
def PhiPo (n0 : Nat) (q : XPo) : Prop := PrePo n0 q.W q.FN q.F ∧ q.I ≤ q.FN
theorem slPo_rl {ρ : Ren} {b b' : Nat} {u u' : Bool} {N N' : Nat} {w : Int} {FN : Nat} {F : Nat → RL} {i i' : Int} (hb : ρ.of b' = some b) (hu : u = u') (hN : N = N') (hc : i = i') :
    RlL ρ [.lit (.int .i64 w), .own u b N, .row [.sl [.int .i64]] FN F, .lit (.int .i64 (FN : Int)), .lit (.int .i64 i)]
      [.lit (.int .i64 w), .own u' b' N', .row [.sl [.int .i64]] FN F, .lit (.int .i64 (FN : Int)), .lit (.int .i64 i')] := by
  subst hu hN hc
  exact ⟨rfl, ⟨rfl, rfl, hb⟩, ⟨rfl, rowRL fun _ _ => rfl⟩, rfl, rfl, trivial⟩
theorem roundPo (n0 : Nat) (q : XPo) (hq : PhiPo n0 q) : ((sx EPc LPi n0 (loopOf P 46 8) (mkS 67 [2,9,28,29,30] (VPo q).1, (VPo q).2)).bind (proj 67 [2,9,28,29,30])).All fun r => match r.1 with
      | .normal => ∃ q', PhiPo n0 q' ∧ q'.FN - q'.I < q.FN - q.I ∧ Wk 67 [2,9,28,29,30] n0 r.2 (VPo q') ∧ ∀ o, o = OPo q' → o = OPo q
      | e => ∃ s, (e, s) = OPo q ∧ Wk 67 [2,9,28,29,30] n0 r.2 s := by
  obtain ⟨W, FN, F, I⟩ := q
  obtain ⟨⟨h0, w1, w2, l1, l2⟩, hI⟩ := hq
  have hI : I ≤ FN := hI
  have l1 : FN ≤ 8 := l1
  simp only [] at h0 l2
  subst h0
  refine T.all_of_eq (t_Po (W : Int) (U.isz (pcN F W I 0)) (pcN F W I 0) FN F (I : Int) (pcG F W I 0)) ?_
  have e2 := add1p (j := I) (by omega)
  by_cases hlt : I < FN
  · obtain ⟨y1, y2⟩ := pc_next (F := F) (W := W) (I := I)
    simp only [e2, tnH, lk_eq]
    refine ⟨fun _ => ⟨⟨by omega, by omega⟩, ⟨⟨⟨rfl, w1, w2, l1, l2⟩, by omega, by omega, rfl, rfl, rfl, rfl, rfl, fun _ _ => rfl⟩, trivial, trivial, trivial, trivial, trivial, trivial⟩,
      ⟨W, FN, F, I + 1⟩, ⟨⟨rfl, w1, w2, l1, l2⟩, hlt⟩, (show FN - (I + 1) < FN - I by omega), ?_, fun o ho => ho⟩, fun g => absurd (U.lt_f.mp g) (by simp only [Int.ofNat_eq_natCast]; omega)⟩
    exact wk_of [none, some 1] rfl (Nat.zero_le _) (ren1z _) (slPo_rl rfl (congrArg U.isz y1) y1 rfl) ⟨⟨rfl, congrArg U.isz y1, y1, rowRE fun j hj => congrFun y2 j⟩, trivial⟩
  · obtain rfl : I = FN := by omega
    refine ⟨fun g => absurd (U.lt_t.mp g) (by simp only [Int.ofNat_eq_natCast]; omega), fun _ => ⟨_, rfl, ?_⟩⟩
    exact wk_of [none, some 1] rfl (Nat.zero_le _) (ren1z _) (slPo_rl rfl rfl rfl rfl) ⟨⟨rfl, rfl, rfl, rowRE fun _ _ => rfl⟩, trivial⟩
theorem LPi_sub : LoopsOK P LPi (loopOf P 46 8) := LPi_ok.sub (fun l hl => by
  rw [show loopsIn (bodyOf P 46) = loopOf P 46 8 :: loopsIn (loopOf P 46 8) by kernel_rfl]
  exact List.mem_cons_of_mem _ hl) fun l hl => by
  rw [show rangesIn (loopOf P 46 8) = [] by kernel_rfl] at hl; cases hl
theorem loopPo : LoopOK P (loopOf P 46 8) (few 67 [2,9,28,29,30] gPo) :=
  loop_few (E := EPc) mixed EPc_ok LPi_sub 67 [2,9,28,29,30] (X := XPo) gPo (fun _ x => VPo x) PhiPo (fun q => q.FN - q.I) (fun _ x o => o = OPo x)
    (fun n0 st r h => by
      unfold gPo at h
      split at h
      · rename_i n0 w FN F FN' e0
        obtain ⟨hp, rfl⟩ := (T.is_ask h).1
        obtain rfl := T.is_ret (T.is_ask h).2
        rw [lk_eq] at hp
        obtain ⟨h0, w1, w2, hl⟩ := hp
        obtain ⟨W, rfl⟩ : ∃ W : Nat, w = (W : Int) := ⟨w.toNat, by omega⟩
        subst h0
        have z : pcN F W ((0 : Nat) : Int) 0 = 0 := by
          show (pcQ F W (0 * W + 0)).length = 0
          rw [Nat.zero_mul]; rfl
        have zi : U.isz (pcN F W ((0 : Nat) : Int) 0) = true := by rw [z, U.isz_eq]; rfl
        refine ⟨⟨W, FN, F, 0⟩, ⟨⟨rfl, w1, w2, hl⟩, Nat.zero_le _⟩, wk_of [none, none] rfl (Nat.zero_le _) (ren1z _) ⟨rfl, ⟨rfl, zi, z⟩, ⟨rfl, rowRL fun _ _ => rfl⟩, rfl, rfl, trivial⟩ ⟨⟨zi, z⟩, trivial⟩, fun o ho => ?_⟩
        rw [ho]
        simp only [lk_eq]; rfl
      · exact h.elim)
    roundPo
theorem lPc_ok : ∀ p ∈ lPc, LoopsOK P p.2 (bodyOf P p.1) := by
  intro p hp
  simp only [lPc, List.mem_singleton] at hp
  subst hp
  refine loopsOK_of (by kernel_rfl) fun k g hk => ?_
  simp only [List.mem_cons, List.not_mem_nil, or_false, Prod.mk.injEq, LoopC.sum.injEq] at hk
  rcases hk with ⟨rfl, rfl⟩ | ⟨rfl, rfl⟩
  · exact loopPi
  · exact loopPo
section
variable (n : Nat) (f : Nat → R3) (k s h L w : Int)
noncomputable def wPc (l : List Bool) : T SV := (conB P (conOf kPc) (loopsOf lPc) 10 46 [.agg [.row [.int .i64, .int .i64, .int .i64] n f, .lit (.int .i64 k), .lit (.int .i64 s), .lit (.int .i64 h)], .lit (.int .i64 L), .lit (.int .i64 w)]).force l
theorem t_Pc : wPc n f k s h L w [false, false, false] = .ask (Row64 n f) (.ask (U.ne (lk lsE n f k s h L) 0 = false) (.ask (U.lt w 1 = false) (.ask (U.gt w 64 = false) (.ask (lk PaAsk n f k s h L)
    (.ask (lk PrePo 0 w (U.toNat L) (lk paF ((n, f), k, s, h, ()) L) ∧ ((U.toNat L : Nat) : Int) = ((U.toNat L : Nat) : Int))
    (.ret (.tup [.row [.int .i64, .sl [.int .i64]] (lk pcN (lk paF ((n, f), k, s, h, ()) L) w ((U.toNat L : Nat) : Int) 0) (lk pcG (lk paF ((n, f), k, s, h, ()) L) w ((U.toNat L : Nat) : Int) 0), .lit (.int .i64 0)]))))))) := by kernel_rfl
end
theorem Pieces_ok : ConOK P 46 c_Pieces := con_force (allOKL mixed kPc_ok lPc_ok) 10 46 fun args r hh => by
  unfold c_Pieces at hh
  split at hh
  · rename_i n f k s h L w
    have hp := (T.is_ask hh).1
    obtain rfl := T.is_ret (T.is_ask hh).2
    rw [lk_eq] at hp
    obtain ⟨d, hl, w1, w2⟩ := hp
    have pa := pa_ask hl
    obtain ⟨hd, h5⟩ := pa
    obtain ⟨l1, l8, _⟩ := dmE_zero.1 hd
    have eL : ((U.toNat L : Nat) : Int) = L := nat64 (by omega)
    show ∃ l, (wPc n f k s h L w l).All fun v => Cl v _
    refine ⟨_, by
      rw [t_Pc]; simp only [lk_eq, eL]
      refine ⟨d, U.ne_f.mpr hl, U.lt_f.mpr (by omega), U.gt_f.mpr (by omega), ⟨hd, h5⟩, ⟨⟨rfl, w1, w2, by omega, fun l hl => ?_⟩, trivial⟩, ?_⟩
      · exact Nat.le_trans (partL_len (n := n) (f := f) (k := k) (s := s) (h := h) (L := L) l) (by omega)
      · exact ⟨⟨rfl, rowRE fun _ _ => rfl⟩, .inl rfl, rfl⟩⟩
  · exact hh.elim
end Go.RX.Span

/- Domain maps: the law of pieces: what it calls. -/
set_option linter.unusedVariables false
set_option linter.unusedSimpArgs false
set_option maxRecDepth 100000
namespace Go.RX.Span
open Go Go.RX
attribute [local irreducible] sx conB

noncomputable abbrev kLP : List (Nat × Con) := [(39, c_Few), (40, c_dmCheck), (41, c_DSize), (42, c_true), (46, c_Pieces), (47, c_Part), (30, c_Equal), (44, c_mm true), (45, c_mm false)] --%K
noncomputable abbrev ELP : Env := ⟨P, conOf kLP, scall P (conOf kLP) noLoops 10⟩
end Go.RX.Span

/- Domain maps: the law of pieces: the loops' states. -/
set_option linter.unusedVariables false
set_option linter.unusedSimpArgs false
set_option maxRecDepth 100000
namespace Go.RX.Span
open Go Go.RX
attribute [local irreducible] sx conB

section
variable (n : Nat) (f : Nat → R3) (k s h L w : Int)
noncomputable def qsD : List Nat := pcQ (paF ((n, f), k, s, h, ()) L) w.toNat (L.toNat * w.toNat + (0 : Int).toNat)
noncomputable def wlN (l : Int) (j : Nat) : Nat := whN (paF ((n, f), k, s, h, ()) L) w.toNat l.toNat ((qsD n f k s h L w).take j)
noncomputable def llL (l : Int) (j : Nat) : List Nat := leL (paF ((n, f), k, s, h, ()) L) w.toNat l.toNat ((qsD n f k s h L w).take j)
noncomputable def lnN (l : Int) : Nat := (llL n f k s h L w l (qsD n f k s h L w).length).length
noncomputable def lnF (l : Int) : Nat → R1 := rowN (llL n f k s h L w l (qsD n f k s h L w).length)
end
def PreLo (n0 n : Nat) (f : Nat → R3) (k s h L w : Int) (N : Nat) (G : Nat → RE) : Prop :=
  n0 = 0 ∧ dmE n f k s h L = 0 ∧ szD n f k s h ≤ 300 ∧ 1 ≤ w ∧ w ≤ 64 ∧ N = pnN n f k s h L w ∧ G = pnF n f k s h L w
def PreLi (n0 n : Nat) (f : Nat → R3) (k s h L w : Int) (N : Nat) (G : Nat → RE) (l : Int) (pN : Nat) (pF : Nat → R1) : Prop :=
  PreLo n0 n f k s h L w N G ∧ 0 ≤ l ∧ l < L ∧ pN = (partL n f k s h L l).length ∧ pF = rowN (partL n f k s h L l)
noncomputable abbrev slLi (L w : Int) (N : Nat) (G : Nat → RE) (l : Int) (pN : Nat) (pF : Nat → R1) (e : Int) (u1 : Bool) (n1 : Nat) (u2 : Bool) (n2 : Nat) (i : Int) : List SV := [.lit (.int .i64 L), .ptr 0 0, .lit (.int .i64 w), .row [.int .i64, .sl [.int .i64]] N G, .lit (.int .i64 l), .row [.int .i64] pN pF, .lit (.int .i64 e), .own u1 1 n1, .own u2 2 n2, .lit (.int .i64 L), .lit (.int .i64 l), .row [.int .i64, .sl [.int .i64]] N G, .lit (.int .i64 (N : Int)), .lit (.int .i64 i)]
noncomputable abbrev memLi (n : Nat) (f : Nat → R3) (k s h : Int) (u1 : Bool) (n1 : Nat) (f1 : Nat → R1) (u2 : Bool) (n2 : Nat) (f2 : Nat → R1) : Mem := [boxD n f k s h, (0, some (.row u1 n1 [.int .i64] f1 3)), (0, some (.row u2 n2 [.int .i64] f2 3))]
noncomputable def gLi : Nat → Few → T (Ex × Few)
  | n0, ([.lit (.int .i64 L), .ptr 0 0, .lit (.int .i64 w), .row [.int .i64, .sl [.int .i64]] N G, .lit (.int .i64 l), .row [.int .i64] pN pF, .lit (.int .i64 e), .lit (.slice none 0 0), .lit (.slice none 0 0), .lit (.int .i64 L'), .lit (.int .i64 l'), .row [.int .i64, .sl [.int .i64]] N' G', .lit (.int .i64 N2), .ki .i64 0],
      [(_, some (.cells [.row [.int .i64, .int .i64, .int .i64] n f, .lit (.int .i64 k), .lit (.int .i64 s), .lit (.int .i64 h)] t0))]) =>
    .ask (lk PreLi n0 n f k s h L w N G l pN pF ∧ L' = L ∧ l' = l ∧ N' = N ∧ G' = G ∧ N2 = (N : Int) ∧ t0 = 49)
      (.ret (.exit 2, (slLi L w N G l pN pF e (U.isz pN) pN (U.isz (lk lnN n f k s h L w l)) (lk lnN n f k s h L w l) (N : Int), memLi n f k s h (U.isz pN) pN pF (U.isz (lk lnN n f k s h L w l)) (lk lnN n f k s h L w l) (lk lnF n f k s h L w l))))
  | _, _ => .stuck 1
noncomputable abbrev slLo (L w : Int) (N : Nat) (G : Nat → RE) (i : Int) : List SV := [.lit (.int .i64 L), .ptr 0 0, .lit (.int .i64 w), .row [.int .i64, .sl [.int .i64]] N G, .lit (.int .i64 L), .lit (.int .i64 i)]
noncomputable def gLo : Nat → Few → T (Ex × Few)
  | n0, ([.lit (.int .i64 L), .ptr 0 0, .lit (.int .i64 w), .row [.int .i64, .sl [.int .i64]] N G, .lit (.int .i64 L'), .ki .i64 0],
      [(_, some (.cells [.row [.int .i64, .int .i64, .int .i64] n f, .lit (.int .i64 k), .lit (.int .i64 s), .lit (.int .i64 h)] t0))]) =>
    .ask (lk PreLo n0 n f k s h L w N G ∧ L' = L ∧ t0 = 49) (.ret (.exit 0, (slLo L w N G L, [boxD n f k s h])))
  | _, _ => .stuck 1
noncomputable abbrev LLi : Loops := [(14, .sum (few 127 [1,3,7,8,10,11,12,13,14,45,46,56,57,58] gLi))]
noncomputable abbrev lLP : List (Nat × Loops) := [(6, [(14, .sum (few 127 [1,3,7,8,10,11,12,13,14,45,46,56,57,58] gLi)), (8, .sum (few 127 [1,3,7,8,45,46] gLo))])] --%K
end Go.RX.Span

/- Domain maps: the law of pieces: the walks. -/
set_option linter.unusedVariables false
set_option linter.unusedSimpArgs false
set_option maxRecDepth 100000
namespace Go.RX.Span
open Go Go.RX
attribute [local irreducible] sx conB

--%R i < ↑N => i < ((N : Nat) : Int)
--%R \(1 : Int\) < ↑N => (1 : Int) < ((N : Nat) : Int)
--%R ↑N = ↑N => ((N : Nat) : Int) = ((N : Nat) : Int)
set_option maxRecDepth 100000 in
theorem t_Li (n : Nat) (f : Nat → R3) (k s h L w : Int) (N : Nat) (G : Nat → RE) (l e : Int) (pN : Nat) (pF : Nat → R1) (u1 u2 : Bool) (n1 n2 : Nat) (f1 f2 : Nat → R1) (i : Int) : (sx ELP [] 0 (loopOf P 6 14) (mkS 127 [1,3,7,8,10,11,12,13,14,45,46,56,57,58] (slLi L w N G l pN pF e u1 n1 u2 n2 i), memLi n f k s h u1 n1 f1 u2 n2 f2)).bind (proj 127 [1,3,7,8,10,11,12,13,14,45,46,56,57,58]) =
    T.br (U.lt i (Int.ofNat N)) (.ask ((0 : Int) ≤ i ∧ i < ((N : Nat) : Int)) (.br (U.gt i (0 : Int)) (.ask ((0 : Int) ≤ U.sub .i64 i (1 : Int) ∧ U.sub .i64 i (1 : Int) < ((N : Nat) :
      Int)) (.br (U.gt (G (U.toNat (U.sub .i64 i (1 : Int)))).1 (G (U.toNat i)).1) (.ret (Ex.ret, [.lit (.int .i64 L), SV.ptr (nat_lit 0) (nat_lit 0), .lit (.int .i64 w), .row [.int .i64,
      .sl [.int .i64]] N G, .lit (.int .i64 l), .row [.int .i64] pN pF, .lit (.int .i64 e), SV.own u1 (nat_lit 1) n1, SV.own u2 (nat_lit 2) n2, .lit (.int .i64 L), .lit (.int .i64 l),
      .row [.int .i64, .sl [.int .i64]] N G, .lit (.int .i64 (Int.ofNat N)), .lit (.int .i64 i)], [(nat_lit 0, some (Blk.cells [.row [.int .i64, .int .i64, .int .i64] n f, .lit (.int .i64
      k), .lit (.int .i64 s), .lit (.int .i64 h)] (nat_lit 49))), (nat_lit 0, some (Blk.row u1 n1 [.int .i64] f1 (nat_lit 3))), (nat_lit 0, some (Blk.row u2 n2 [.int .i64] f2 (nat_lit
      3))), (nat_lit 1, some (Blk.cells [.lit (.int .i64 (G (U.toNat i)).1), .row [.int .i64] (G (U.toNat i)).snd.fst.1 (G (U.toNat i)).snd.fst.2] (nat_lit 61)))])) (.br (U.eq (Int.ofNat
      (G (U.toNat i)).snd.fst.1) (0 : Int)) (.ret (Ex.ret, [.lit (.int .i64 L), SV.ptr (nat_lit 0) (nat_lit 0), .lit (.int .i64 w), .row [.int .i64, .sl [.int .i64]] N G, .lit (.int .i64
      l), .row [.int .i64] pN pF, .lit (.int .i64 e), SV.own u1 (nat_lit 1) n1, SV.own u2 (nat_lit 2) n2, .lit (.int .i64 L), .lit (.int .i64 l), .row [.int .i64, .sl [.int .i64]] N G,
      .lit (.int .i64 (Int.ofNat N)), .lit (.int .i64 i)], [(nat_lit 0, some (Blk.cells [.row [.int .i64, .int .i64, .int .i64] n f, .lit (.int .i64 k), .lit (.int .i64 s), .lit (.int
      .i64 h)] (nat_lit 49))), (nat_lit 0, some (Blk.row u1 n1 [.int .i64] f1 (nat_lit 3))), (nat_lit 0, some (Blk.row u2 n2 [.int .i64] f2 (nat_lit 3))), (nat_lit 1, some (Blk.cells
      [.lit (.int .i64 (G (U.toNat i)).1), .row [.int .i64] (G (U.toNat i)).snd.fst.1 (G (U.toNat i)).snd.fst.2] (nat_lit 61)))])) (.br (U.eq (G (U.toNat i)).1 l) (.ask ((n1 + (G (U.toNat
      i)).snd.fst.1) * nat_lit 8 ≤ nat_lit 140737488351232) (.ask ((n2 + (1 : Nat)) * nat_lit 8 ≤ nat_lit 140737488351232) (.ret (Ex.normal, [.lit (.int .i64 L), SV.ptr (nat_lit 0)
      (nat_lit 0), .lit (.int .i64 w), .row [.int .i64, .sl [.int .i64]] N G, .lit (.int .i64 l), .row [.int .i64] pN pF, .lit (.int .i64 e), SV.own (U.andb u1 (U.isz (G (U.toNat
      i)).snd.fst.1)) (nat_lit 4) (n1 + (G (U.toNat i)).snd.fst.1), SV.own false (nat_lit 6) (n2.add (nat_lit 1)), .lit (.int .i64 L), .lit (.int .i64 l), .row [.int .i64, .sl [.int
      .i64]] N G, .lit (.int .i64 (Int.ofNat N)), .lit (.int .i64 (U.add .i64 i (1 : Int)))], [(nat_lit 0, some (Blk.cells [.row [.int .i64, .int .i64, .int .i64] n f, .lit (.int .i64 k),
      .lit (.int .i64 s), .lit (.int .i64 h)] (nat_lit 49))), (nat_lit 1, none), (nat_lit 1, none), (nat_lit 1, some (Blk.cells [.lit (.int .i64 (G (U.toNat i)).1), .row [.int .i64] (G
      (U.toNat i)).snd.fst.1 (G (U.toNat i)).snd.fst.2] (nat_lit 61))), (nat_lit 0, some (Blk.row (U.andb u1 (U.isz (G (U.toNat i)).snd.fst.1)) (n1 + (G (U.toNat i)).snd.fst.1) [.int
      .i64] (U.cat n1 f1 (G (U.toNat i)).snd.fst.2) (nat_lit 3))), (nat_lit 0, some (Blk.cells [.lit (.int .i64 (Int.ofNat (G (U.toNat i)).snd.fst.1))] (nat_lit 3))), (nat_lit 0, some
      (Blk.row false (n2.add (nat_lit 1)) [.int .i64] (U.cat n2 f2 fun x => (Int.ofNat (G (U.toNat i)).snd.fst.1, PUnit.unit)) (nat_lit 3)))])))) (.ret (Ex.normal, [.lit (.int .i64 L),
      SV.ptr (nat_lit 0) (nat_lit 0), .lit (.int .i64 w), .row [.int .i64, .sl [.int .i64]] N G, .lit (.int .i64 l), .row [.int .i64] pN pF, .lit (.int .i64 e), SV.own u1 (nat_lit 1) n1,
      SV.own u2 (nat_lit 2) n2, .lit (.int .i64 L), .lit (.int .i64 l), .row [.int .i64, .sl [.int .i64]] N G, .lit (.int .i64 (Int.ofNat N)), .lit (.int .i64 (U.add .i64 i (1 : Int)))],
      [(nat_lit 0, some (Blk.cells [.row [.int .i64, .int .i64, .int .i64] n f, .lit (.int .i64 k), .lit (.int .i64 s), .lit (.int .i64 h)] (nat_lit 49))), (nat_lit 0, some (Blk.row u1 n1
      [.int .i64] f1 (nat_lit 3))), (nat_lit 0, some (Blk.row u2 n2 [.int .i64] f2 (nat_lit 3))), (nat_lit 1, some (Blk.cells [.lit (.int .i64 (G (U.toNat i)).1), .row [.int .i64] (G
      (U.toNat i)).snd.fst.1 (G (U.toNat i)).snd.fst.2] (nat_lit 61)))])))))) (.br (U.eq (Int.ofNat (G (U.toNat i)).snd.fst.1) (0 : Int)) (.ret (Ex.ret, [.lit (.int .i64 L), SV.ptr
      (nat_lit 0) (nat_lit 0), .lit (.int .i64 w), .row [.int .i64, .sl [.int .i64]] N G, .lit (.int .i64 l), .row [.int .i64] pN pF, .lit (.int .i64 e), SV.own u1 (nat_lit 1) n1, SV.own
      u2 (nat_lit 2) n2, .lit (.int .i64 L), .lit (.int .i64 l), .row [.int .i64, .sl [.int .i64]] N G, .lit (.int .i64 (Int.ofNat N)), .lit (.int .i64 i)], [(nat_lit 0, some (Blk.cells
      [.row [.int .i64, .int .i64, .int .i64] n f, .lit (.int .i64 k), .lit (.int .i64 s), .lit (.int .i64 h)] (nat_lit 49))), (nat_lit 0, some (Blk.row u1 n1 [.int .i64] f1 (nat_lit
      3))), (nat_lit 0, some (Blk.row u2 n2 [.int .i64] f2 (nat_lit 3))), (nat_lit 1, some (Blk.cells [.lit (.int .i64 (G (U.toNat i)).1), .row [.int .i64] (G (U.toNat i)).snd.fst.1 (G
      (U.toNat i)).snd.fst.2] (nat_lit 61)))])) (.br (U.eq (G (U.toNat i)).1 l) (.ask ((n1 + (G (U.toNat i)).snd.fst.1) * nat_lit 8 ≤ nat_lit 140737488351232) (.ask ((n2 + (1 : Nat)) *
      nat_lit 8 ≤ nat_lit 140737488351232) (.ret (Ex.normal, [.lit (.int .i64 L), SV.ptr (nat_lit 0) (nat_lit 0), .lit (.int .i64 w), .row [.int .i64, .sl [.int .i64]] N G, .lit (.int
      .i64 l), .row [.int .i64] pN pF, .lit (.int .i64 e), SV.own (U.andb u1 (U.isz (G (U.toNat i)).snd.fst.1)) (nat_lit 4) (n1 + (G (U.toNat i)).snd.fst.1), SV.own false (nat_lit 6)
      (n2.add (nat_lit 1)), .lit (.int .i64 L), .lit (.int .i64 l), .row [.int .i64, .sl [.int .i64]] N G, .lit (.int .i64 (Int.ofNat N)), .lit (.int .i64 (U.add .i64 i (1 : Int)))],
      [(nat_lit 0, some (Blk.cells [.row [.int .i64, .int .i64, .int .i64] n f, .lit (.int .i64 k), .lit (.int .i64 s), .lit (.int .i64 h)] (nat_lit 49))), (nat_lit 1, none), (nat_lit 1,
      none), (nat_lit 1, some (Blk.cells [.lit (.int .i64 (G (U.toNat i)).1), .row [.int .i64] (G (U.toNat i)).snd.fst.1 (G (U.toNat i)).snd.fst.2] (nat_lit 61))), (nat_lit 0, some
      (Blk.row (U.andb u1 (U.isz (G (U.toNat i)).snd.fst.1)) (n1 + (G (U.toNat i)).snd.fst.1) [.int .i64] (U.cat n1 f1 (G (U.toNat i)).snd.fst.2) (nat_lit 3))), (nat_lit 0, some
      (Blk.cells [.lit (.int .i64 (Int.ofNat (G (U.toNat i)).snd.fst.1))] (nat_lit 3))), (nat_lit 0, some (Blk.row false (n2.add (nat_lit 1)) [.int .i64] (U.cat n2 f2 fun x => (Int.ofNat
      (G (U.toNat i)).snd.fst.1, PUnit.unit)) (nat_lit 3)))])))) (.ret (Ex.normal, [.lit (.int .i64 L), SV.ptr (nat_lit 0) (nat_lit 0), .lit (.int .i64 w), .row [.int .i64, .sl [.int
      .i64]] N G, .lit (.int .i64 l), .row [.int .i64] pN pF, .lit (.int .i64 e), SV.own u1 (nat_lit 1) n1, SV.own u2 (nat_lit 2) n2, .lit (.int .i64 L), .lit (.int .i64 l), .row [.int
      .i64, .sl [.int .i64]] N G, .lit (.int .i64 (Int.ofNat N)), .lit (.int .i64 (U.add .i64 i (1 : Int)))], [(nat_lit 0, some (Blk.cells [.row [.int .i64, .int .i64, .int .i64] n f,
      .lit (.int .i64 k), .lit (.int .i64 s), .lit (.int .i64 h)] (nat_lit 49))), (nat_lit 0, some (Blk.row u1 n1 [.int .i64] f1 (nat_lit 3))), (nat_lit 0, some (Blk.row u2 n2 [.int .i64]
      f2 (nat_lit 3))), (nat_lit 1, some (Blk.cells [.lit (.int .i64 (G (U.toNat i)).1), .row [.int .i64] (G (U.toNat i)).snd.fst.1 (G (U.toNat i)).snd.fst.2] (nat_lit 61)))])))))) (.ret
      (Ex.exit (nat_lit 2), [.lit (.int .i64 L), SV.ptr (nat_lit 0) (nat_lit 0), .lit (.int .i64 w), .row [.int .i64, .sl [.int .i64]] N G, .lit (.int .i64 l), .row [.int .i64] pN pF,
      .lit (.int .i64 e), SV.own u1 (nat_lit 1) n1, SV.own u2 (nat_lit 2) n2, .lit (.int .i64 L), .lit (.int .i64 l), .row [.int .i64, .sl [.int .i64]] N G, .lit (.int .i64 (Int.ofNat
      N)), .lit (.int .i64 i)], [(nat_lit 0, some (Blk.cells [.row [.int .i64, .int .i64, .int .i64] n f, .lit (.int .i64 k), .lit (.int .i64 s), .lit (.int .i64 h)] (nat_lit 49))),
      (nat_lit 0, some (Blk.row u1 n1 [.int .i64] f1 (nat_lit 3))), (nat_lit 0, some (Blk.row u2 n2 [.int .i64] f2 (nat_lit 3)))])) := by kernel_rfl
set_option maxRecDepth 100000 in
theorem t_Lo (n : Nat) (f : Nat → R3) (k s h L w : Int) (N : Nat) (G : Nat → RE) (i : Int) : (sx ELP LLi 0 (loopOf P 6 8) (mkS 127 [1,3,7,8,45,46] (slLo L w N G i), [boxD n f k s h])).bind (proj 127 [1,3,7,8,45,46]) =
    T.br (U.lt i L) (.ask (Row64 n f) (.ask (lk PreLi (0 : Nat) n f k s h L w N G i (lk ptN n f k s h L i) (lk ptF n f k s h L i) ∧ L = L ∧ i = i ∧ N = N ∧ G = G ∧ ((N : Nat) : Int) =
      ((N : Nat) : Int) ∧ (49 : TypeId) = (49 : TypeId)) (.br (U.ne (lk ptE n f k s h L i) (0 : Int)) (.ret (Ex.ret, [.lit (.int .i64 L), SV.ptr (nat_lit 0) (nat_lit 0), .lit (.int .i64
      w), .row [.int .i64, .sl [.int .i64]] N G, .lit (.int .i64 L), .lit (.int .i64 i)], [(nat_lit 1, some (Blk.cells [.row [.int .i64, .int .i64, .int .i64] n f, .lit (.int .i64 k),
      .lit (.int .i64 s), .lit (.int .i64 h)] (nat_lit 49))), (nat_lit 0, some (Blk.row (U.isz (lk ptN n f k s h L i)) (lk ptN n f k s h L i) [.int .i64] (lk ptF n f k s h L i) (nat_lit
      3))), (nat_lit 0, some (Blk.row (U.isz (lk lnN n f k s h L w i)) (lk lnN n f k s h L w i) [.int .i64] (lk lnF n f k s h L w i) (nat_lit 3)))])) (.ask (lk ptN n f k s h L i ≤ nat_lit
      9223372036854775807) (.br (U.not (lk eqR (lk ptN n f k s h L i) (lk ptF n f k s h L i) (lk ptN n f k s h L i) (lk ptF n f k s h L i))) (.ret (Ex.ret, [.lit (.int .i64 L), SV.ptr
      (nat_lit 0) (nat_lit 0), .lit (.int .i64 w), .row [.int .i64, .sl [.int .i64]] N G, .lit (.int .i64 L), .lit (.int .i64 i)], [(nat_lit 1, some (Blk.cells [.row [.int .i64, .int
      .i64, .int .i64] n f, .lit (.int .i64 k), .lit (.int .i64 s), .lit (.int .i64 h)] (nat_lit 49))), (nat_lit 0, some (Blk.row (U.isz (lk ptN n f k s h L i)) (lk ptN n f k s h L i)
      [.int .i64] (lk ptF n f k s h L i) (nat_lit 3))), (nat_lit 0, some (Blk.row (U.isz (lk lnN n f k s h L w i)) (lk lnN n f k s h L w i) [.int .i64] (lk lnF n f k s h L w i) (nat_lit
      3)))])) (.br (U.ne (Int.ofNat (lk lnN n f k s h L w i)) (U.mm false w (Int.ofNat (lk ptN n f k s h L i)))) (.ret (Ex.ret, [.lit (.int .i64 L), SV.ptr (nat_lit 0) (nat_lit 0), .lit
      (.int .i64 w), .row [.int .i64, .sl [.int .i64]] N G, .lit (.int .i64 L), .lit (.int .i64 i)], [(nat_lit 1, some (Blk.cells [.row [.int .i64, .int .i64, .int .i64] n f, .lit (.int
      .i64 k), .lit (.int .i64 s), .lit (.int .i64 h)] (nat_lit 49))), (nat_lit 0, some (Blk.row (U.isz (lk ptN n f k s h L i)) (lk ptN n f k s h L i) [.int .i64] (lk ptF n f k s h L i)
      (nat_lit 3))), (nat_lit 0, some (Blk.row (U.isz (lk lnN n f k s h L w i)) (lk lnN n f k s h L w i) [.int .i64] (lk lnF n f k s h L w i) (nat_lit 3)))])) (.br (U.gt (Int.ofNat (lk
      lnN n f k s h L w i)) (0 : Int)) (.ask ((1 : Nat) ≤ lk lnN n f k s h L w i ∧ lk lnN n f k s h L w i ≤ (100000 : Nat)) (.ask ((1 : Nat) ≤ lk lnN n f k s h L w i ∧ lk lnN n f k s h L
      w i ≤ (100000 : Nat)) (.br (U.gt (U.sub .i64 (lk mmN true (lk lnF n f k s h L w i) (lk lnN n f k s h L w i)) (lk mmN false (lk lnF n f k s h L w i) (lk lnN n f k s h L w i))) (1 :
      Int)) (.ret (Ex.ret, [.lit (.int .i64 L), SV.ptr (nat_lit 0) (nat_lit 0), .lit (.int .i64 w), .row [.int .i64, .sl [.int .i64]] N G, .lit (.int .i64 L), .lit (.int .i64 i)],
      [(nat_lit 1, some (Blk.cells [.row [.int .i64, .int .i64, .int .i64] n f, .lit (.int .i64 k), .lit (.int .i64 s), .lit (.int .i64 h)] (nat_lit 49))), (nat_lit 0, some (Blk.row
      (U.isz (lk ptN n f k s h L i)) (lk ptN n f k s h L i) [.int .i64] (lk ptF n f k s h L i) (nat_lit 3))), (nat_lit 0, some (Blk.row (U.isz (lk lnN n f k s h L w i)) (lk lnN n f k s h
      L w i) [.int .i64] (lk lnF n f k s h L w i) (nat_lit 3)))])) (.ret (Ex.normal, [.lit (.int .i64 L), SV.ptr (nat_lit 0) (nat_lit 0), .lit (.int .i64 w), .row [.int .i64, .sl [.int
      .i64]] N G, .lit (.int .i64 L), .lit (.int .i64 (U.add .i64 i (1 : Int)))], [(nat_lit 1, some (Blk.cells [.row [.int .i64, .int .i64, .int .i64] n f, .lit (.int .i64 k), .lit (.int
      .i64 s), .lit (.int .i64 h)] (nat_lit 49))), (nat_lit 0, some (Blk.row (U.isz (lk ptN n f k s h L i)) (lk ptN n f k s h L i) [.int .i64] (lk ptF n f k s h L i) (nat_lit 3))),
      (nat_lit 0, some (Blk.row (U.isz (lk lnN n f k s h L w i)) (lk lnN n f k s h L w i) [.int .i64] (lk lnF n f k s h L w i) (nat_lit 3)))]))))) (.ret (Ex.normal, [.lit (.int .i64 L),
      SV.ptr (nat_lit 0) (nat_lit 0), .lit (.int .i64 w), .row [.int .i64, .sl [.int .i64]] N G, .lit (.int .i64 L), .lit (.int .i64 (U.add .i64 i (1 : Int)))], [(nat_lit 1, some
      (Blk.cells [.row [.int .i64, .int .i64, .int .i64] n f, .lit (.int .i64 k), .lit (.int .i64 s), .lit (.int .i64 h)] (nat_lit 49))), (nat_lit 0, some (Blk.row (U.isz (lk ptN n f k s
      h L i)) (lk ptN n f k s h L i) [.int .i64] (lk ptF n f k s h L i) (nat_lit 3))), (nat_lit 0, some (Blk.row (U.isz (lk lnN n f k s h L w i)) (lk lnN n f k s h L w i) [.int .i64] (lk
      lnF n f k s h L w i) (nat_lit 3)))]))))))))) (.ret (Ex.exit (nat_lit 0), [.lit (.int .i64 L), SV.ptr (nat_lit 0) (nat_lit 0), .lit (.int .i64 w), .row [.int .i64, .sl [.int .i64]] N
      G, .lit (.int .i64 L), .lit (.int .i64 i)], [(nat_lit 0, some (Blk.cells [.row [.int .i64, .int .i64, .int .i64] n f, .lit (.int .i64 k), .lit (.int .i64 s), .lit (.int .i64 h)]
      (nat_lit 49)))])) := by kernel_rfl
end Go.RX.Span

/- Domain maps: the law of pieces: the rounds. -/
set_option linter.unusedVariables false
set_option linter.unusedSimpArgs false
set_option maxRecDepth 100000
namespace Go.RX.Span
open Go Go.RX
attribute [local irreducible] sx conB

theorem kLP_ok : ∀ p ∈ kLP, ConOK P p.1 p.2 := by
  intro p hp
  simp only [kLP, List.mem_cons, List.not_mem_nil, or_false] at hp
  rcases hp with rfl | rfl | rfl | rfl | rfl | rfl | rfl | rfl | rfl
  · exact Few_ok
  · exact dmCheck_ok
  · exact DSize_ok
  · exact awake5_ok
  · exact Pieces_ok
  · exact Part_ok
  · exact Equal_ok
  · exact Max8_ok
  · exact Min8_ok
theorem ELP_ok : EnvOK ELP := envOK (allOK mixed kLP_ok) 10
section
variable {n : Nat} {f : Nat → R3} {k s h L : Int} {W : Nat}
noncomputable abbrev fpD (n : Nat) (f : Nat → R3) (k s h L : Int) : Nat → RL := paF ((n, f), k, s, h, ()) L
theorem qs_pair {i j : Nat} (hij : i < j) (hj : j < (qsD n f k s h L W).length) : (qsD n f k s h L W)[i]'(by omega) < (qsD n f k s h L W)[j] :=
  List.pairwise_iff_getElem.1 (List.Pairwise.filter _ List.pairwise_lt_range) i j (Nat.lt_trans hij hj) hj hij
theorem qs_at {j : Nat} (hj : j < (qsD n f k s h L W).length) : pnF n f k s h L W j = pcE (fpD n f k s h L) W (qsD n f k s h L W)[j] ∧ 0 < pcS (fpD n f k s h L) W (qsD n f k s h L W)[j] ∧ (qsD n f k s h L W)[j] < L.toNat * W ∧ (qsD n f k s h L W).take j = pcQ (fpD n f k s h L) W (qsD n f k s h L W)[j] ∧ (qsD n f k s h L W).take (j + 1) = (qsD n f k s h L W).take j ++ [(qsD n f k s h L W)[j]] := by
  have hm : (qsD n f k s h L W)[j] ∈ pcQ (fpD n f k s h L) W (L.toNat * W + 0) := List.getElem_mem hj
  obtain ⟨m1, m2⟩ := List.mem_filter.1 hm
  refine ⟨?_, of_decide_eq_true m2, List.mem_range.1 m1, take_filter _ _ j hj, ?_⟩
  · show pcE (fpD n f k s h L) W ((qsD n f k s h L W).getD j 0) = _
    rw [List.getD_eq_getElem?_getD, List.getElem?_eq_getElem hj]; rfl
  · rw [List.take_add_one, List.getElem?_eq_getElem hj]; rfl
theorem qs_all : qsD n f k s h L W = pcQ (fpD n f k s h L) W (L.toNat * W) := rfl
theorem wl_at (hw : 0 < W) {l j : Nat} (hj : j < (qsD n f k s h L W).length) (e : (qsD n f k s h L W)[j] / W = l) : wlN n f k s h L W l j = cutN (partL n f k s h L l).length W ((qsD n f k s h L W)[j] % W) ∧ wlN n f k s h L W l (j + 1) = wlN n f k s h L W l j + pcS (fpD n f k s h L) W (qsD n f k s h L W)[j] ∧ llL n f k s h L W l (j + 1) = llL n f k s h L W l j ++ [pcS (fpD n f k s h L) W (qsD n f k s h L W)[j]] := by
  obtain ⟨_, _, _, h4, h5⟩ := qs_at hj
  obtain ⟨d1, d2⟩ := (div_iff hw).1 e
  refine ⟨?_, ?_, ?_⟩
  · show whN (fpD n f k s h L) W l ((qsD n f k s h L W).take j) = _
    rw [h4, wh_q hw, if_neg (by omega), if_pos d2]
    have := Nat.mod_add_div (qsD n f k s h L W)[j] W
    rw [e] at this
    have e2 : W * l = l * W := Nat.mul_comm _ _
    rw [show (qsD n f k s h L W)[j] - l * W = (qsD n f k s h L W)[j] % W by omega]; rfl
  · show whN (fpD n f k s h L) W l ((qsD n f k s h L W).take (j + 1)) = _
    rw [h5, wh_app, wh_one, if_pos e]; rfl
  · show leL (fpD n f k s h L) W l ((qsD n f k s h L W).take (j + 1)) = _
    rw [h5, le_app, le_one, if_pos e]; rfl
theorem wl_ne {l j : Nat} (hj : j < (qsD n f k s h L W).length) (e : ¬ (qsD n f k s h L W)[j] / W = l) : wlN n f k s h L W l (j + 1) = wlN n f k s h L W l j ∧ llL n f k s h L W l (j + 1) = llL n f k s h L W l j := by
  obtain ⟨_, _, _, h4, h5⟩ := qs_at hj
  constructor
  · show whN (fpD n f k s h L) W l ((qsD n f k s h L W).take (j + 1)) = _
    rw [h5, wh_app, wh_one, if_neg e]; rfl
  · show leL (fpD n f k s h L) W l ((qsD n f k s h L W).take (j + 1)) = _
    rw [h5, le_app, le_one, if_neg e, List.append_nil]; rfl
theorem wl_end (hw : 0 < W) {l : Nat} (hl : l < L.toNat) : wlN n f k s h L W l (qsD n f k s h L W).length = (partL n f k s h L l).length := by
  show whN (fpD n f k s h L) W l ((qsD n f k s h L W).take (qsD n f k s h L W).length) = _
  rw [List.take_length, qs_all, wh_len hw hl]; rfl
theorem ln_end (hw : 0 < W) {l : Nat} (hl : l < L.toNat) : lnN n f k s h L W l = min W (partL n f k s h L l).length := by
  show (leL (fpD n f k s h L) W l ((qsD n f k s h L W).take (qsD n f k s h L W).length)).length = _
  rw [List.take_length, qs_all, le_len hw hl]; rfl
theorem ln_bnd (hw : 0 < W) {l i : Nat} (hi : i < lnN n f k s h L W l) : (((partL n f k s h L l).length / W : Nat) : Int) ≤ nv (lnF n f k s h L W l) i ∧ nv (lnF n f k s h L W l) i ≤ (((partL n f k s h L l).length / W : Nat) : Int) + 1 := by
  have e : nv (lnF n f k s h L W l) i = (((llL n f k s h L W l (qsD n f k s h L W).length)[i]'hi : Nat) : Int) := rowN_get hi
  have hm : (llL n f k s h L W l (qsD n f k s h L W).length)[i]'hi ∈ leL (fpD n f k s h L) W l (pcQ (fpD n f k s h L) W (L.toNat * W)) := by
    have := List.getElem_mem hi
    have e2 : ∀ x, x ∈ llL n f k s h L W l (qsD n f k s h L W).length → x ∈ leL (fpD n f k s h L) W l (pcQ (fpD n f k s h L) W (L.toNat * W)) := by
      show ∀ x, x ∈ leL (fpD n f k s h L) W l ((qsD n f k s h L W).take (qsD n f k s h L W).length) → _
      rw [List.take_length, qs_all]
      exact fun x hx => hx
    exact e2 _ this
  obtain ⟨_, m2, m3⟩ := le_mem hw hm
  have m2 : (partL n f k s h L l).length / W ≤ _ := m2
  have m3 : _ ≤ (partL n f k s h L l).length / W + 1 := m3
  rw [e]
  constructor
  · exact Int.ofNat_le.2 m2
  · exact Int.ofNat_le.2 m3
theorem ll_le {l j : Nat} : (llL n f k s h L W l j).length ≤ L.toNat * W := by
  show ((((qsD n f k s h L W).take j).filter _).map _).length ≤ _
  rw [List.length_map]
  refine Nat.le_trans (List.length_filter_le _ _) (Nat.le_trans (List.length_take_le' _ _) ?_)
  exact pcN_le _
end
end Go.RX.Span

/- Domain maps: the law of pieces: the inner loop. -/
set_option linter.unusedVariables false
set_option linter.unusedSimpArgs false
set_option maxRecDepth 100000
namespace Go.RX.Span
open Go Go.RX
attribute [local irreducible] sx conB

theorem twice {A B : Prop} (a : A) (b : A → B) : B := b a
structure XLi where
  (n : Nat) (f : Nat → R3) (k s h L : Int) (W l : Nat) (e : Int) (j : Nat)
noncomputable abbrev VLx (n : Nat) (f : Nat → R3) (k s h L : Int) (W l : Nat) (e : Int) (n1 n2 : Nat) (f2 : Nat → R1) (j : Nat) : Few :=
  (slLi L W (pnN n f k s h L W) (pnF n f k s h L W) l (partL n f k s h L l).length (rowN (partL n f k s h L l)) e (U.isz n1) n1 (U.isz n2) n2 (j : Int), memLi n f k s h (U.isz n1) n1 (rowN (partL n f k s h L l)) (U.isz n2) n2 f2)
noncomputable abbrev VLi (q : XLi) : Few := VLx q.n q.f q.k q.s q.h q.L q.W q.l q.e (wlN q.n q.f q.k q.s q.h q.L q.W q.l q.j) (llL q.n q.f q.k q.s q.h q.L q.W q.l q.j).length (rowN (llL q.n q.f q.k q.s q.h q.L q.W q.l q.j)) q.j
noncomputable def OLi (q : XLi) : Ex × Few := (.exit 2, VLx q.n q.f q.k q.s q.h q.L q.W q.l q.e (partL q.n q.f q.k q.s q.h q.L q.l).length (lnN q.n q.f q.k q.s q.h q.L q.W q.l) (lnF q.n q.f q.k q.s q.h q.L q.W q.l) (pnN q.n q.f q.k q.s q.h q.L q.W))
def PhiLi (n0 : Nat) (q : XLi) : Prop := n0 = 0 ∧ dmE q.n q.f q.k q.s q.h q.L = 0 ∧ szD q.n q.f q.k q.s q.h ≤ 300 ∧ 1 ≤ q.W ∧ q.W ≤ 64 ∧ q.l < q.L.toNat ∧ q.j ≤ (qsD q.n q.f q.k q.s q.h q.L q.W).length
theorem slLi_rl {ρ : Ren} {b1 b1' b2 b2' : Nat} {u1 u1' u2 u2' : Bool} {n1 n1' n2 n2' : Nat} {L w : Int} {N : Nat} {G : Nat → RE} {l : Int} {pN : Nat} {pF : Nat → R1} {e i i' : Int} (h0 : ρ.of 0 = some 0)
    (h1 : u1 = u1' ∧ n1 = n1' ∧ ρ.of b1' = some b1) (h2 : u2 = u2' ∧ n2 = n2' ∧ ρ.of b2' = some b2) (hi : i = i') :
    RlL ρ [.lit (.int .i64 L), .ptr 0 0, .lit (.int .i64 w), .row [.int .i64, .sl [.int .i64]] N G, .lit (.int .i64 l), .row [.int .i64] pN pF, .lit (.int .i64 e), .own u1 b1 n1, .own u2 b2 n2, .lit (.int .i64 L), .lit (.int .i64 l), .row [.int .i64, .sl [.int .i64]] N G, .lit (.int .i64 (N : Int)), .lit (.int .i64 i)]
      [.lit (.int .i64 L), .ptr 0 0, .lit (.int .i64 w), .row [.int .i64, .sl [.int .i64]] N G, .lit (.int .i64 l), .row [.int .i64] pN pF, .lit (.int .i64 e), .own u1' b1' n1', .own u2' b2' n2', .lit (.int .i64 L), .lit (.int .i64 l), .row [.int .i64, .sl [.int .i64]] N G, .lit (.int .i64 (N : Int)), .lit (.int .i64 i')] := by
  subst hi
  exact ⟨rfl, ⟨h0, rfl⟩, rfl, ⟨rfl, rowRE fun _ _ => rfl⟩, rfl, ⟨rfl, row1H fun _ _ => rfl⟩, rfl, h1, h2, rfl, rfl, ⟨rfl, rowRE fun _ _ => rfl⟩, rfl, rfl, trivial⟩
theorem roundLi (n0 : Nat) (q : XLi) (hq : PhiLi n0 q) : ((sx ELP [] n0 (loopOf P 6 14) (mkS 127 [1,3,7,8,10,11,12,13,14,45,46,56,57,58] (VLi q).1, (VLi q).2)).bind (proj 127 [1,3,7,8,10,11,12,13,14,45,46,56,57,58])).All fun r => match r.1 with
      | .normal => ∃ q', PhiLi n0 q' ∧ (qsD q'.n q'.f q'.k q'.s q'.h q'.L q'.W).length - q'.j < (qsD q.n q.f q.k q.s q.h q.L q.W).length - q.j ∧ Wk 127 [1,3,7,8,10,11,12,13,14,45,46,56,57,58] n0 r.2 (VLi q') ∧ ∀ o, o = OLi q' → o = OLi q
      | e => ∃ s, (e, s) = OLi q ∧ Wk 127 [1,3,7,8,10,11,12,13,14,45,46,56,57,58] n0 r.2 s := by
  obtain ⟨n, f, k, s, h, L, W, l, e, j⟩ := q
  obtain ⟨h0, hd, h3, w1, w2, hl, hj⟩ := hq
  have hj : j ≤ (qsD n f k s h L W).length := hj
  have hl : l < L.toNat := hl
  have w1 : 1 ≤ W := w1
  have w2 : W ≤ 64 := w2
  simp only [] at h0 hd h3
  subst h0
  have l8 := (dmE_zero.1 hd).2.1
  have lp := partL_len (n := n) (f := f) (k := k) (s := s) (h := h) (L := L) l
  have hz := szD_nn (dmE_zero.1 hd).2.2.1
  have lw : L.toNat * W ≤ 8 * 64 := Nat.mul_le_mul (by omega) w2
  have hN : pnN n f k s h L W = (qsD n f k s h L W).length := rfl
  have hQ : (qsD n f k s h L W).length ≤ L.toNat * W := pcN_le _
  have ll := ll_le (n := n) (f := f) (k := k) (s := s) (h := h) (L := L) (W := W) (l := l) (j := j)
  refine T.all_of_eq (t_Li n f k s h L W (pnN n f k s h L W) (pnF n f k s h L W) l e (partL n f k s h L l).length (rowN (partL n f k s h L l)) _ _ (wlN n f k s h L W l j) (llL n f k s h L W l j).length (rowN (partL n f k s h L l)) (rowN (llL n f k s h L W l j)) (j : Int)) ?_
  have e2 := add1p (j := j) (by omega)
  by_cases hlt : j < (qsD n f k s h L W).length
  · obtain ⟨g1, g2, g3, g4, g5⟩ := qs_at hlt
    have hpair := fun m (hm : m < j) => qs_pair hm hlt
    have hwl := fun (ee : (qsD n f k s h L W)[j] / W = l) => wl_at w1 hlt ee
    have hne := fun (ee : ¬ (qsD n f k s h L W)[j] / W = l) => wl_ne hlt ee
    generalize hq : (qsD n f k s h L W)[j] = q at *
    have gj : pnF n f k s h L W j = (((q / W : Nat) : Int), (pcS (fpD n f k s h L) W q, fun t => (fpD n f k s h L (q / W)).1.2 (t + cutN (fpD n f k s h L (q / W)).1.1 W (q % W))), ()) := g1
    simp only [e2, tnH, gj]
    refine ⟨fun _ => ⟨⟨by omega, by omega⟩, twice ?_ fun tail => ⟨fun g => ?_, fun _ => tail⟩⟩, fun g => absurd (U.lt_f.mp g) (by simp only [Int.ofNat_eq_natCast]; omega)⟩
    rotate_left
    · have g := U.gt_t.mp g
      obtain ⟨m, rfl⟩ : ∃ m : Nat, j = m + 1 := ⟨j - 1, by omega⟩
      have em : U.sub .i64 ((m + 1 : Nat) : Int) 1 = (m : Int) := by rw [U.sub64 (by unfold I64; omega)]; omega
      have hm : m < (qsD n f k s h L W).length := by omega
      obtain ⟨m1, _⟩ := qs_at hm
      have hlt2 := hpair m (by omega)
      have gm : pnF n f k s h L W m = ((((qsD n f k s h L W)[m] / W : Nat) : Int), (pcS (fpD n f k s h L) W (qsD n f k s h L W)[m], fun t => (fpD n f k s h L ((qsD n f k s h L W)[m] / W)).1.2 (t + cutN (fpD n f k s h L ((qsD n f k s h L W)[m] / W)).1.1 W ((qsD n f k s h L W)[m] % W))), ()) := m1
      have hdv : (qsD n f k s h L W)[m] / W ≤ q / W := Nat.div_le_div_right (Nat.le_of_lt hlt2)
      simp only [em, tnH, gm]
      exact ⟨⟨by omega, by omega⟩, fun g => absurd (U.gt_t.mp g) (by omega), fun _ => tail⟩
    · refine ⟨fun g => absurd (U.eq_t.mp g) (by simp only [Int.ofNat_eq_natCast]; omega), fun _ => ⟨fun g => ?_, fun g => ?_⟩⟩
      · have g : q / W = l := by have := U.eq_t.mp g; omega
        obtain ⟨v1, v2, v3⟩ := hwl g
        have bc : wlN n f k s h L W l j + pcS (fpD n f k s h L) W q ≤ (partL n f k s h L l).length := by
          have e3 := pcS_in (F := fpD n f k s h L) w1 g
          have e4 := cut_mono (partL n f k s h L l).length W (q % W) w1
          have e5 : q - l * W = q % W := by
            have := Nat.mod_add_div q W
            rw [g] at this
            have e2 : W * l = l * W := Nat.mul_comm _ _
            omega
          rw [e5] at e3
          have e3 : pcS (fpD n f k s h L) W q = cutN (partL n f k s h L l).length W (q % W + 1) - cutN (partL n f k s h L l).length W (q % W) := e3
          have e6 := cut_le (partL n f k s h L l).length W w1 (c := q % W + 1) (Nat.mod_lt _ w1)
          rw [v1, e3]; omega
        have es : (fpD n f k s h L (q / W)).1.2 = rowN (partL n f k s h L l) := by rw [g]; rfl
        have ec : cutN (fpD n f k s h L (q / W)).1.1 W (q % W) = wlN n f k s h L W l j := by rw [v1, g]; rfl
        have iz : U.isz (pcS (fpD n f k s h L) W q) = false := by rw [U.isz_eq]; exact decide_eq_false (by omega)
        have iw : U.isz (wlN n f k s h L W l (j + 1)) = false := by rw [U.isz_eq]; exact decide_eq_false (by omega)
        have il : U.isz (llL n f k s h L W l (j + 1)).length = false := by rw [U.isz_eq, v3]; exact decide_eq_false (by simp)
        have ln : (llL n f k s h L W l (j + 1)).length = (llL n f k s h L W l j).length + 1 := by rw [v3]; simp
        have ia : U.andb (U.isz (wlN n f k s h L W l j)) (U.isz (pcS (fpD n f k s h L) W q)) = U.isz (wlN n f k s h L W l (j + 1)) := by rw [U.andb_eq, iz, iw, Bool.and_false]
        refine ⟨?_, ?_, ⟨n, f, k, s, h, L, W, l, e, j + 1⟩, ⟨rfl, hd, h3, w1, w2, hl, hlt⟩, (show (qsD n f k s h L W).length - (j + 1) < (qsD n f k s h L W).length - j by omega), ?_, fun o ho => ho⟩
        · show (wlN n f k s h L W l j + pcS (fpD n f k s h L) W q) * 8 ≤ 140737488351232
          omega
        · show ((llL n f k s h L W l j).length + 1) * 8 ≤ 140737488351232
          omega
        · refine wk_of [some 0, some 4, some 6] rfl (Nat.zero_le _) (ren1z _) (slLi_rl rfl ⟨ia, v2.symm, rfl⟩ ⟨il.symm, ln.symm, rfl⟩ rfl)
            ⟨⟨rfl, ⟨rfl, sameR fun _ _ => rfl⟩, rfl, rfl, rfl, trivial⟩, ⟨rfl, ia, v2.symm, row1H fun t ht => ?_⟩, ⟨rfl, il.symm, ln.symm, row1H fun t ht => ?_⟩, trivial⟩
          · refine (U.cat_eq _ _ _ _).trans ?_
            by_cases ht' : t < wlN n f k s h L W l j
            · exact if_pos ht'
            · refine (if_neg ht').trans ?_
              show (fpD n f k s h L (q / W)).1.2 (t - wlN n f k s h L W l j + cutN (fpD n f k s h L (q / W)).1.1 W (q % W)) = rowN (partL n f k s h L l) t
              rw [es, ec, Nat.sub_add_cancel (by omega)]
          · refine (U.cat_eq _ _ _ _).trans ?_
            have ht : t < (llL n f k s h L W l (j + 1)).length := ht
            by_cases ht' : t < (llL n f k s h L W l j).length
            · refine (if_pos ht').trans (Prod.ext ?_ rfl)
              show (((llL n f k s h L W l j).getD t 0 : Nat) : Int) = (((llL n f k s h L W l (j + 1)).getD t 0 : Nat) : Int)
              rw [v3, List.getD_eq_getElem?_getD, List.getD_eq_getElem?_getD, List.getElem?_append_left ht']
            · obtain rfl : t = (llL n f k s h L W l j).length := by omega
              refine (if_neg ht').trans (Prod.ext ?_ rfl)
              show ((pcS (fpD n f k s h L) W q : Nat) : Int) = (((llL n f k s h L W l (j + 1)).getD (llL n f k s h L W l j).length 0 : Nat) : Int)
              rw [v3, List.getD_eq_getElem?_getD, List.getElem?_append_right (Nat.le_refl _), Nat.sub_self]; rfl
      · have g : ¬ q / W = l := fun w => absurd (U.eq_f.mp g) (by simp [w])
        obtain ⟨v2, v3⟩ := hne g
        refine ⟨⟨n, f, k, s, h, L, W, l, e, j + 1⟩, ⟨rfl, hd, h3, w1, w2, hl, hlt⟩, (show (qsD n f k s h L W).length - (j + 1) < (qsD n f k s h L W).length - j by omega), ?_, fun o ho => ho⟩
        refine wk_of [some 0, some 1, some 2] rfl (Nat.zero_le _) (ren1z _) (slLi_rl rfl ⟨congrArg U.isz v2.symm, v2.symm, rfl⟩ ⟨by rw [v3], by rw [v3], rfl⟩ rfl)
            ⟨⟨rfl, ⟨rfl, sameR fun _ _ => rfl⟩, rfl, rfl, rfl, trivial⟩, ⟨rfl, congrArg U.isz v2.symm, v2.symm, row1H fun t ht => rfl⟩, ⟨rfl, by rw [v3], by rw [v3], row1H fun t ht => by rw [v3]⟩, trivial⟩
  · obtain rfl : j = (qsD n f k s h L W).length := by omega
    have v2 := wl_end (n := n) (f := f) (k := k) (s := s) (h := h) w1 hl
    refine ⟨fun g => absurd (U.lt_t.mp g) (by simp only [Int.ofNat_eq_natCast]; omega), fun _ => ⟨_, rfl, ?_⟩⟩
    exact wk_of [some 0, some 1, some 2] rfl (Nat.zero_le _) (ren1z _) (slLi_rl rfl ⟨congrArg U.isz v2, v2, rfl⟩ ⟨rfl, rfl, rfl⟩ rfl)
      ⟨⟨rfl, ⟨rfl, sameR fun _ _ => rfl⟩, rfl, rfl, rfl, trivial⟩, ⟨rfl, congrArg U.isz v2, v2, row1H fun t ht => rfl⟩, ⟨rfl, rfl, rfl, row1H fun t ht => rfl⟩, trivial⟩
theorem loopLi : LoopOK P (loopOf P 6 14) (few 127 [1,3,7,8,10,11,12,13,14,45,46,56,57,58] gLi) :=
  loop_few (E := ELP) mixed ELP_ok loopsOK_none 127 [1,3,7,8,10,11,12,13,14,45,46,56,57,58] (X := XLi) gLi (fun _ x => VLi x) PhiLi (fun q => (qsD q.n q.f q.k q.s q.h q.L q.W).length - q.j) (fun _ x o => o = OLi x)
    (fun n0 st r h => by
      unfold gLi at h
      split at h
      · rename_i n0 L w N G l pN pF e L' l' N' G' N2 e0 n f k s h' t0
        obtain ⟨hp, rfl, rfl, rfl, rfl, rfl, rfl⟩ := (T.is_ask h).1
        obtain rfl := T.is_ret (T.is_ask h).2
        rw [lk_eq] at hp
        obtain ⟨⟨h0, hd, h3, w1, w2, hN, hG⟩, l0, l1, hpN, hpF⟩ := hp
        obtain ⟨W, rfl⟩ : ∃ W : Nat, w = (W : Int) := ⟨w.toNat, by omega⟩
        obtain ⟨ll, rfl⟩ : ∃ ll : Nat, l' = (ll : Int) := ⟨l'.toNat, by omega⟩
        subst h0 hN hG hpN hpF
        have z1 : wlN n f k s h' L' W ll 0 = 0 := rfl
        have z2 : (llL n f k s h' L' W ll 0).length = 0 := rfl
        have zi : U.isz 0 = true := by rw [U.isz_eq]; rfl
        refine ⟨⟨n, f, k, s, h', L', W, ll, e, 0⟩, ⟨rfl, hd, h3, (show 1 ≤ W by omega), (show W ≤ 64 by omega), (show ll < L'.toNat by omega), Nat.zero_le _⟩, wk_of [some 0, none, none] rfl (Nat.zero_le _) (ren1z _) ⟨rfl, ⟨rfl, rfl⟩, rfl, ⟨rfl, rowRE fun _ _ => rfl⟩, rfl, ⟨rfl, row1H fun _ _ => rfl⟩, rfl, ⟨rfl, zi, rfl⟩, ⟨rfl, zi, rfl⟩, rfl, rfl, ⟨rfl, rowRE fun _ _ => rfl⟩, rfl, rfl, trivial⟩ ⟨⟨rfl, ⟨rfl, sameR fun _ _ => rfl⟩, rfl, rfl, rfl, trivial⟩, ⟨zi, rfl⟩, ⟨zi, rfl⟩, trivial⟩, fun o ho => ?_⟩
        rw [ho]
        simp only [lk_eq]; rfl
      · exact h.elim)
    roundLi
theorem LLi_ok : LoopsOK P LLi (bodyOf P 6) := loopsOK_of (by kernel_rfl) fun k g hk => by
  simp only [List.mem_singleton, Prod.mk.injEq, LoopC.sum.injEq] at hk
  obtain ⟨rfl, rfl⟩ := hk
  exact loopLi
theorem LLi_sub : LoopsOK P LLi (loopOf P 6 8) := LLi_ok.sub (fun l hl => by
  rw [show loopsIn (bodyOf P 6) = loopOf P 6 8 :: loopsIn (loopOf P 6 8) by kernel_rfl]
  exact List.mem_cons_of_mem _ hl) fun l hl => by
  rw [show rangesIn (loopOf P 6 8) = [] by kernel_rfl] at hl; cases hl
end Go.RX.Span

/- Domain maps: the law of pieces returns true. -/
set_option linter.unusedVariables false
set_option linter.unusedSimpArgs false
set_option maxRecDepth 100000
namespace Go.RX.Span
open Go Go.RX
attribute [local irreducible] sx conB

structure XLo where
  (n : Nat) (f : Nat → R3) (k s h L : Int) (W j : Nat)
noncomputable abbrev VLo (q : XLo) : Few := (slLo q.L q.W (pnN q.n q.f q.k q.s q.h q.L q.W) (pnF q.n q.f q.k q.s q.h q.L q.W) (q.j : Int), [boxD q.n q.f q.k q.s q.h])
noncomputable def OLo (q : XLo) : Ex × Few := (.exit 0, (slLo q.L q.W (pnN q.n q.f q.k q.s q.h q.L q.W) (pnF q.n q.f q.k q.s q.h q.L q.W) q.L, [boxD q.n q.f q.k q.s q.h]))
def PhiLo (n0 : Nat) (q : XLo) : Prop := n0 = 0 ∧ dmE q.n q.f q.k q.s q.h q.L = 0 ∧ szD q.n q.f q.k q.s q.h ≤ 300 ∧ 1 ≤ q.W ∧ q.W ≤ 64 ∧ (q.j : Int) ≤ q.L
theorem slLo_rl {ρ : Ren} {L w : Int} {N : Nat} {G : Nat → RE} {i i' : Int} (h0 : ρ.of 0 = some 0) (hi : i = i') : RlL ρ (slLo L w N G i) (slLo L w N G i') := by
  subst hi
  exact ⟨rfl, ⟨h0, rfl⟩, rfl, ⟨rfl, rowRE fun _ _ => rfl⟩, rfl, rfl, trivial⟩
theorem roundLo (n0 : Nat) (q : XLo) (hq : PhiLo n0 q) : ((sx ELP LLi n0 (loopOf P 6 8) (mkS 127 [1,3,7,8,45,46] (VLo q).1, (VLo q).2)).bind (proj 127 [1,3,7,8,45,46])).All fun r => match r.1 with
      | .normal => ∃ q', PhiLo n0 q' ∧ q'.L.toNat - q'.j < q.L.toNat - q.j ∧ Wk 127 [1,3,7,8,45,46] n0 r.2 (VLo q') ∧ ∀ o, o = OLo q' → o = OLo q
      | e => ∃ s, (e, s) = OLo q ∧ Wk 127 [1,3,7,8,45,46] n0 r.2 s := by
  obtain ⟨n, f, k, s, h, L, W, j⟩ := q
  obtain ⟨h0, hd, h3, w1, w2, hj⟩ := hq
  have hj : (j : Int) ≤ L := hj
  have w1 : 1 ≤ W := w1
  have w2 : W ≤ 64 := w2
  simp only [] at h0 hd h3
  subst h0
  have d := dr_64 (chD_zero.1 (dmE_zero.1 hd).2.2.1).1
  have l8 := (dmE_zero.1 hd).2.1
  have lp := partL_len (n := n) (f := f) (k := k) (s := s) (h := h) (L := L) j
  have hz := szD_nn (dmE_zero.1 hd).2.2.1
  refine T.all_of_eq (t_Lo n f k s h L W (pnN n f k s h L W) (pnF n f k s h L W) (j : Int)) ?_
  have e2 := add1p (j := j) (by omega)
  by_cases hlt : (j : Int) < L
  · have z1 : lcE n f k s h L (j : Int) = 0 := lcE_zero.2 ⟨ls_of hd h3, by omega, hlt⟩
    have z2 : ptE n f k s h L (j : Int) = 0 := z1
    have z3 : ptN n f k s h L (j : Int) = (partL n f k s h L (j : Int)).length := by unfold ptN; rw [if_neg (by simp [z1])]
    have lnj := ln_end (n := n) (f := f) (k := k) (s := s) (h := h) (L := L) w1 (l := j) (by omega)
    have emin : U.mm false (W : Int) (Int.ofNat (partL n f k s h L (j : Int)).length) = ((lnN n f k s h L W j : Nat) : Int) := by
      rw [mm_min, lnj]; simp only [Int.ofNat_eq_natCast]; omega
    simp only [e2, lk_eq, tnH, z2, z3, emin]
    refine ⟨fun _ => ⟨d, ⟨⟨⟨rfl, hd, h3, by omega, by omega, rfl, rfl⟩, by omega, hlt, rfl, rfl⟩, trivial, trivial, trivial, trivial, trivial, trivial⟩, fun g => absurd rfl (U.ne_t.mp g), fun _ => ⟨?_, fun g => absurd (U.not_t.mp g) (by rw [eqR_self]; decide), fun _ => ⟨fun g => absurd rfl (U.ne_t.mp g), fun _ => twice ?_ fun nx => ⟨fun g => ⟨⟨?_, ?_⟩, ⟨?_, ?_⟩, fun g2 => ?_, fun _ => nx⟩, fun _ => nx⟩⟩⟩⟩, fun g => absurd (U.lt_f.mp g) (by omega)⟩
    · show (partL n f k s h L (j : Int)).length ≤ 9223372036854775807
      omega
    rotate_left
    · have g := U.gt_t.mp g; simp only [Int.ofNat_eq_natCast] at g; omega
    · omega
    · have g := U.gt_t.mp g; simp only [Int.ofNat_eq_natCast] at g; omega
    · omega
    · have g := U.gt_t.mp g
      simp only [Int.ofNat_eq_natCast] at g
      have hb : ∀ i, i < lnN n f k s h L W j ∨ i = 0 → _ ∧ _ := fun i hi => ln_bnd (n := n) (f := f) (k := k) (s := s) (h := h) (L := L) w1 (l := j) (i := i) (by omega)
      have b1 := mm_lo (b := true) hb
      have b2 := mm_lo (b := false) hb
      have bl : (partL n f k s h L (j : Int)).length / W ≤ (partL n f k s h L (j : Int)).length := Nat.div_le_self _ _
      have g2 := U.gt_t.mp g2
      generalize (partL n f k s h L (j : Int)).length / W = z at *
      rw [U.sub64 (by unfold I64; omega)] at g2
      omega
    · refine ⟨⟨n, f, k, s, h, L, W, j + 1⟩, ⟨rfl, hd, h3, w1, w2, (show ((j + 1 : Nat) : Int) ≤ L by omega)⟩, (show L.toNat - (j + 1) < L.toNat - j by omega), ?_, fun o ho => ho⟩
      exact wk_of [some 0] rfl (Nat.zero_le _) (ren1z _) (slLo_rl rfl rfl) ⟨⟨rfl, ⟨rfl, sameR fun _ _ => rfl⟩, rfl, rfl, rfl, trivial⟩, trivial⟩
  · have ej : (j : Int) = L := by omega
    refine ⟨fun g => absurd (U.lt_t.mp g) (by omega), fun _ => ⟨_, rfl, ?_⟩⟩
    exact wk_of [some 0] rfl (Nat.zero_le _) (ren1z _) (slLo_rl rfl ej) ⟨⟨rfl, ⟨rfl, sameR fun _ _ => rfl⟩, rfl, rfl, rfl, trivial⟩, trivial⟩
theorem loopLo : LoopOK P (loopOf P 6 8) (few 127 [1,3,7,8,45,46] gLo) :=
  loop_few (E := ELP) mixed ELP_ok LLi_sub 127 [1,3,7,8,45,46] (X := XLo) gLo (fun _ x => VLo x) PhiLo (fun q => q.L.toNat - q.j) (fun _ x o => o = OLo x)
    (fun n0 st r h => by
      unfold gLo at h
      split at h
      · rename_i n0 L w N G L' e0 n f k s h' t0
        obtain ⟨hp, rfl, rfl⟩ := (T.is_ask h).1
        obtain rfl := T.is_ret (T.is_ask h).2
        rw [lk_eq] at hp
        obtain ⟨h0, hd, h3, w1, w2, hN, hG⟩ := hp
        obtain ⟨W, rfl⟩ : ∃ W : Nat, w = (W : Int) := ⟨w.toNat, by omega⟩
        subst h0 hN hG
        have l0 := (dmE_zero.1 hd).1
        exact ⟨⟨n, f, k, s, h', L', W, 0⟩, ⟨rfl, hd, h3, (show 1 ≤ W by omega), (show W ≤ 64 by omega), (show ((0 : Nat) : Int) ≤ L' by omega)⟩, wk_of [some 0] rfl (Nat.zero_le _) (ren1z _) (slLo_rl rfl rfl) ⟨⟨rfl, ⟨rfl, sameR fun _ _ => rfl⟩, rfl, rfl, rfl, trivial⟩, trivial⟩, fun o ho => ho⟩
      · exact h.elim)
    roundLo
theorem lLP_ok : ∀ p ∈ lLP, LoopsOK P p.2 (bodyOf P p.1) := by
  intro p hp
  simp only [lLP, List.mem_singleton] at hp
  subst hp
  refine loopsOK_of (by kernel_rfl) fun k g hk => ?_
  simp only [List.mem_cons, List.not_mem_nil, or_false, Prod.mk.injEq, LoopC.sum.injEq] at hk
  rcases hk with ⟨rfl, rfl⟩ | ⟨rfl, rfl⟩
  · exact loopLi
  · exact loopLo
end Go.RX.Span

/- Domain maps: the law of pieces. -/
set_option linter.unusedVariables false
set_option linter.unusedSimpArgs false
set_option maxRecDepth 100000
namespace Go.RX.Span
open Go Go.RX
attribute [local irreducible] sx conB

section
variable (n : Nat) (f : Nat → R3) (k s h L w : Int)
noncomputable abbrev wvP (w : Int) : Int := U.add .i64 (U.rem (U.wrap .i64 w) 64) 1
noncomputable def wP6 (l : List Bool) : T SV := (conB P (conOf kLP) (loopsOf lLP) 10 6 [.agg [.row [.int .i64, .int .i64, .int .i64] n f, .lit (.int .i64 k), .lit (.int .i64 s), .lit (.int .i64 h)], .lit (.int .i64 L), .lit (.int .u8 w)]).force l
theorem t_P61 : wP6 n f k s h L w [true] = .ask ((64 : Int) ≠ 0) (.ask (Row64 n f) (.ask (U.not (lk fewB n f k s h 300) = true) (.ret (.lit (.bool true))))) := by kernel_rfl
theorem t_P62 : wP6 n f k s h L w [false, true] = .ask ((64 : Int) ≠ 0) (.ask (Row64 n f) (.ask (U.not (lk fewB n f k s h 300) = false) (.ask (Row64 n f) (.ask (U.ne (lk dmE n f k s h L) 0 = true) (.ret (.lit (.bool true))))))) := by kernel_rfl
theorem t_P63 : wP6 n f k s h L w [false, false, true] = .ask ((64 : Int) ≠ 0) (.ask (Row64 n f) (.ask (U.not (lk fewB n f k s h 300) = false) (.ask (Row64 n f) (.ask (U.ne (lk dmE n f k s h L) 0 = false) (.ask (Row64 n f) (.ask (U.gt (lk szD n f k s h) 300 = true) (.ret (.lit (.bool true))))))))) := by kernel_rfl
theorem t_P64 : wP6 n f k s h L w [false, false, false, false] = .ask ((64 : Int) ≠ 0) (.ask (Row64 n f) (.ask (U.not (lk fewB n f k s h 300) = false) (.ask (Row64 n f) (.ask (U.ne (lk dmE n f k s h L) 0 = false) (.ask (Row64 n f) (.ask (U.gt (lk szD n f k s h) 300 = false)
    (.ask (lk PnAsk n f k s h L (wvP w)) (.ask (U.ne 0 0 = false) (.ask (lk PreLo 0 n f k s h L (wvP w) (lk pnN n f k s h L (wvP w)) (lk pnF n f k s h L (wvP w)) ∧ L = L ∧ (49 : Nat) = 49) (.ret (.lit (.bool true)))))))))))) := by kernel_rfl
end
noncomputable def c_DmapPieces : Con := fun args => match args with
  | [.agg [.row [.int .i64, .int .i64, .int .i64] n f, .lit (.int .i64 k), .lit (.int .i64 s), .lit (.int .i64 h)], .lit (.int .i64 L), .lit (.int .u8 w)] => .ask (Row64 n f ∧ 0 ≤ w ∧ w ≤ 255) (.ret (.lit (.bool true)))
  | _ => .stuck 1
theorem DmapPieces_ok : ConOK P 6 c_DmapPieces := con_force (allOKL mixed kLP_ok lLP_ok) 10 6 fun args r hh => by
  unfold c_DmapPieces at hh
  split at hh
  · rename_i n f k s h L w
    obtain ⟨d, w0, w1⟩ := (T.is_ask hh).1
    obtain rfl := T.is_ret (T.is_ask hh).2
    show ∃ l, (wP6 n f k s h L w l).All fun v => Cl v (.lit (.bool true))
    have six : (64 : Int) ≠ 0 := by decide
    by_cases h1 : fewB n f k s h 300 = true
    rotate_left
    · exact ⟨_, by rw [t_P61]; simp only [lk_eq]; exact ⟨six, d, U.not_t.mpr (by simpa using h1), .inl rfl⟩⟩
    by_cases hd : dmE n f k s h L = 0
    rotate_left
    · exact ⟨_, by rw [t_P62]; simp only [lk_eq]; exact ⟨six, d, U.not_f.mpr h1, d, U.ne_t.mpr hd, .inl rfl⟩⟩
    by_cases h3 : szD n f k s h ≤ 300
    rotate_left
    · exact ⟨_, by rw [t_P63]; simp only [lk_eq]; exact ⟨six, d, U.not_f.mpr h1, d, U.ne_f.mpr hd, d, U.gt_t.mpr (by omega), .inl rfl⟩⟩
    have ew : 1 ≤ wvP w ∧ wvP w ≤ 64 := by
      have e1 : U.wrap .i64 w = w := by rw [U.wrap_eq]; exact IntWalk.i64_in _ (by omega)
      have e2 : w.tmod 64 = w % 64 := Int.tmod_eq_emod_of_nonneg w0
      show 1 ≤ U.add .i64 (U.rem (U.wrap .i64 w) 64) 1 ∧ U.add .i64 (U.rem (U.wrap .i64 w) 64) 1 ≤ 64
      rw [e1, U.rem64, e2, U.add64 (by unfold I64; omega)]
      omega
    exact ⟨_, by
      rw [t_P64]; simp only [lk_eq]
      exact ⟨six, d, U.not_f.mpr h1, d, U.ne_f.mpr hd, d, U.gt_f.mpr h3, ⟨d, ls_of hd h3, ew.1, ew.2⟩, U.ne_f.mpr rfl, ⟨⟨rfl, hd, h3, ew.1, ew.2, rfl, rfl⟩, trivial, trivial⟩, .inl rfl⟩⟩
  · exact hh.elim
end Go.RX.Span

