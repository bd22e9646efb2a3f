/- The hash of an index: the contracts. -/
import Derived.Test.YtoncmmlgpecklaaQKg
import Derived.Test.YtoncmmlgpecklaaQKb
set_option linter.unusedVariables false
set_option linter.unusedSimpArgs false
set_option maxRecDepth 100000
namespace Go.RX.Span
open Go Go.RX
attribute [local irreducible] sx conB

theorem tm_em {a b : Int} (hb : 0 < b) : (a.tmod b < 0 → a.tmod b + b = emd a b) ∧ (¬ a.tmod b < 0 → a.tmod b = emd a b) ∧ -b < a.tmod b ∧ a.tmod b < b := by
  have h1 := Int.tmod_add_mul_tdiv a b
  have h2 : a.tmod b < b := Int.tmod_lt_of_pos _ hb
  have h3 : -b < a.tmod b := by
    have := Int.lt_tmod_of_pos a hb
    omega
  refine ⟨fun h => ?_, fun h => ?_, h3, h2⟩
  · have e : a = (a.tmod b + b) + b * (a.tdiv b - 1) := by rw [Int.mul_sub, Int.mul_one]; omega
    unfold emd
    conv => rhs; rw [e]
    rw [Int.add_mul_emod_self_left, Int.emod_eq_of_lt (by omega) (by omega)]
  · unfold emd
    conv => rhs; rw [← h1]
    rw [Int.add_mul_emod_self_left, Int.emod_eq_of_lt (by omega) h2]
theorem dmod_ok : ConOK P 138 c_dmod := con_of (allOK mixed none_ok) 10 138 fun args r h => by
  unfold c_dmod at h
  split at h
  · rename_i a b
    obtain ⟨h0, h1, h2⟩ := (T.is_ask h).1
    obtain rfl := T.is_ret (T.is_ask h).2
    obtain ⟨m1, m2, m3, m4⟩ := tm_em (a := a) h0
    rw [t_dmod]
    simp only [U.rem_eq, lk_eq]
    refine ⟨by omega, fun hn => ?_, fun hn => ?_⟩
    · have hn := U.lt_t.mp hn
      show SV.lit (.int .i64 (U.add .i64 (a.tmod b) b)) = _
      rw [U.add64 (by unfold I64; omega), m1 hn]
    · have hn := U.lt_f.mp hn
      show SV.lit (.int .i64 (a.tmod b)) = _
      rw [m2 (by omega)]
  · exact h.elim
theorem kHm_ok : ∀ p ∈ kHm, ConOK P p.1 p.2 := by
  intro p hp
  simp only [kHm, List.mem_singleton] at hp
  subst hp
  exact dmod_ok
theorem EHm_ok : EnvOK EHm := envOK (allOK mixed kHm_ok) 10
theorem hash_step (e : Nat → R1) (j : Nat) : U.rem (U.add .i64 (U.mul .i64 31 (hashN e j)) (emd (nv e j) 1000003)) 1000003 = hashN e (j + 1) := by
  have hb := hashN_bnd e j
  have e1 := Int.emod_nonneg (nv e j) (show (1000003 : Int) ≠ 0 by decide)
  have e2 := Int.emod_lt_of_pos (nv e j) (show (0 : Int) < 1000003 by decide)
  have em : emd (nv e j) 1000003 = nv e j % 1000003 := rfl
  rw [em, U.rem_eq, U.mul64 (by unfold I64; omega), U.add64 (by unfold I64; omega), Int.tmod_eq_emod_of_nonneg (by omega)]
  rfl
structure XH where
  (n : Nat) (e : Nat → R1) (j : Nat)
noncomputable abbrev VHp (q : XH) : Few := ([.lit (.int .i64 (hashN q.e q.j)), .row [.int .i64] q.n q.e, .lit (.int .i64 (q.n : Int)), .lit (.int .i64 (q.j : Int))], [])
noncomputable abbrev VHr (q : XH) : Few := ([.row [.int .i64] q.n q.e, .lit (.int .i64 (hashN q.e q.j)), .lit (.int .i64 (q.j : Int))], [])
noncomputable def OHp (q : XH) : Ex × Few := (.exit 0, VHp { q with j := q.n })
noncomputable def OHr (q : XH) : Ex × Few := (.exit 0, VHr { q with j := q.n })
def PhiH (n0 : Nat) (q : XH) : Prop := PreH n0 q.n q.e ∧ q.j ≤ q.n
theorem row1H {n : Nat} {f g : Nat → R1} (h : ∀ i, i < n → f i = g i) : sameRow n f g := ⟨eqShs_refl _, fun i hi => h i hi⟩
theorem tnH (j : Nat) : U.toNat (j : Int) = j := tn j
theorem roundHp (n0 : Nat) (q : XH) (hq : PhiH n0 q) : ((sx EHm [] n0 (loopOf P 53 3) (mkS 20 [3,6,7,8] (VHp q).1, (VHp q).2)).bind (proj 20 [3,6,7,8])).All fun r => match r.1 with
      | .normal => ∃ q', PhiH n0 q' ∧ q'.n - q'.j < q.n - q.j ∧ Wk 20 [3,6,7,8] n0 r.2 (VHp q') ∧ ∀ o, o = OHp q' → o = OHp q
      | e => ∃ s, (e, s) = OHp q ∧ Wk 20 [3,6,7,8] n0 r.2 s := by
  obtain ⟨n, e, j⟩ := q
  obtain ⟨⟨h0, hn, he⟩, hj⟩ := hq
  simp only [] at h0 hn he hj
  subst h0
  refine T.all_of_eq (t_Hp 0 n e (hashN e j) (j : Int)) ?_
  have e2 : U.add .i64 (j : Int) 1 = ((j + 1 : Nat) : Int) := by rw [U.add64 (by unfold I64; omega)]; omega
  simp only [tnH, e2, lk_eq]
  have w0 : ∀ {vs vs' : List SV}, RlL (idR 0) vs vs' → Wk 20 [3,6,7,8] 0 (vs, []) (vs', []) := fun h => wk_of (idR 0) rfl (Nat.zero_le _) (fun b hb => by omega) h trivial
  by_cases hlt : j < n
  · refine ⟨fun _ => ⟨⟨by omega, by omega⟩, ⟨by decide, by decide, he j hlt⟩, by decide, ⟨n, e, j + 1⟩, ⟨⟨rfl, hn, he⟩, by simp only []; omega⟩, by simp only []; omega, w0 ⟨?_, ⟨rfl, row1H fun _ _ => rfl⟩, rfl, rfl, trivial⟩, fun o ho => ho⟩, fun h => absurd (U.lt_f.mp h) (by simp only [Int.ofNat_eq_natCast]; omega)⟩
    show Value.int .i64 _ = Value.int .i64 _
    exact congrArg _ (hash_step e j)
  · obtain rfl : j = n := by omega
    exact ⟨fun h => absurd (U.lt_t.mp h) (by simp only [Int.ofNat_eq_natCast]; omega), fun _ => ⟨_, rfl, w0 ⟨rfl, ⟨rfl, row1H fun _ _ => rfl⟩, rfl, rfl, trivial⟩⟩⟩
theorem roundHr (n0 : Nat) (q : XH) (hq : PhiH n0 q) : ((sx E0 [] n0 (loopOf P 54 3) (mkS 27 [0,3,4] (VHr q).1, (VHr q).2)).bind (proj 27 [0,3,4])).All fun r => match r.1 with
      | .normal => ∃ q', PhiH n0 q' ∧ q'.n - q'.j < q.n - q.j ∧ Wk 27 [0,3,4] n0 r.2 (VHr q') ∧ ∀ o, o = OHr q' → o = OHr q
      | e => ∃ s, (e, s) = OHr q ∧ Wk 27 [0,3,4] n0 r.2 s := by
  obtain ⟨n, e, j⟩ := q
  obtain ⟨⟨h0, hn, he⟩, hj⟩ := hq
  simp only [] at h0 hn he hj
  subst h0
  refine T.all_of_eq (t_Hr 0 n e (hashN e j) (j : Int)) ?_
  have e2 : U.add .i64 (j : Int) 1 = ((j + 1 : Nat) : Int) := by rw [U.add64 (by unfold I64; omega)]; omega
  simp only [tnH, e2, lk_eq]
  have w0 : ∀ {vs vs' : List SV}, RlL (idR 0) vs vs' → Wk 27 [0,3,4] 0 (vs, []) (vs', []) := fun h => wk_of (idR 0) rfl (Nat.zero_le _) (fun b hb => by omega) h trivial
  by_cases hlt : j < n
  · obtain ⟨m1, m2, m3, m4⟩ := tm_em (a := nv e j) (b := 1000003) (by decide)
    have key : ∀ x, x = emd (nv e j) 1000003 → ∃ q' : XH, PhiH 0 q' ∧ q'.n - q'.j < n - j ∧ Wk 27 [0,3,4] 0 ([.row [.int .i64] n e, .lit (.int .i64 (U.rem (U.add .i64 (U.mul .i64 31 (hashN e j)) x) 1000003)), .lit (.int .i64 ((j + 1 : Nat) : Int))], []) (VHr q') ∧ ∀ o, o = OHr q' → o = OHr ⟨n, e, j⟩ := fun x hx => by
      subst hx
      refine ⟨⟨n, e, j + 1⟩, ⟨⟨rfl, hn, he⟩, by simp only []; omega⟩, by simp only []; omega, w0 ⟨⟨rfl, row1H fun _ _ => rfl⟩, ?_, rfl, trivial⟩, fun o ho => ho⟩
      show Value.int .i64 _ = Value.int .i64 _
      exact congrArg _ (hash_step e j)
    refine ⟨fun _ => ⟨⟨by omega, by omega⟩, by decide, fun hh => ⟨by decide, ?_⟩, fun hh => ⟨by decide, ?_⟩⟩, fun h => absurd (U.lt_f.mp h) (by simp only [Int.ofNat_eq_natCast]; omega)⟩
    · refine key _ ?_
      have hh : U.rem (nv e j) 1000003 < 0 := U.lt_t.mp hh
      rw [U.rem_eq] at hh
      show U.add .i64 (U.rem (nv e j) 1000003) 1000003 = _
      rw [U.rem_eq, U.add64 (by unfold I64; omega), m1 hh]
    · refine key _ ?_
      have hh : 0 ≤ U.rem (nv e j) 1000003 := U.lt_f.mp hh
      rw [U.rem_eq] at hh
      show U.rem (nv e j) 1000003 = _
      rw [U.rem_eq, m2 (by omega)]
  · obtain rfl : j = n := by omega
    exact ⟨fun h => absurd (U.lt_t.mp h) (by simp only [Int.ofNat_eq_natCast]; omega), fun _ => ⟨_, rfl, w0 ⟨⟨rfl, row1H fun _ _ => rfl⟩, rfl, rfl, trivial⟩⟩⟩
theorem loopHp : LoopOK P (loopOf P 53 3) (few 20 [3,6,7,8] gHp) :=
  loop_few (E := EHm) mixed EHm_ok loopsOK_none 20 [3,6,7,8] (X := XH) gHp (fun _ x => VHp x) PhiH (fun q => q.n - q.j) (fun _ x o => o = OHp x)
    (fun n0 st r h => by
      unfold gHp at h
      split at h
      · rename_i n0 n e N'
        obtain ⟨hp, rfl⟩ := (T.is_ask h).1
        obtain rfl := T.is_ret (T.is_ask h).2
        rw [lk_eq] at hp
        have h0 := hp.1
        subst h0
        exact ⟨⟨n, e, 0⟩, ⟨hp, Nat.zero_le _⟩, wk_of (idR 0) rfl (Nat.zero_le _) (fun b hb => by omega) ⟨rfl, ⟨rfl, row1H fun _ _ => rfl⟩, rfl, rfl, trivial⟩ trivial, fun o ho => by rw [ho]; simp only [lk_eq]; rfl⟩
      · exact h.elim)
    roundHp
theorem loopHr : LoopOK P (loopOf P 54 3) (few 27 [0,3,4] gHr) :=
  loop_few (E := E0) mixed E0_ok loopsOK_none 27 [0,3,4] (X := XH) gHr (fun _ x => VHr x) PhiH (fun q => q.n - q.j) (fun _ x o => o = OHr x)
    (fun n0 st r h => by
      unfold gHr at h
      split at h
      · rename_i n0 n e
        have hp := (T.is_ask h).1
        obtain rfl := T.is_ret (T.is_ask h).2
        rw [lk_eq] at hp
        have h0 := hp.1
        subst h0
        exact ⟨⟨n, e, 0⟩, ⟨hp, Nat.zero_le _⟩, wk_of (idR 0) rfl (Nat.zero_le _) (fun b hb => by omega) ⟨⟨rfl, row1H fun _ _ => rfl⟩, rfl, rfl, trivial⟩ trivial, fun o ho => by rw [ho]; simp only [lk_eq]; rfl⟩
      · exact h.elim)
    roundHr
theorem lHp_ok : ∀ p ∈ lHp, LoopsOK P p.2 (bodyOf P p.1) := by
  intro p hp
  simp only [lHp, List.mem_singleton] at hp
  subst hp
  refine loopsOK_of (by kernel_rfl) fun k g hk => ?_
  simp only [List.mem_singleton, Prod.mk.injEq, LoopC.sum.injEq] at hk
  obtain ⟨rfl, rfl⟩ := hk
  exact loopHp
theorem lHr_ok : ∀ p ∈ lHr, LoopsOK P p.2 (bodyOf P p.1) := by
  intro p hp
  simp only [lHr, List.mem_singleton] at hp
  subst hp
  refine loopsOK_of (by kernel_rfl) fun k g hk => ?_
  simp only [List.mem_singleton, Prod.mk.injEq, LoopC.sum.injEq] at hk
  obtain ⟨rfl, rfl⟩ := hk
  exact loopHr
end Go.RX.Span

/- The hash of an index: the functions. -/
set_option linter.unusedVariables false
set_option linter.unusedSimpArgs false
set_option maxRecDepth 100000
namespace Go.RX.Span
open Go Go.RX
attribute [local irreducible] sx conB

--%R ↑n = ↑n => ((n : Nat) : Int) = ((n : Nat) : Int)
set_option maxRecDepth 100000 in
theorem t_Hash (n : Nat) (e : Nat → R1) : conB Go.Proofs.Try.prog (conOf kHm) (loopsOf lHp) 10 53 [.row [.int .i64] n e] =
    T.ask (lk PreH (nat_lit 0) n e ∧ ((n : Nat) : Int) = ((n : Nat) : Int)) (.ret (.lit (.int .i64 (lk hashN e n)))) := by kernel_rfl
set_option maxRecDepth 100000 in
theorem t_qHash (n : Nat) (e : Nat → R1) : conB Go.Proofs.Try.prog (conOf []) (loopsOf lHr) 10 54 [.row [.int .i64] n e] =
    T.ask (lk PreH (nat_lit 0) n e) (.ret (.lit (.int .i64 (lk hashN e n)))) := by kernel_rfl
theorem Hash_ok : ConOK P 53 c_Hash := con_of (allOKL mixed kHm_ok lHp_ok) 10 53 fun args r h => by
  unfold c_Hash at h
  split at h
  · rename_i n e
    obtain ⟨h1, h2⟩ := (T.is_ask h).1
    obtain rfl := T.is_ret (T.is_ask h).2
    rw [t_Hash]
    simp only [lk_eq]
    exact ⟨⟨⟨rfl, h1, h2⟩, trivial⟩, rfl⟩
  · exact h.elim
theorem qHash_ok : ConOK P 54 c_Hash := con_of (allOKL mixed none_ok lHr_ok) 10 54 fun args r h => by
  unfold c_Hash at h
  split at h
  · rename_i n e
    obtain ⟨h1, h2⟩ := (T.is_ask h).1
    obtain rfl := T.is_ret (T.is_ask h).2
    rw [t_qHash]
    simp only [lk_eq]
    exact ⟨⟨rfl, h1, h2⟩, rfl⟩
  · exact h.elim
end Go.RX.Span

/- Domain maps: contracts of the small functions. -/
set_option linter.unusedVariables false
set_option linter.unusedSimpArgs false
set_option maxRecDepth 100000
namespace Go.RX.Span
open Go Go.RX
attribute [local irreducible] sx conB

noncomputable abbrev kU0 : List (Nat × Con) := [(63, c_DCheck), (41, c_DSize), (88, c_DHas), (68, c_DNth), (120, c_Position), (28, c_Size), (53, c_Hash), (172, c_DAll)] --%K
theorem kU0_ok : ∀ p ∈ kU0, ConOK P p.1 p.2 := by
  intro p hp
  simp only [kU0, List.mem_cons, List.not_mem_nil, or_false] at hp
  rcases hp with rfl | rfl | rfl | rfl | rfl | rfl | rfl | rfl
  · exact DCheck_ok
  · exact DSize_ok
  · exact DHas_ok
  · exact DNth_ok
  · exact Position_ok
  · exact Size_ok
  · exact Hash_ok
  · exact DAll_ok
noncomputable abbrev kQ0 : List (Nat × Con) := [(86, c_DCheck), (87, c_DSize), (89, c_DHas), (84, c_DNth), (166, c_Position), (143, c_Size), (54, c_Hash)] --%K
theorem kQ0_ok : ∀ p ∈ kQ0, ConOK P p.1 p.2 := by
  intro p hp
  simp only [kQ0, List.mem_cons, List.not_mem_nil, or_false] at hp
  rcases hp with rfl | rfl | rfl | rfl | rfl | rfl | rfl
  · exact qCheck_ok
  · exact qSize_ok
  · exact qHas_ok
  · exact qNth_ok
  · exact rPosition_ok
  · exact rSize_ok
  · exact qHash_ok
noncomputable def c_dmCheck : Con := fun args => match args with
  | [.agg [.row [.int .i64, .int .i64, .int .i64] n f, .lit (.int .i64 k), .lit (.int .i64 s), .lit (.int .i64 h)], .lit (.int .i64 L)] => .ask (Row64 n f) (.ret (.lit (.int .i64 (lk dmE n f k s h L))))
  | _ => .stuck 1
/-- The error where a list is made. -/
def lsE (n : Nat) (f : Nat → R3) (k s h L : Int) : Int := if dmE n f k s h L ≠ 0 then dmE n f k s h L else if 5000 < szD n f k s h then 7 else 0
/-- The same, with a locale. -/
def lcE (n : Nat) (f : Nat → R3) (k s h L l : Int) : Int := if lsE n f k s h L ≠ 0 then lsE n f k s h L else if l < 0 ∨ L ≤ l then 4 else 0
noncomputable def c_listed : Con := fun args => match args with
  | [.agg [.row [.int .i64, .int .i64, .int .i64] n f, .lit (.int .i64 k), .lit (.int .i64 s), .lit (.int .i64 h)], .lit (.int .i64 L)] => .ask (Row64 n f) (.ret (.lit (.int .i64 (lk lsE n f k s h L))))
  | _ => .stuck 1
noncomputable def c_located : Con := fun args => match args with
  | [.agg [.row [.int .i64, .int .i64, .int .i64] n f, .lit (.int .i64 k), .lit (.int .i64 s), .lit (.int .i64 h)], .lit (.int .i64 L), .lit (.int .i64 l)] => .ask (Row64 n f) (.ret (.lit (.int .i64 (lk lcE n f k s h L l))))
  | _ => .stuck 1
end Go.RX.Span

/- Domain maps: the small functions. -/
set_option linter.unusedVariables false
set_option linter.unusedSimpArgs false
set_option maxRecDepth 100000
namespace Go.RX.Span
open Go Go.RX
attribute [local irreducible] sx conB

--%R ofList\s+\[\((\S+),\s+\(\)\) => ofList (ss := [.int .i64]) [(\1, ())
--%R ↑\((2) : Nat\) => ((\1 : Nat) : Int)
--%R ↑\(\(0 : Nat\) \+ n \+ \(1 : Nat\)\) => (((0 : Nat) + n + (1 : Nat) : Nat) : Int)
set_option maxRecDepth 100000 in
theorem t_dmCheck (n : Nat) (f : Nat → R3) (k s h L : Int) : conB Go.Proofs.Try.prog (conOf kU0) noLoops 10 40 [.agg [.row [.int .i64, .int .i64, .int .i64] n f, .lit (.int .i64 k), .lit (.int .i64 s), .lit (.int .i64 h)], .lit (.int .i64 L)] =
    T.br (U.lt L (1 : Int)) (.ret (.lit (.int .i64 4))) (.br (U.gt L (8 : Int)) (.ret (.lit (.int .i64 4))) (.ask (Row64 n f) (.br (U.ne (lk chD n f k s h) (0 : Int)) (.ret (.lit (.int
      .i64 (lk chD n f k s h)))) (.br (U.eq k (0 : Int)) (.br (U.ge h L) (.ret (.lit (.int .i64 70))) (.ret (.lit (.int .i64 0)))) (.ret (.lit (.int .i64 0))))))) := by kernel_rfl
set_option maxRecDepth 100000 in
theorem t_listed (n : Nat) (f : Nat → R3) (k s h L : Int) : conB Go.Proofs.Try.prog (conOf ((40, c_dmCheck) :: kU0)) noLoops 10 129 [.agg [.row [.int .i64, .int .i64, .int .i64] n f, .lit (.int .i64 k), .lit (.int .i64 s), .lit (.int .i64 h)], .lit (.int .i64 L)] =
    T.ask (Row64 n f) (.br (U.ne (lk dmE n f k s h L) (0 : Int)) (.ret (.lit (.int .i64 (lk dmE n f k s h L)))) (.ask (Row64 n f) (.br (U.gt (lk szD n f k s h) (5000 : Int)) (.ret (.lit
      (.int .i64 7))) (.ret (.lit (.int .i64 0)))))) := by kernel_rfl
set_option maxRecDepth 100000 in
theorem t_located (n : Nat) (f : Nat → R3) (k s h L l : Int) : conB Go.Proofs.Try.prog (conOf [(129, c_listed)]) noLoops 10 134 [.agg [.row [.int .i64, .int .i64, .int .i64] n f, .lit (.int .i64 k), .lit (.int .i64 s), .lit (.int .i64 h)], .lit (.int .i64 L), .lit (.int .i64 l)] =
    T.ask (Row64 n f) (.br (U.ne (lk lsE n f k s h L) (0 : Int)) (.ret (.lit (.int .i64 (lk lsE n f k s h L)))) (.br (U.lt l (0 : Int)) (.ret (.lit (.int .i64 4))) (.br (U.ge l L) (.ret
      (.lit (.int .i64 4))) (.ret (.lit (.int .i64 0)))))) := by kernel_rfl
theorem tnO0 : U.toNat (0 : Int) = 0 := tn 0
theorem tnOf (n : Nat) : U.toNat (Int.ofNat n) = n := tn n
theorem dmCheck_ok : ConOK P 40 c_dmCheck := con_of (allOK mixed kU0_ok) 10 40 fun args r h => by
  unfold c_dmCheck at h
  split at h
  · rename_i n f k s h' L
    have d := (T.is_ask h).1
    obtain rfl := T.is_ret (T.is_ask h).2
    rw [t_dmCheck]
    simp only [lk_eq]
    have key : ∀ x, x = dmE n f k s h' L → (SV.lit (.int .i64 x)) = SV.lit (.int .i64 (dmE n f k s h' L)) := fun x hx => by rw [hx]
    refine ⟨fun g => key _ ?_, fun g => ⟨fun g2 => key _ ?_, fun g2 => ⟨d, fun g3 => key _ ?_, fun g3 => ⟨fun g4 => ⟨fun g5 => key _ ?_, fun g5 => key _ ?_⟩, fun g4 => key _ ?_⟩⟩⟩⟩
    all_goals unfold dmE
    · have := U.lt_t.mp g; rw [if_pos (by omega)]
    · have := U.gt_t.mp g2; rw [if_pos (by omega)]
    · have a := U.lt_f.mp g; have b := U.gt_f.mp g2; have c := U.ne_t.mp g3
      rw [if_neg (by omega), if_pos c]
    · have a := U.lt_f.mp g; have b := U.gt_f.mp g2; have c := U.ne_f.mp g3
      have e := U.eq_t.mp g4; have e2 := U.ge_t.mp g5
      rw [if_neg (by omega), if_neg (by simp [c]), if_pos (by omega)]
    · have a := U.lt_f.mp g; have b := U.gt_f.mp g2; have c := U.ne_f.mp g3
      have e := U.eq_t.mp g4; have e2 := U.ge_f.mp g5
      rw [if_neg (by omega), if_neg (by simp [c]), if_neg (by omega)]
    · have a := U.lt_f.mp g; have b := U.gt_f.mp g2; have c := U.ne_f.mp g3
      have e := U.eq_f.mp g4
      rw [if_neg (by omega), if_neg (by simp [c]), if_neg (fun w => e w.1)]
  · exact h.elim
noncomputable abbrev kU1 : List (Nat × Con) := (40, c_dmCheck) :: kU0 --%K
theorem kU1_ok : ∀ p ∈ kU1, ConOK P p.1 p.2 := by
  intro p hp
  simp only [kU1, List.mem_cons] at hp
  rcases hp with rfl | hp
  · exact dmCheck_ok
  · exact kU0_ok p (by simpa [kU0] using hp)
theorem listed_ok : ConOK P 129 c_listed := con_of (allOK mixed kU1_ok) 10 129 fun args r h => by
  unfold c_listed at h
  split at h
  · rename_i n f k s h' L
    have d := (T.is_ask h).1
    obtain rfl := T.is_ret (T.is_ask h).2
    refine T.all_of_eq (t_listed n f k s h' L) ?_
    simp only [lk_eq]
    have key : ∀ x, x = lsE n f k s h' L → (SV.lit (.int .i64 x)) = SV.lit (.int .i64 (lsE n f k s h' L)) := fun x hx => by rw [hx]
    refine ⟨d, fun g => key _ ?_, fun g => ⟨d, fun g2 => key _ ?_, fun g2 => key _ ?_⟩⟩
    all_goals unfold lsE
    · have a := U.ne_t.mp g; rw [if_pos a]
    · have a := U.ne_f.mp g; have b := U.gt_t.mp g2; rw [if_neg (by simp [a]), if_pos b]
    · have a := U.ne_f.mp g; have b := U.gt_f.mp g2; rw [if_neg (by simp [a]), if_neg (by omega)]
  · exact h.elim
theorem kL1_ok : ∀ p ∈ [(129, c_listed)], ConOK P p.1 p.2 := by
  intro p hp
  simp only [List.mem_singleton] at hp
  subst hp
  exact listed_ok
theorem located_ok : ConOK P 134 c_located := con_of (allOK mixed kL1_ok) 10 134 fun args r h => by
  unfold c_located at h
  split at h
  · rename_i n f k s h' L l
    have d := (T.is_ask h).1
    obtain rfl := T.is_ret (T.is_ask h).2
    rw [t_located]
    simp only [lk_eq]
    have key : ∀ x, x = lcE n f k s h' L l → (SV.lit (.int .i64 x)) = SV.lit (.int .i64 (lcE n f k s h' L l)) := fun x hx => by rw [hx]
    refine ⟨d, fun g => key _ ?_, fun g => ⟨fun g2 => key _ ?_, fun g2 => ⟨fun g3 => key _ ?_, fun g3 => key _ ?_⟩⟩⟩
    all_goals unfold lcE
    · have a := U.ne_t.mp g; rw [if_pos a]
    · have a := U.ne_f.mp g; have b := U.lt_t.mp g2; rw [if_neg (by simp [a]), if_pos (by omega)]
    · have a := U.ne_f.mp g; have b := U.lt_f.mp g2; have c := U.ge_t.mp g3; rw [if_neg (by simp [a]), if_pos (by omega)]
    · have a := U.ne_f.mp g; have b := U.lt_f.mp g2; have c := U.ge_f.mp g3; rw [if_neg (by simp [a]), if_neg (by omega)]
  · exact h.elim
end Go.RX.Span

/- Domain maps: the owner of an index. -/
set_option linter.unusedVariables false
set_option linter.unusedSimpArgs false
set_option maxRecDepth 100000
namespace Go.RX.Span
open Go Go.RX
attribute [local irreducible] sx conB

section
variable {e z g : Nat → R1} {n : Nat}
end
/-- The k of a right map. -/
theorem fit_k {k s h : Int} (hf : fitB k s h = true) : k = 0 ∨ k = 1 ∨ k = 2 ∨ (k = 3 ∧ 1 ≤ s ∧ s ≤ 1000) ∨ k = 4 := by
  have := of_decide_eq_true hf
  omega
section
variable {n : Nat} {f : Nat → R3} {k s h L : Int}
theorem mul_small {q : Int} (h0 : 0 ≤ q) (h1 : q ≤ 5000000) (l0 : 0 ≤ L) (l8 : L ≤ 8) : I64 (q * L) := by
  have a := Int.mul_nonneg h0 l0
  have b := Int.mul_le_mul h1 l8 l0 (by omega)
  unfold I64; omega
theorem quo_pos {a b : Int} (ha : 0 ≤ a) (hb : 0 < b) (hl : a ≤ 9223372036854775807) : U.quo .i64 a b = a.tdiv b := by
  rw [U.quo_eq]
  have e := Int.tdiv_eq_ediv_of_nonneg ha (b := b)
  have h1 := Int.ediv_nonneg ha (show 0 ≤ b by omega)
  have h2 := Int.ediv_le_self b ha
  rw [e]
  have := U.add64 (a := a / b) (b := 0) (by unfold I64; omega)
  rw [U.add_eq, Int.add_zero] at this
  exact this
/-- What the five functions return. -/
theorem ow_0 (hk : k = 0) (q : Int) (e : Nat → R1) : owQ n f k s h L q e = h := by unfold owQ; rw [if_pos hk]
theorem ow_1 (hk : k = 1) (q : Int) (e : Nat → R1) (l1 : 0 ≤ L) (l8 : L ≤ 8) (h0 : 0 ≤ q) (h1 : q ≤ 5000000) (hs : 0 < szR (f 0)) : U.quo .i64 (U.mul .i64 q L) (szR (f 0)) = owQ n f k s h L q e := by
  have m := mul_small h0 h1 l1 l8
  unfold owQ
  rw [if_neg (by omega), if_pos hk, U.mul64 m, quo_pos (Int.mul_nonneg h0 l1) hs (by unfold I64 at m; omega)]
theorem ow_2 (hk : k = 2) (q : Int) (e : Nat → R1) : U.rem q L = owQ n f k s h L q e := by
  unfold owQ
  rw [if_neg (by omega), if_neg (by omega), if_pos hk, U.rem_eq]
theorem ow_3 (hk : k = 3) (q : Int) (e : Nat → R1) (h0 : 0 ≤ q) (h1 : q ≤ 5000000) (hs : 0 < s) : U.rem (U.quo .i64 q s) L = owQ n f k s h L q e := by
  unfold owQ
  rw [if_neg (by omega), if_neg (by omega), if_neg (by omega), if_pos hk, U.rem_eq, quo_pos h0 hs (by omega)]
theorem ow_4 (hk : k = 4) (q : Int) (e : Nat → R1) : U.rem (hashN e n) L = owQ n f k s h L q e := by
  unfold owQ
  rw [if_neg (by omega), if_neg (by omega), if_neg (by omega), if_neg (by omega), U.rem_eq]
end
end Go.RX.Span

/- Domain maps: Owner and OwnerAt, of the program and of the reference. -/
set_option linter.unusedVariables false
set_option linter.unusedSimpArgs false
set_option maxRecDepth 100000
namespace Go.RX.Span
open Go Go.RX
attribute [local irreducible] sx conB

section
variable (n : Nat) (f : Nat → R3) (k s h L : Int) (m : Nat) (e : Nat → R1) (p : Int)
end
theorem has_64 {r : R3} (h : RR r) {v : Int} (hv : hasR r v = true) : I64 v := by
  obtain ⟨a1, a2, _⟩ := rr_64 h
  obtain ⟨_, h1, h2, _⟩ := (of_decide_eq_true hv : chk (rA r) (rB r) (rC r) = 0 ∧ rA r ≤ v ∧ v ≤ rB r ∧ (v - rA r) % rC r = 0)
  unfold I64 at *; omega
section
variable {n : Nat} {f : Nat → R3} {k s h L : Int} {m : Nat} {e : Nat → R1} {p : Int}
theorem hasD_has (hh : hasD n f k s h m e = true) : chD n f k s h = 0 ∧ m = n ∧ hasR (f 0) (nv e 0) = true ∧ (n = 2 → hasR (f 1) (nv e 1) = true) := of_decide_eq_true hh
end
end Go.RX.Span

/- Domain maps: the reference's Check, Owner, OwnerAt. -/
set_option linter.unusedVariables false
set_option linter.unusedSimpArgs false
set_option maxRecDepth 100000
namespace Go.RX.Span
open Go Go.RX
attribute [local irreducible] sx conB

end Go.RX.Span

/- Domain maps: the functions that say who owns: contracts. -/
set_option linter.unusedVariables false
set_option linter.unusedSimpArgs false
set_option maxRecDepth 100000
namespace Go.RX.Span
open Go Go.RX
attribute [local irreducible] sx conB

def dK (d : DE) : Int := d.2.1
def dS (d : DE) : Int := d.2.2.1
def dN (d : DE) : Nat := d.1.1
/-- The owner that the functions return, by what they have captured. -/
noncomputable def owC (d : DE) (L q x y : Int) : Int := owQ d.1.1 d.1.2 d.2.1 d.2.2.1 d.2.2.2.1 L q (ixF x y)
def OcAsk (w : Int) (d : DE) (L q x y : Int) : Prop := dmE d.1.1 d.1.2 d.2.1 d.2.2.1 d.2.2.2.1 L = 0 ∧ dK d = w ∧ 0 ≤ q ∧ q < szR (d.1.2 0) ∧ I64 x ∧ I64 y
def OcHome (d : DE) : Prop := dK d = 0
noncomputable abbrev ssL : List Sh := [.int .i64]
noncomputable abbrev rpL (fl : Nat → R1) : SV := .rptr [.int .i64] 1 fl 0 0
noncomputable def c_ow0 : Con := fun args => match args with
  | [.lit (.int .i64 q), .agg [.lit (.int .i64 x), .lit (.int .i64 y)], .rptr [.sl [.int .i64, .int .i64, .int .i64], .int .i64, .int .i64, .int .i64] 1 fd 0 0] => .ask (lk OcHome (fd 0)) (.ret (.lit (.int .i64 (lk owC (fd 0) 0 q x y))))
  | _ => .stuck 1
noncomputable def c_ow1 (w : Int) : Con := fun args => match args with
  | [.lit (.int .i64 q), .agg [.lit (.int .i64 x), .lit (.int .i64 y)], .rptr [.int .i64] 1 fl 0 0, .rptr [.sl [.int .i64, .int .i64, .int .i64], .int .i64, .int .i64, .int .i64] 1 fd 0 0] => .ask (lk OcAsk w (fd 0) (lk nv fl 0) q x y) (.ret (.lit (.int .i64 (lk owC (fd 0) (lk nv fl 0) q x y))))
  | _ => .stuck 1
noncomputable def c_ow2 (w : Int) : Con := fun args => match args with
  | [.lit (.int .i64 q), .agg [.lit (.int .i64 x), .lit (.int .i64 y)], .rptr [.sl [.int .i64, .int .i64, .int .i64], .int .i64, .int .i64, .int .i64] 1 fd 0 0, .rptr [.int .i64] 1 fl 0 0] => .ask (lk OcAsk w (fd 0) (lk nv fl 0) q x y) (.ret (.lit (.int .i64 (lk owC (fd 0) (lk nv fl 0) q x y))))
  | _ => .stuck 1
noncomputable def c_ow3 : Con := fun args => match args with
  | [.lit (.int .i64 q), .agg [.lit (.int .i64 x), .lit (.int .i64 y)], .rptr [.int .i64] 1 fl 0 0] => .ask (lk nv fl 0 ≠ 0) (.ret (.lit (.int .i64 (U.rem q (lk nv fl 0)))))
  | _ => .stuck 1
noncomputable def c_owners : Con := fun args => match args with
  | [.agg [.row [.int .i64, .int .i64, .int .i64] n f, .lit (.int .i64 k), .lit (.int .i64 s), .lit (.int .i64 h)], .lit (.int .i64 L)] =>
    .ret (.agg [.fn (.func 224) [] [rpD fun _ => ((n, f), k, s, h, ())], .fn (.func 225) [] [rpL fun _ => (L, ()), rpD fun _ => ((n, f), k, s, h, ())], .fn (.func 226) [] [rpL fun _ => (L, ())], .fn (.func 227) [] [rpD fun _ => ((n, f), k, s, h, ()), rpL fun _ => (L, ())], .fn (.func 228) [] [rpD fun _ => ((n, f), k, s, h, ()), rpL fun _ => (L, ())]])
  | _ => .stuck 1
end Go.RX.Span

/- Domain maps: the functions that say who owns. -/
set_option linter.unusedVariables false
set_option linter.unusedSimpArgs false
set_option maxRecDepth 100000
namespace Go.RX.Span
open Go Go.RX
attribute [local irreducible] sx conB

--%R ofList\s+\[\((\S+),\s+\(\)\) => ofList (ss := [.int .i64]) [(\1, ())
--%R ↑\((2) : Nat\) => ((\1 : Nat) : Int)
set_option maxRecDepth 100000 in
theorem t_ow0 (fd : Nat → DE) (q x y : Int) : conB Go.Proofs.Try.prog (conOf kU0) noLoops 10 224 [.lit (.int .i64 q), .agg [.lit (.int .i64 x), .lit (.int .i64 y)], rpD fd] =
    T.ret (.lit (.int .i64 (fd (0 : Nat)).2.2.2.1)) := by kernel_rfl
set_option maxRecDepth 100000 in
theorem t_ow1 (fd : Nat → DE) (fl : Nat → R1) (q x y : Int) : conB Go.Proofs.Try.prog (conOf kU0) noLoops 10 225 [.lit (.int .i64 q), .agg [.lit (.int .i64 x), .lit (.int .i64 y)], rpL fl, rpD fd] =
    T.ask ((0 : Int) ≤ (0 : Int) ∧ (0 : Int) < ↑(fd (0 : Nat)).fst.1) (.ask (I64 ((fd (0 : Nat)).fst.snd (U.toNat (0 : Int))).1 ∧ I64 ((fd (0 : Nat)).fst.snd (U.toNat (0 : Int))).2.1 ∧
      I64 ((fd (0 : Nat)).fst.snd (U.toNat (0 : Int))).2.2.1) (.ask (lk size ((fd (0 : Nat)).fst.snd (U.toNat (0 : Int))).1 ((fd (0 : Nat)).fst.snd (U.toNat (0 : Int))).2.1 ((fd (0 :
      Nat)).fst.snd (U.toNat (0 : Int))).2.2.1 ≠ (0 : Int)) (.ret (.lit (.int .i64 (U.quo .i64 (U.mul .i64 q (fl (0 : Nat)).1) (lk size ((fd (0 : Nat)).fst.snd (U.toNat (0 : Int))).1 ((fd
      (0 : Nat)).fst.snd (U.toNat (0 : Int))).2.1 ((fd (0 : Nat)).fst.snd (U.toNat (0 : Int))).2.2.1))))))) := by kernel_rfl
set_option maxRecDepth 100000 in
theorem t_ow2 (fl : Nat → R1) (q x y : Int) : conB Go.Proofs.Try.prog (conOf kU0) noLoops 10 226 [.lit (.int .i64 q), .agg [.lit (.int .i64 x), .lit (.int .i64 y)], rpL fl] =
    T.ask ((fl (0 : Nat)).1 ≠ (0 : Int)) (.ret (.lit (.int .i64 (U.rem q (fl (0 : Nat)).1)))) := by kernel_rfl
set_option maxRecDepth 100000 in
theorem t_ow3 (fd : Nat → DE) (fl : Nat → R1) (q x y : Int) : conB Go.Proofs.Try.prog (conOf kU0) noLoops 10 227 [.lit (.int .i64 q), .agg [.lit (.int .i64 x), .lit (.int .i64 y)], rpD fd, rpL fl] =
    T.ask ((fd (0 : Nat)).2.2.1 ≠ (0 : Int)) (.ask ((fl (0 : Nat)).1 ≠ (0 : Int)) (.ret (.lit (.int .i64 (U.rem (U.quo .i64 q (fd (0 : Nat)).2.2.1) (fl (0 : Nat)).1))))) := by kernel_rfl
set_option maxRecDepth 100000 in
theorem t_ow4 (fd : Nat → DE) (fl : Nat → R1) (q x y : Int) : conB Go.Proofs.Try.prog (conOf kU0) noLoops 10 228 [.lit (.int .i64 q), .agg [.lit (.int .i64 x), .lit (.int .i64 y)], rpD fd, rpL fl] =
    T.ask ((0 : Int) ≤ Int.ofNat (fd (0 : Nat)).fst.1 ∧ Int.ofNat (fd (0 : Nat)).fst.1 ≤ ((2 : Nat) : Int)) (.ask (U.toNat (Int.ofNat (fd (0 : Nat)).fst.1) ≤ (1000000 : Nat) ∧ I64s
      (U.toNat (Int.ofNat (fd (0 : Nat)).fst.1)) (ofList (ss := [.int .i64]) [(y, ()), (x, ())].reverse)) (.ask ((fl (0 : Nat)).1 ≠ (0 : Int)) (.ret (.lit (.int .i64 (U.rem (lk hashN
      (ofList (ss := [.int .i64]) [(y, ()), (x, ())].reverse) (U.toNat (Int.ofNat (fd (0 : Nat)).fst.1))) (fl (0 : Nat)).1)))))) := by kernel_rfl
set_option maxRecDepth 100000 in
theorem t_owners (n : Nat) (f : Nat → R3) (k s h L : Int) : conB Go.Proofs.Try.prog (conOf kU0) noLoops 10 188 [.agg [.row [.int .i64, .int .i64, .int .i64] n f, .lit (.int .i64 k), .lit (.int .i64 s), .lit (.int .i64 h)], .lit (.int .i64 L)] =
    T.ret (.agg [SV.fn (Fn.func (nat_lit 224)) [] [SV.rptr [.sl [.int .i64, .int .i64, .int .i64], .int .i64, .int .i64, .int .i64] (nat_lit 1) (fun x => ((n, f), k, s, h, PUnit.unit))
      (nat_lit 0) (nat_lit 0)], SV.fn (Fn.func (nat_lit 225)) [] [SV.rptr [.int .i64] (nat_lit 1) (fun x => (L, PUnit.unit)) (nat_lit 0) (nat_lit 0), SV.rptr [.sl [.int .i64, .int .i64,
      .int .i64], .int .i64, .int .i64, .int .i64] (nat_lit 1) (fun x => ((n, f), k, s, h, PUnit.unit)) (nat_lit 0) (nat_lit 0)], SV.fn (Fn.func (nat_lit 226)) [] [SV.rptr [.int .i64]
      (nat_lit 1) (fun x => (L, PUnit.unit)) (nat_lit 0) (nat_lit 0)], SV.fn (Fn.func (nat_lit 227)) [] [SV.rptr [.sl [.int .i64, .int .i64, .int .i64], .int .i64, .int .i64, .int .i64]
      (nat_lit 1) (fun x => ((n, f), k, s, h, PUnit.unit)) (nat_lit 0) (nat_lit 0), SV.rptr [.int .i64] (nat_lit 1) (fun x => (L, PUnit.unit)) (nat_lit 0) (nat_lit 0)], SV.fn (Fn.func
      (nat_lit 228)) [] [SV.rptr [.sl [.int .i64, .int .i64, .int .i64], .int .i64, .int .i64, .int .i64] (nat_lit 1) (fun x => ((n, f), k, s, h, PUnit.unit)) (nat_lit 0) (nat_lit 0),
      SV.rptr [.int .i64] (nat_lit 1) (fun x => (L, PUnit.unit)) (nat_lit 0) (nat_lit 0)]]) := by kernel_rfl
theorem owners_ok : ConOK P 188 c_owners := con_of (allOK mixed kU0_ok) 10 188 fun args r h => by
  unfold c_owners at h
  split at h
  · rename_i n f k s h' L
    obtain rfl := T.is_ret h
    rw [t_owners]
    rfl
  · exact h.elim
theorem ow0_ok : ConOK P 224 c_ow0 := con_of (allOK mixed kU0_ok) 10 224 fun args r h => by
  unfold c_ow0 at h
  split at h
  · rename_i q x y fd
    have h0 := (lk_eq OcHome ▸ (T.is_ask h).1 : OcHome (fd 0))
    obtain rfl := T.is_ret (T.is_ask h).2
    refine T.all_of_eq (t_ow0 fd q x y) ?_
    simp only [lk_eq]
    have e : owC (fd 0) 0 q x y = (fd 0).2.2.2.1 := ow_0 h0 q _
    rw [e]; rfl
  · exact h.elim
theorem oc_facts {w : Int} {d : DE} {L q x y : Int} (h : OcAsk w d L q x y) : 1 ≤ L ∧ L ≤ 8 ∧ (dN d = 1 ∨ dN d = 2) ∧ (I64 (d.1.2 0).1 ∧ I64 (d.1.2 0).2.1 ∧ I64 (d.1.2 0).2.2.1) ∧ 0 < szR (d.1.2 0) ∧ q ≤ 5000000 ∧ (dK d = 3 → 0 < dS d) := by
  obtain ⟨hd, hk, q0, q1, ix, iy⟩ := h
  obtain ⟨l1, l8, hc, _⟩ := dmE_zero.1 hd
  obtain ⟨d1, fit⟩ := chD_zero.1 hc
  have hn := d1.1
  have r0 := d1.2 0 (by omega)
  have hsz := rr_size r0
  refine ⟨l1, l8, hn, rr_64 r0, by omega, by omega, fun e => ?_⟩
  have := fit_k fit
  have this : dK d = 0 ∨ dK d = 1 ∨ dK d = 2 ∨ (dK d = 3 ∧ 1 ≤ dS d ∧ dS d ≤ 1000) ∨ dK d = 4 := this
  omega
theorem ow1_ok : ConOK P 225 (c_ow1 1) := con_of (allOK mixed kU0_ok) 10 225 fun args r h => by
  unfold c_ow1 at h
  split at h
  · rename_i q x y fl fd
    have h0 := (lk_eq OcAsk ▸ (T.is_ask h).1 : OcAsk 1 (fd 0) (lk nv fl 0) q x y)
    obtain rfl := T.is_ret (T.is_ask h).2
    rw [lk_eq] at h0
    obtain ⟨l1, l8, hn, i0, s0, q5, _⟩ := oc_facts h0
    refine T.all_of_eq (t_ow1 fd fl q x y) ?_
    simp only [lk_eq, tnO0]
    refine ⟨⟨by omega, ?_⟩, i0, ?_, ?_⟩
    · show (0 : Int) < ((dN (fd 0) : Nat) : Int)
      omega
    · show szR ((fd 0).1.2 0) ≠ 0
      omega
    · have e := ow_1 (n := (fd 0).1.1) (f := (fd 0).1.2) (s := (fd 0).2.2.1) (h := (fd 0).2.2.2.1) (L := nv fl 0) h0.2.1 q (ixF x y) (by omega) l8 h0.2.2.1 q5 s0
      exact congrArg (fun v => SV.lit (.int .i64 v)) e
  · exact h.elim
theorem ow3_ok : ConOK P 226 c_ow3 := con_of (allOK mixed kU0_ok) 10 226 fun args r h => by
  unfold c_ow3 at h
  split at h
  · rename_i q x y fl
    have h0 := (T.is_ask h).1
    obtain rfl := T.is_ret (T.is_ask h).2
    refine T.all_of_eq (t_ow2 fl q x y) ?_
    rw [lk_eq] at h0 ⊢
    exact ⟨h0, rfl⟩
  · exact h.elim
theorem ow2_ok : ConOK P 227 (c_ow2 3) := con_of (allOK mixed kU0_ok) 10 227 fun args r h => by
  unfold c_ow2 at h
  split at h
  · rename_i q x y fd fl
    have h0 := (lk_eq OcAsk ▸ (T.is_ask h).1 : OcAsk 3 (fd 0) (lk nv fl 0) q x y)
    obtain rfl := T.is_ret (T.is_ask h).2
    rw [lk_eq] at h0
    obtain ⟨l1, l8, hn, i0, s0, q5, hs⟩ := oc_facts h0
    have hs := hs h0.2.1
    refine T.all_of_eq (t_ow3 fd fl q x y) ?_
    simp only [lk_eq]
    refine ⟨?_, ?_, ?_⟩
    · show dS (fd 0) ≠ 0
      omega
    · show nv fl 0 ≠ 0
      omega
    · have e := ow_3 (n := (fd 0).1.1) (f := (fd 0).1.2) (s := (fd 0).2.2.1) (h := (fd 0).2.2.2.1) (L := nv fl 0) h0.2.1 q (ixF x y) h0.2.2.1 q5 hs
      exact congrArg (fun v => SV.lit (.int .i64 v)) e
  · exact h.elim
theorem ow4_ok : ConOK P 228 (c_ow2 4) := con_of (allOK mixed kU0_ok) 10 228 fun args r h => by
  unfold c_ow2 at h
  split at h
  · rename_i q x y fd fl
    have h0 := (lk_eq OcAsk ▸ (T.is_ask h).1 : OcAsk 4 (fd 0) (lk nv fl 0) q x y)
    obtain rfl := T.is_ret (T.is_ask h).2
    rw [lk_eq] at h0
    obtain ⟨l1, l8, hn, i0, s0, q5, _⟩ := oc_facts h0
    obtain ⟨_, hk4, _, _, ix, iy⟩ := h0
    refine T.all_of_eq (t_ow4 fd fl q x y) ?_
    simp only [lk_eq, tnOf]
    refine ⟨⟨Int.natCast_nonneg _, ?_⟩, ⟨?_, fun i hi => ?_⟩, ?_, ?_⟩
    · show ((dN (fd 0) : Nat) : Int) ≤ 2
      omega
    · show dN (fd 0) ≤ 1000000
      omega
    · have hi : i < dN (fd 0) := hi
      rcases (show i = 0 ∨ i = 1 by omega) with rfl | rfl
      · exact ix
      · exact iy
    · show nv fl 0 ≠ 0
      omega
    · have e := ow_4 (n := (fd 0).1.1) (f := (fd 0).1.2) (s := (fd 0).2.2.1) (h := (fd 0).2.2.2.1) (L := nv fl 0) hk4 q (ixF x y)
      exact congrArg (fun v => SV.lit (.int .i64 v)) e
  · exact h.elim
noncomputable abbrev kA0 : List (Nat × Con) := [(224, c_ow0), (225, c_ow1 1), (226, c_ow3), (227, c_ow2 3), (228, c_ow2 4), (188, c_owners), (28, c_Size), (172, c_DAll)] --%K
theorem kA0_ok : ∀ p ∈ kA0, ConOK P p.1 p.2 := by
  intro p hp
  simp only [kA0, List.mem_cons, List.not_mem_nil, or_false] at hp
  rcases hp with rfl | rfl | rfl | rfl | rfl | rfl | rfl | rfl
  · exact ow0_ok
  · exact ow1_ok
  · exact ow3_ok
  · exact ow2_ok
  · exact ow4_ok
  · exact owners_ok
  · exact Size_ok
  · exact DAll_ok
end Go.RX.Span

/- Domain maps: all positions with their owners: the states. -/
set_option linter.unusedVariables false
set_option linter.unusedSimpArgs false
set_option maxRecDepth 100000
namespace Go.RX.Span
open Go Go.RX
attribute [local irreducible] sx conB

/-- The function that says who owns, by the kind of the map. -/
noncomputable def ofV (k : Int) (d : DE) (L : Int) : SV :=
  if k = 0 then .fn (.func 224) [] [rpD fun _ => d] else if k = 1 then .fn (.func 225) [] [rpL fun _ => (L, ()), rpD fun _ => d] else if k = 2 then .fn (.func 226) [] [rpL fun _ => (L, ())]
  else if k = 3 then .fn (.func 227) [] [rpD fun _ => d, rpL fun _ => (L, ())] else .fn (.func 228) [] [rpD fun _ => d, rpL fun _ => (L, ())]
noncomputable def dOw (d : DE) (L : Int) (p : Nat) : Int := owP d.1.1 d.1.2 d.2.1 d.2.2.1 d.2.2.2.1 L p
def dSz (d : DE) : Nat := szDn d.1.1 d.1.2 d.2.1 d.2.2.1 d.2.2.2.1
def dDm (d : DE) (L : Int) : Int := dmE d.1.1 d.1.2 d.2.1 d.2.2.1 d.2.2.2.1 L
def dCol (d : DE) : Int := ((colN d.1.1 d.1.2 : Nat) : Int)
/-- What is yielded. -/
noncomputable def elA (d : DE) (L : Int) (p : Nat) : List Value := [.int .i64 (p : Int), .int .i64 (dOw d L p)]
def PreA (n0 : Nat) (K : Cons) (d : DE) (L : Int) (c : Nat) (el : Nat → List Value) : Prop := n0 ≤ 4 ∧ K.P = P ∧ dDm d L = 0 ∧ c = dSz d ∧ el = elD d.1.1 d.1.2 ∧ K.n = c ∧ K.el = elA d L
structure XA where
  (K : Cons) (fd : Nat → DE) (fl : Nat → R1) (c : Nat) (el : Nat → List Value)
noncomputable abbrev slA (fd : Nat → DE) (fl : Nat → R1) : List SV := [rpD fd, rpL fl, .ptr 1 0, .ptr 2 0, .ptr 3 0]
noncomputable abbrev memA (K : Cons) (i : Nat) (fv : SV) (C : Int) : Mem := [(0, some (.seq true K i)), (0, some (.cells [yieldV K] 44)), (0, some (.cells [fv] 182)), (0, some (.cells [.lit (.int .i64 C)] 3))]
noncomputable abbrev memA' (K : Cons) (i : Nat) : Mem := [(0, some (.seq false K i)), (0, none), (0, none), (0, none)]
def ColOk (cv : SV) (C : Int) : Prop := cv = .lit (.int .i64 C) ∨ (cv = .ki .i64 1 ∧ C = 1)
noncomputable def gA : Nat → Nat → (Nat → List Value) → Few → T (Ex × Few)
  | n0, c, el, ([.rptr ss 1 fd 0 0, .rptr ss2 1 fl 0 0, .ptr 1 0, .ptr 2 0, .ptr 3 0], [(_, some (.seq true K 0)), (_, some (.cells [.lit (.func (.yield l) ⟨[]⟩ ⟨[]⟩)] t1)), (_, some (.cells [fv] t2)), (_, some (.cells [cv] t3))]) =>
    if e : eqShs ss ssD = true ∧ eqShs ss2 ssL = true then
      .ask (lk PreA n0 K (castEls e.1 fd 0) (lk nv (castEls e.2 fl) 0) c el ∧ fv = ofV (dK (castEls e.1 fd 0)) (castEls e.1 fd 0) (lk nv (castEls e.2 fl) 0) ∧ ColOk cv (lk dCol (castEls e.1 fd 0)) ∧ K.l = l ∧ t1 = 44 ∧ t2 = 182 ∧ t3 = 3)
        (.br (lk okB K 0 c) (.ret (.normal, (slA (castEls e.1 fd) (castEls e.2 fl), memA K c fv (lk dCol (castEls e.1 fd 0))))) (.ret (.ret, (slA (castEls e.1 fd) (castEls e.2 fl), memA' K (lk stopA K 0 c + 1)))))
    else .stuck 2
  | _, _, _, _ => .stuck 1
noncomputable abbrev cdA : Code := rangeOf P 223 1006 --%K
noncomputable abbrev asA : Code := match rangeOf P 223 1006 with | .rangeFunc _ _ a _ => a | _ => .skip --%K
noncomputable abbrev bdA : Code := match rangeOf P 223 1006 with | .rangeFunc _ _ _ b => b | _ => .skip --%K
noncomputable abbrev EA : Env := ⟨P, conOf kA0, scall P (conOf kA0) noLoops 10⟩
end Go.RX.Span

/- Domain maps: all positions with their owners: the walk. -/
set_option linter.unusedVariables false
set_option linter.unusedSimpArgs false
set_option maxRecDepth 100000
namespace Go.RX.Span
open Go Go.RX
attribute [local irreducible] sx conB

set_option maxRecDepth 100000 in
theorem t_A0 (K : Cons) (fd : Nat → DE) (fl : Nat → R1) (i : Nat) (p x y C : Int) : (sxR EA [] 4 #[26, 27] asA bdA [.int .i64 p, .agg #[.int .i64 x, .int .i64 y]] (mkS 38 [1,2,3,4,5] (slA fd fl), memA K i (.fn (.func 224) [] [rpD fun _ => fd 0]) C)).bind (fun r => .ret (r.1, r.2.2)) =
    T.ask (C ≠ (0 : Int)) (.ask (lk OcHome ((fun x => fd (0 : Nat)) (0 : Nat))) (.ask (YldAsk EA.P K.5 K i [.int .i64 p, .int .i64 (lk owC (fd (nat_lit 0)) (0 : Int) (U.quo .i64 p C) x
      y)]) (.br (K.4 i) (.ret (Ex.normal, [(nat_lit 1, some (Blk.seq true K (i.add (nat_lit 1)))), (nat_lit 0, some (Blk.cells [.lit (Value.func (Fn.yield K.5) { toList := [] } { toList
      := [] })] (nat_lit 44))), (nat_lit 0, some (Blk.cells [SV.fn (Fn.func (nat_lit 224)) [] [SV.rptr [.sl [.int .i64, .int .i64, .int .i64], .int .i64, .int .i64, .int .i64] (nat_lit 1)
      (fun x => fd (nat_lit 0)) (nat_lit 0) (nat_lit 0)]] (nat_lit 182))), (nat_lit 0, some (Blk.cells [.lit (.int .i64 C)] (nat_lit 3))), (nat_lit 1, some (Blk.cells [.lit (.int .i64 x),
      .lit (.int .i64 y)] (nat_lit 103)))])) (.ret (Ex.ret, [(nat_lit 1, some (Blk.seq false K (i.add (nat_lit 1)))), (nat_lit 0, some (Blk.cells [.lit (Value.func (Fn.yield K.5) { toList
      := [] } { toList := [] })] (nat_lit 44))), (nat_lit 0, some (Blk.cells [SV.fn (Fn.func (nat_lit 224)) [] [SV.rptr [.sl [.int .i64, .int .i64, .int .i64], .int .i64, .int .i64, .int
      .i64] (nat_lit 1) (fun x => fd (nat_lit 0)) (nat_lit 0) (nat_lit 0)]] (nat_lit 182))), (nat_lit 0, some (Blk.cells [.lit (.int .i64 C)] (nat_lit 3))), (nat_lit 1, some (Blk.cells
      [.lit (.int .i64 x), .lit (.int .i64 y)] (nat_lit 103)))]))))) := by kernel_rfl
set_option maxRecDepth 100000 in
theorem t_A1 (K : Cons) (fd : Nat → DE) (fl : Nat → R1) (i : Nat) (p x y C : Int) : (sxR EA [] 4 #[26, 27] asA bdA [.int .i64 p, .agg #[.int .i64 x, .int .i64 y]] (mkS 38 [1,2,3,4,5] (slA fd fl), memA K i (.fn (.func 225) [] [rpL fun _ => (nv fl 0, ()), rpD fun _ => fd 0]) C)).bind (fun r => .ret (r.1, r.2.2)) =
    T.ask (C ≠ (0 : Int)) (.ask (lk OcAsk (1 : Int) ((fun x => fd (0 : Nat)) (0 : Nat)) (lk nv (fun x => ((fl (0 : Nat)).1, PUnit.unit)) (nat_lit 0)) (U.quo .i64 p C) x y) (.ask (YldAsk
      EA.P K.5 K i [.int .i64 p, .int .i64 (lk owC (fd (nat_lit 0)) (lk nv (fun x => ((fl (0 : Nat)).1, PUnit.unit)) (nat_lit 0)) (U.quo .i64 p C) x y)]) (.br (K.4 i) (.ret (Ex.normal,
      [(nat_lit 1, some (Blk.seq true K (i.add (nat_lit 1)))), (nat_lit 0, some (Blk.cells [.lit (Value.func (Fn.yield K.5) { toList := [] } { toList := [] })] (nat_lit 44))), (nat_lit 0,
      some (Blk.cells [SV.fn (Fn.func (nat_lit 225)) [] [SV.rptr [.int .i64] (nat_lit 1) (fun x => ((fl (0 : Nat)).1, PUnit.unit)) (nat_lit 0) (nat_lit 0), SV.rptr [.sl [.int .i64, .int
      .i64, .int .i64], .int .i64, .int .i64, .int .i64] (nat_lit 1) (fun x => fd (nat_lit 0)) (nat_lit 0) (nat_lit 0)]] (nat_lit 182))), (nat_lit 0, some (Blk.cells [.lit (.int .i64 C)]
      (nat_lit 3))), (nat_lit 1, some (Blk.cells [.lit (.int .i64 x), .lit (.int .i64 y)] (nat_lit 103)))])) (.ret (Ex.ret, [(nat_lit 1, some (Blk.seq false K (i.add (nat_lit 1)))),
      (nat_lit 0, some (Blk.cells [.lit (Value.func (Fn.yield K.5) { toList := [] } { toList := [] })] (nat_lit 44))), (nat_lit 0, some (Blk.cells [SV.fn (Fn.func (nat_lit 225)) []
      [SV.rptr [.int .i64] (nat_lit 1) (fun x => ((fl (0 : Nat)).1, PUnit.unit)) (nat_lit 0) (nat_lit 0), SV.rptr [.sl [.int .i64, .int .i64, .int .i64], .int .i64, .int .i64, .int .i64]
      (nat_lit 1) (fun x => fd (nat_lit 0)) (nat_lit 0) (nat_lit 0)]] (nat_lit 182))), (nat_lit 0, some (Blk.cells [.lit (.int .i64 C)] (nat_lit 3))), (nat_lit 1, some (Blk.cells [.lit
      (.int .i64 x), .lit (.int .i64 y)] (nat_lit 103)))]))))) := by kernel_rfl
set_option maxRecDepth 100000 in
theorem t_A2 (K : Cons) (fd : Nat → DE) (fl : Nat → R1) (i : Nat) (p x y C : Int) : (sxR EA [] 4 #[26, 27] asA bdA [.int .i64 p, .agg #[.int .i64 x, .int .i64 y]] (mkS 38 [1,2,3,4,5] (slA fd fl), memA K i (.fn (.func 226) [] [rpL fun _ => (nv fl 0, ())]) C)).bind (fun r => .ret (r.1, r.2.2)) =
    T.ask (C ≠ (0 : Int)) (.ask (lk nv (fun x => ((fl (0 : Nat)).1, PUnit.unit)) (nat_lit 0) ≠ (0 : Int)) (.ask (YldAsk EA.P K.5 K i [.int .i64 p, .int .i64 (U.rem (U.quo .i64 p C) (lk
      nv (fun x => ((fl (0 : Nat)).1, PUnit.unit)) (nat_lit 0)))]) (.br (K.4 i) (.ret (Ex.normal, [(nat_lit 1, some (Blk.seq true K (i.add (nat_lit 1)))), (nat_lit 0, some (Blk.cells
      [.lit (Value.func (Fn.yield K.5) { toList := [] } { toList := [] })] (nat_lit 44))), (nat_lit 0, some (Blk.cells [SV.fn (Fn.func (nat_lit 226)) [] [SV.rptr [.int .i64] (nat_lit 1)
      (fun x => ((fl (0 : Nat)).1, PUnit.unit)) (nat_lit 0) (nat_lit 0)]] (nat_lit 182))), (nat_lit 0, some (Blk.cells [.lit (.int .i64 C)] (nat_lit 3))), (nat_lit 1, some (Blk.cells
      [.lit (.int .i64 x), .lit (.int .i64 y)] (nat_lit 103)))])) (.ret (Ex.ret, [(nat_lit 1, some (Blk.seq false K (i.add (nat_lit 1)))), (nat_lit 0, some (Blk.cells [.lit (Value.func
      (Fn.yield K.5) { toList := [] } { toList := [] })] (nat_lit 44))), (nat_lit 0, some (Blk.cells [SV.fn (Fn.func (nat_lit 226)) [] [SV.rptr [.int .i64] (nat_lit 1) (fun x => ((fl (0 :
      Nat)).1, PUnit.unit)) (nat_lit 0) (nat_lit 0)]] (nat_lit 182))), (nat_lit 0, some (Blk.cells [.lit (.int .i64 C)] (nat_lit 3))), (nat_lit 1, some (Blk.cells [.lit (.int .i64 x),
      .lit (.int .i64 y)] (nat_lit 103)))]))))) := by kernel_rfl
set_option maxRecDepth 100000 in
theorem t_A3 (K : Cons) (fd : Nat → DE) (fl : Nat → R1) (i : Nat) (p x y C : Int) : (sxR EA [] 4 #[26, 27] asA bdA [.int .i64 p, .agg #[.int .i64 x, .int .i64 y]] (mkS 38 [1,2,3,4,5] (slA fd fl), memA K i (.fn (.func 227) [] [rpD fun _ => fd 0, rpL fun _ => (nv fl 0, ())]) C)).bind (fun r => .ret (r.1, r.2.2)) =
    T.ask (C ≠ (0 : Int)) (.ask (lk OcAsk (3 : Int) ((fun x => fd (0 : Nat)) (0 : Nat)) (lk nv (fun x => ((fl (0 : Nat)).1, PUnit.unit)) (nat_lit 0)) (U.quo .i64 p C) x y) (.ask (YldAsk
      EA.P K.5 K i [.int .i64 p, .int .i64 (lk owC (fd (nat_lit 0)) (lk nv (fun x => ((fl (0 : Nat)).1, PUnit.unit)) (nat_lit 0)) (U.quo .i64 p C) x y)]) (.br (K.4 i) (.ret (Ex.normal,
      [(nat_lit 1, some (Blk.seq true K (i.add (nat_lit 1)))), (nat_lit 0, some (Blk.cells [.lit (Value.func (Fn.yield K.5) { toList := [] } { toList := [] })] (nat_lit 44))), (nat_lit 0,
      some (Blk.cells [SV.fn (Fn.func (nat_lit 227)) [] [SV.rptr [.sl [.int .i64, .int .i64, .int .i64], .int .i64, .int .i64, .int .i64] (nat_lit 1) (fun x => fd (nat_lit 0)) (nat_lit 0)
      (nat_lit 0), SV.rptr [.int .i64] (nat_lit 1) (fun x => ((fl (0 : Nat)).1, PUnit.unit)) (nat_lit 0) (nat_lit 0)]] (nat_lit 182))), (nat_lit 0, some (Blk.cells [.lit (.int .i64 C)]
      (nat_lit 3))), (nat_lit 1, some (Blk.cells [.lit (.int .i64 x), .lit (.int .i64 y)] (nat_lit 103)))])) (.ret (Ex.ret, [(nat_lit 1, some (Blk.seq false K (i.add (nat_lit 1)))),
      (nat_lit 0, some (Blk.cells [.lit (Value.func (Fn.yield K.5) { toList := [] } { toList := [] })] (nat_lit 44))), (nat_lit 0, some (Blk.cells [SV.fn (Fn.func (nat_lit 227)) []
      [SV.rptr [.sl [.int .i64, .int .i64, .int .i64], .int .i64, .int .i64, .int .i64] (nat_lit 1) (fun x => fd (nat_lit 0)) (nat_lit 0) (nat_lit 0), SV.rptr [.int .i64] (nat_lit 1) (fun
      x => ((fl (0 : Nat)).1, PUnit.unit)) (nat_lit 0) (nat_lit 0)]] (nat_lit 182))), (nat_lit 0, some (Blk.cells [.lit (.int .i64 C)] (nat_lit 3))), (nat_lit 1, some (Blk.cells [.lit
      (.int .i64 x), .lit (.int .i64 y)] (nat_lit 103)))]))))) := by kernel_rfl
set_option maxRecDepth 100000 in
theorem t_A4 (K : Cons) (fd : Nat → DE) (fl : Nat → R1) (i : Nat) (p x y C : Int) : (sxR EA [] 4 #[26, 27] asA bdA [.int .i64 p, .agg #[.int .i64 x, .int .i64 y]] (mkS 38 [1,2,3,4,5] (slA fd fl), memA K i (.fn (.func 228) [] [rpD fun _ => fd 0, rpL fun _ => (nv fl 0, ())]) C)).bind (fun r => .ret (r.1, r.2.2)) =
    T.ask (C ≠ (0 : Int)) (.ask (lk OcAsk (4 : Int) ((fun x => fd (0 : Nat)) (0 : Nat)) (lk nv (fun x => ((fl (0 : Nat)).1, PUnit.unit)) (nat_lit 0)) (U.quo .i64 p C) x y) (.ask (YldAsk
      EA.P K.5 K i [.int .i64 p, .int .i64 (lk owC (fd (nat_lit 0)) (lk nv (fun x => ((fl (0 : Nat)).1, PUnit.unit)) (nat_lit 0)) (U.quo .i64 p C) x y)]) (.br (K.4 i) (.ret (Ex.normal,
      [(nat_lit 1, some (Blk.seq true K (i.add (nat_lit 1)))), (nat_lit 0, some (Blk.cells [.lit (Value.func (Fn.yield K.5) { toList := [] } { toList := [] })] (nat_lit 44))), (nat_lit 0,
      some (Blk.cells [SV.fn (Fn.func (nat_lit 228)) [] [SV.rptr [.sl [.int .i64, .int .i64, .int .i64], .int .i64, .int .i64, .int .i64] (nat_lit 1) (fun x => fd (nat_lit 0)) (nat_lit 0)
      (nat_lit 0), SV.rptr [.int .i64] (nat_lit 1) (fun x => ((fl (0 : Nat)).1, PUnit.unit)) (nat_lit 0) (nat_lit 0)]] (nat_lit 182))), (nat_lit 0, some (Blk.cells [.lit (.int .i64 C)]
      (nat_lit 3))), (nat_lit 1, some (Blk.cells [.lit (.int .i64 x), .lit (.int .i64 y)] (nat_lit 103)))])) (.ret (Ex.ret, [(nat_lit 1, some (Blk.seq false K (i.add (nat_lit 1)))),
      (nat_lit 0, some (Blk.cells [.lit (Value.func (Fn.yield K.5) { toList := [] } { toList := [] })] (nat_lit 44))), (nat_lit 0, some (Blk.cells [SV.fn (Fn.func (nat_lit 228)) []
      [SV.rptr [.sl [.int .i64, .int .i64, .int .i64], .int .i64, .int .i64, .int .i64] (nat_lit 1) (fun x => fd (nat_lit 0)) (nat_lit 0) (nat_lit 0), SV.rptr [.int .i64] (nat_lit 1) (fun
      x => ((fl (0 : Nat)).1, PUnit.unit)) (nat_lit 0) (nat_lit 0)]] (nat_lit 182))), (nat_lit 0, some (Blk.cells [.lit (.int .i64 C)] (nat_lit 3))), (nat_lit 1, some (Blk.cells [.lit
      (.int .i64 x), .lit (.int .i64 y)] (nat_lit 103)))]))))) := by kernel_rfl
end Go.RX.Span

/- Domain maps: all positions with their owners: the loop. -/
set_option linter.unusedVariables false
set_option linter.unusedSimpArgs false
set_option maxRecDepth 100000
namespace Go.RX.Span
open Go Go.RX
attribute [local irreducible] sx conB

section
variable {n : Nat} {f : Nat → R3} {k s h : Int}
theorem colN_pos (hc : chD n f k s h = 0) {p : Nat} (hp : p < szDn n f k s h) : 0 < colN n f ∧ colN n f ≤ 2000001 := by
  obtain ⟨d1, _⟩ := chD_zero.1 hc
  have hn := d1.1
  rw [szDn_right hc] at hp
  unfold colN
  by_cases h1 : n = 1
  · rw [if_pos h1]; omega
  · rw [if_neg h1] at hp ⊢
    have e1 := szN_R (d1.2 1 (by omega))
    have := rr_size (d1.2 1 (by omega))
    refine ⟨Nat.pos_of_ne_zero fun h0 => by rw [h0, Nat.mul_zero] at hp; omega, by omega⟩
theorem id_64 (hc : chD n f k s h = 0) {p : Nat} (hp : p < szDn n f k s h) : I64 (idX n f p) ∧ I64 (idY n f p) := by
  obtain ⟨d1, _⟩ := chD_zero.1 hc
  have hn := d1.1
  obtain ⟨_, h2, _⟩ := ix_all hc hp
  obtain ⟨_, _, g1, g2⟩ := hasD_has h2
  refine ⟨has_64 (d1.2 0 (by omega)) g1, ?_⟩
  by_cases h1 : n = 1
  · unfold idY; rw [if_pos h1]; unfold I64; omega
  · exact has_64 (d1.2 1 (by omega)) (g2 (by omega))
end
theorem dSz_bnd {d : DE} {L : Int} (hd : dDm d L = 0) : dSz d ≤ 5000000000000 := by
  have hc := (dmE_zero.1 hd).2.2.1
  have := (dr_prod (chD_zero.1 hc).1).2
  show szDn _ _ _ _ _ ≤ _
  unfold szDn
  rw [szD_right hc]; omega
theorem oc_of {d : DE} {L : Int} (hd : dDm d L = 0) {i : Nat} (hi : i < dSz d) :
    U.quo .i64 (i : Int) (dCol d) = ((i / colN d.1.1 d.1.2 : Nat) : Int) ∧ dCol d ≠ 0 ∧ OcAsk (dK d) d L ((i / colN d.1.1 d.1.2 : Nat) : Int) (idX d.1.1 d.1.2 i) (idY d.1.1 d.1.2 i) ∧ owC d L ((i / colN d.1.1 d.1.2 : Nat) : Int) (idX d.1.1 d.1.2 i) (idY d.1.1 d.1.2 i) = dOw d L i := by
  have hc := (dmE_zero.1 hd).2.2.1
  have hi : i < szDn d.1.1 d.1.2 d.2.1 d.2.2.1 d.2.2.2.1 := hi
  obtain ⟨c1, c2⟩ := colN_pos hc hi
  obtain ⟨r1, r2⟩ := row_lt hc hi
  obtain ⟨i1, i2⟩ := id_64 hc hi
  have hb : szDn d.1.1 d.1.2 d.2.1 d.2.2.1 d.2.2.2.1 ≤ 5000000000000 := dSz_bnd hd
  refine ⟨?_, ?_, ⟨hd, rfl, Int.natCast_nonneg _, r1, i1, i2⟩, rfl⟩
  · unfold dCol
    rw [quo_pos (Int.natCast_nonneg _) (by omega) (by omega)]
    exact (Int.ofNat_tdiv i (colN d.1.1 d.1.2)).symm
  · unfold dCol; omega
theorem ow_none {d : DE} {L q x y : Int} (h : dK d = 0) : owC d 0 q x y = owC d L q x y := (ow_0 h q _).trans (ow_0 h q _).symm
theorem ow_cyc {d : DE} {L q x y : Int} (h : dK d = 2) : U.rem q L = owC d L q x y := ow_2 h q _
theorem rl_ofV (ρ : Ren) (k : Int) (d : DE) (L : Int) : Rl ρ (ofV k d L) (ofV k d L) := by
  unfold ofV
  split
  · exact ⟨rfl, trivial, ⟨rfl, rfl, rfl, sameRowD⟩, trivial⟩
  split
  · exact ⟨rfl, trivial, ⟨rfl, rfl, rfl, row1H fun _ _ => rfl⟩, ⟨rfl, rfl, rfl, sameRowD⟩, trivial⟩
  split
  · exact ⟨rfl, trivial, ⟨rfl, rfl, rfl, row1H fun _ _ => rfl⟩, trivial⟩
  split
  · exact ⟨rfl, trivial, ⟨rfl, rfl, rfl, sameRowD⟩, ⟨rfl, rfl, rfl, row1H fun _ _ => rfl⟩, trivial⟩
  · exact ⟨rfl, trivial, ⟨rfl, rfl, rfl, sameRowD⟩, ⟨rfl, rfl, rfl, row1H fun _ _ => rfl⟩, trivial⟩
noncomputable abbrev mA (q : XA) (i : Nat) : Mem := memA q.K i (ofV (dK (q.fd 0)) (q.fd 0) (nv q.fl 0)) (dCol (q.fd 0))
def ZA (q : XA) (o : Ex × Few) : Prop := (okB q.K 0 q.c = true → o = (.normal, (slA q.fd q.fl, mA q q.c))) ∧ (okB q.K 0 q.c = false → o = (.ret, (slA q.fd q.fl, memA' q.K (lk stopA q.K 0 q.c + 1))))
def PhiA (n0 : Nat) (q : XA) : Prop := PreA n0 q.K (q.fd 0) (nv q.fl 0) q.c q.el
theorem ren4A {k : Nat} (hk : k ≤ 4) : ∀ b, b < k → Ren.of (idR 4) b = some b := renId hk
theorem slA_rl {ρ : Ren} (fd : Nat → DE) (fl : Nat → R1) (h1 : ρ.of 1 = some 1) (h2 : ρ.of 2 = some 2) (h3 : ρ.of 3 = some 3) : RlL ρ (slA fd fl) (slA fd fl) := ⟨⟨rfl, rfl, rfl, sameRowD⟩, ⟨rfl, rfl, rfl, row1H fun _ _ => rfl⟩, ⟨h1, rfl⟩, ⟨h2, rfl⟩, ⟨h3, rfl⟩, trivial⟩
/-- A round's end. -/
theorem endA {n0 : Nat} {q : XA} (hq : PhiA n0 q) {i : Nat} (hi : i < q.c) (hans : ∀ j, j < i → q.K.ans (0 + j) = true) {x y : Int} {g0 g1 g2 g3 g4 : Nat} {fv : SV} (hf : Rl (idR 4) fv (ofV (dK (q.fd 0)) (q.fd 0) (nv q.fl 0))) :
    (q.K.ans i = true → (∀ j, j < i + 1 → q.K.ans (0 + j) = true) ∧ Wk 38 [1,2,3,4,5] n0 (slA q.fd q.fl, [(g0, some (.seq true q.K (i + 1))), (g1, some (.cells [yieldV q.K] 44)), (g2, some (.cells [fv] 182)), (g3, some (.cells [.lit (.int .i64 (dCol (q.fd 0)))] 3)), (g4, some (.cells [.lit (.int .i64 x), .lit (.int .i64 y)] 103))]) (slA q.fd q.fl, mA q (i + 1))) ∧
    (q.K.ans i = false → ∃ s, ZA q (.ret, s) ∧ Wk 38 [1,2,3,4,5] n0 (slA q.fd q.fl, [(g0, some (.seq false q.K (i + 1))), (g1, some (.cells [yieldV q.K] 44)), (g2, some (.cells [fv] 182)), (g3, some (.cells [.lit (.int .i64 (dCol (q.fd 0)))] 3)), (g4, some (.cells [.lit (.int .i64 x), .lit (.int .i64 y)] 103))]) s) := by
  have h0 : n0 ≤ 4 := hq.1
  refine ⟨fun ha => ⟨fun j hj => ?_, ?_⟩, fun ha => ⟨(slA q.fd q.fl, memA' q.K (lk stopA q.K 0 q.c + 1)), ⟨fun h => ?_, fun _ => rfl⟩, ?_⟩⟩
  · rw [Nat.zero_add]
    by_cases e : j = i
    · subst e; exact ha
    · have := hans j (by omega); rwa [Nat.zero_add] at this
  · exact wk_of (idR 4) rfl h0 (ren4A h0) (slA_rl _ _ rfl rfl rfl) ⟨⟨rfl, rfl, rfl, rfl, rfl⟩, ⟨rfl, rfl, trivial⟩, ⟨rfl, hf, trivial⟩, ⟨rfl, rfl, trivial⟩, trivial⟩
  · rw [okB_f hi (by rw [Nat.zero_add]; exact ha)] at h; cases h
  · have hs0 : stopA q.K 0 q.c = i := stopA_eq hi (by rw [Nat.zero_add]; exact ha) hans
    exact wk_of (idR 4) rfl h0 (ren4A h0) (slA_rl _ _ rfl rfl rfl) ⟨⟨rfl, rfl, rfl, rfl, by rw [lk_eq, hs0]⟩, trivial⟩
theorem rangeA : RangeC P cdA (rfew 38 [1,2,3,4,5] gA) := by
  refine range_few (E := EA) (L := []) mixed (envOK (allOK mixed kA0_ok) 10) (g0 := .tmp 25) (ps := #[26, 27]) (assign := asA) (body := bdA) (by kernel_rfl) loopsOK_none loopsOK_none 38 [1,2,3,4,5] (by decide) (X := XA) gA
    (fun _ q => slA q.fd q.fl) (fun _ q i => mA q i) (fun q => q.c) (fun q => q.el) PhiA
    (fun _ q i => ∀ j, j < i → q.K.ans (0 + j) = true) (fun _ q o => ZA q o)
    (fun _ _ => rfl) ?_ ?_ ?_ ?_ ?_
  · intro m0 c0 el0 st r h
    unfold gA at h
    split at h
    · rename_i ss fd ss2 fl e0 K e1 l t1 e2 fv t2 e3 cv t3
      by_cases e : eqShs ss ssD = true ∧ eqShs ss2 ssL = true
      rotate_left
      · rw [dif_neg e] at h; exact h.elim
      rw [dif_pos e] at h
      have es := eqShs_eq _ _ e.1
      subst es
      have es2 := eqShs_eq _ _ e.2
      subst es2
      obtain ⟨hp, hfv, hcv, rfl, rfl, rfl, rfl⟩ := (T.is_ask h).1
      have hh := (T.is_ask h).2
      simp only [lk_eq] at hp hfv hcv hh
      have hfv : fv = ofV (dK (fd 0)) (fd 0) (nv fl 0) := hfv
      subst hfv
      have h0 : m0 ≤ 4 := hp.1
      have hcell : Rl (idR 4) cv (.lit (.int .i64 (dCol (fd 0)))) := by
        rcases hcv with rfl | ⟨rfl, hC⟩
        · exact rfl
        · show Value.int .i64 (dCol (fd 0)) = Value.int .i64 1
          exact congrArg _ hC
      have w : Wk 38 [1,2,3,4,5] m0 (slA fd fl, [(e0, some (.seq true K 0)), (e1, some (.cells [.lit (.func (.yield K.l) ⟨[]⟩ ⟨[]⟩)] 44)), (e2, some (.cells [ofV (dK (fd 0)) (fd 0) (nv fl 0)] 182)), (e3, some (.cells [cv] 3))]) (slA fd fl, mA ⟨K, fd, fl, c0, el0⟩ 0) :=
        wk_of (idR 4) rfl h0 (ren4A h0) (slA_rl _ _ rfl rfl rfl) ⟨⟨rfl, rfl, rfl, rfl, rfl⟩, ⟨rfl, rfl, trivial⟩, ⟨rfl, rl_ofV _ _ _ _, trivial⟩, ⟨rfl, hcell, trivial⟩, trivial⟩
      refine ⟨⟨K, fd, fl, c0, el0⟩, hp, rfl, rfl, w, fun j hj => absurd hj (Nat.not_lt_zero j), fun o ho => ?_⟩
      rcases hh with ⟨he, h⟩ | ⟨he, h⟩ <;> obtain rfl := T.is_ret h
      · exact ho.1 he
      · exact (ho.2 he).trans (by rw [lk_eq]; rfl)
    · exact h.elim
  · intro n0 q i hq hi
    have : q.el = elD _ _ := hq.2.2.2.2.1
    show (q.el i).length = 2
    rw [this]; rfl
  · intro n0 q i hq
    exact hq.1
  · intro n0 q i hq hi hans
    obtain ⟨K, fd, fl, c, el⟩ := q
    have hq' := hq
    obtain ⟨h0, hP, hd, hc, hel, hn, hK⟩ := hq'
    simp only [] at h0 hP hd hc hel hn hK hi
    have ex : el i = [.int .i64 (i : Int), .agg #[.int .i64 (idX (fd 0).1.1 (fd 0).1.2 i), .int .i64 (idY (fd 0).1.1 (fd 0).1.2 i)]] := by rw [hel]; unfold elD; rw [ixD_eq]; rfl
    have hi' : i < dSz (fd 0) := by omega
    obtain ⟨o1, o2, o3, o4⟩ := oc_of hd hi'
    have yk : ∀ v, v = dOw (fd 0) (nv fl 0) i → YldAsk P K.l K i [.int .i64 (i : Int), .int .i64 v] := fun v hv => ⟨hP, rfl, by omega, by rw [hK, hv]; rfl⟩
    have endA' := fun (fv : SV) (hf : fv = ofV (dK (fd 0)) (fd 0) (nv fl 0)) => endA (x := idX (fd 0).1.1 (fd 0).1.2 i) (y := idY (fd 0).1.1 (fd 0).1.2 i) (g0 := 1) (g1 := 0) (g2 := 0) (g3 := 0) (g4 := 1) (fv := fv) hq hi hans (by rw [hf]; exact rl_ofV _ _ _ _)
    have fit := fit_k (chD_zero.1 (dmE_zero.1 hd).2.2.1).2
    have fit : dK (fd 0) = 0 ∨ dK (fd 0) = 1 ∨ dK (fd 0) = 2 ∨ (dK (fd 0) = 3 ∧ _ ∧ _) ∨ dK (fd 0) = 4 := fit
    show ((sxR EA [] 4 #[26, 27] asA bdA (el i) (mkS 38 [1,2,3,4,5] (slA fd fl), memA K i (ofV (dK (fd 0)) (fd 0) (nv fl 0)) (dCol (fd 0)))).bind (fun r => .ret (r.1, r.2.2))).All _
    rw [ex]
    rcases fit with hk | hk | hk | ⟨hk, _⟩ | hk
    · have ev : ofV (dK (fd 0)) (fd 0) (nv fl 0) = .fn (.func 224) [] [rpD fun _ => fd 0] := by unfold ofV; rw [if_pos hk]
      obtain ⟨eN, eR⟩ := endA' _ ev.symm
      rw [ev]
      rw [t_A0]
      simp only [lk_eq, o1]
      exact ⟨o2, hk, yk _ ((ow_none hk).trans o4), eN, eR⟩
    · have ev : ofV (dK (fd 0)) (fd 0) (nv fl 0) = .fn (.func 225) [] [rpL fun _ => (nv fl 0, ()), rpD fun _ => fd 0] := by unfold ofV; rw [if_neg (by omega), if_pos hk]
      obtain ⟨eN, eR⟩ := endA' _ ev.symm
      rw [ev]
      rw [t_A1]
      simp only [lk_eq, o1]
      rw [hk] at o3
      exact ⟨o2, o3, yk _ o4, eN, eR⟩
    · have ev : ofV (dK (fd 0)) (fd 0) (nv fl 0) = .fn (.func 226) [] [rpL fun _ => (nv fl 0, ())] := by unfold ofV; rw [if_neg (by omega), if_neg (by omega), if_pos hk]
      obtain ⟨eN, eR⟩ := endA' _ ev.symm
      rw [ev]
      rw [t_A2]
      simp only [lk_eq, o1]
      exact ⟨o2, (by have := (dmE_zero.1 hd).1; show nv fl 0 ≠ 0; omega), yk _ ((ow_cyc hk).trans o4), eN, eR⟩
    · have ev : ofV (dK (fd 0)) (fd 0) (nv fl 0) = .fn (.func 227) [] [rpD fun _ => fd 0, rpL fun _ => (nv fl 0, ())] := by unfold ofV; rw [if_neg (by omega), if_neg (by omega), if_neg (by omega), if_pos hk]
      obtain ⟨eN, eR⟩ := endA' _ ev.symm
      rw [ev]
      rw [t_A3]
      simp only [lk_eq, o1]
      rw [hk] at o3
      exact ⟨o2, o3, yk _ o4, eN, eR⟩
    · have ev : ofV (dK (fd 0)) (fd 0) (nv fl 0) = .fn (.func 228) [] [rpD fun _ => fd 0, rpL fun _ => (nv fl 0, ())] := by unfold ofV; rw [if_neg (by omega), if_neg (by omega), if_neg (by omega), if_neg (by omega)]
      obtain ⟨eN, eR⟩ := endA' _ ev.symm
      rw [ev]
      rw [t_A4]
      simp only [lk_eq, o1]
      rw [hk] at o3
      exact ⟨o2, o3, yk _ o4, eN, eR⟩
  · intro n0 q hq hans
    have h0 : n0 ≤ 4 := hq.1
    have hall := okB_t.2 hans
    exact ⟨_, ⟨fun _ => rfl, fun h => absurd (hall.symm.trans h) (by decide)⟩, wk_of (idR 4) rfl h0 (ren4A h0) (slA_rl _ _ rfl rfl rfl) ⟨⟨rfl, rfl, rfl, rfl, rfl⟩, ⟨rfl, rfl, trivial⟩, ⟨rfl, rl_ofV _ _ _ _, trivial⟩, ⟨rfl, rfl, trivial⟩, trivial⟩⟩
end Go.RX.Span

/- Domain maps: all positions with their owners: what is yielded. -/
set_option linter.unusedVariables false
set_option linter.unusedSimpArgs false
set_option maxRecDepth 100000
namespace Go.RX.Span
open Go Go.RX
attribute [local irreducible] sx conB

noncomputable abbrev lA : List (Nat × Loops) := [(223, [(1006, .rng 209 sc209 (rfew 38 [1,2,3,4,5] gA))])] --%K
theorem lA_ok : ∀ p ∈ lA, LoopsOK P p.2 (bodyOf P p.1) := by
  intro p hp
  simp only [lA, List.mem_singleton] at hp
  subst hp
  refine loopsOK_ofR (by kernel_rfl) (by kernel_rfl) (fun k g hk => by simp at hk) fun k gf sc g hk => ?_
  simp only [List.mem_singleton, Prod.mk.injEq, LoopC.rng.injEq] at hk
  obtain ⟨rfl, rfl, rfl, rfl⟩ := hk
  exact ⟨sc209_ok, rangeA⟩
def DmAsk (d : DE) (L : Int) : Prop := dDm d L = 0
noncomputable def sc223 : SCon := fun args => match args with
  | [.rptr [.sl [.int .i64, .int .i64, .int .i64], .int .i64, .int .i64, .int .i64] 1 fd 0 0, .rptr [.int .i64] 1 fl 0 0] => .ask (lk DmAsk (fd 0) (lk nv fl 0)) (.ret (lk dSz (fd 0), lk elA (fd 0) (lk nv fl 0)))
  | _ => .stuck 1
noncomputable def c_all2 : Con := fun args => match args with
  | [.agg [.row [.int .i64, .int .i64, .int .i64] n f, .lit (.int .i64 k), .lit (.int .i64 s), .lit (.int .i64 h)], .lit (.int .i64 L)] => .ret (.fn (.func 223) [] [rpD fun _ => ((n, f), k, s, h, ()), rpL fun _ => (L, ())])
  | _ => .stuck 1
set_option maxRecDepth 100000 in
theorem t_all2 (n : Nat) (f : Nat → R3) (k s h L : Int) : conB Go.Proofs.Try.prog (conOf []) noLoops 10 187 [.agg [.row [.int .i64, .int .i64, .int .i64] n f, .lit (.int .i64 k), .lit (.int .i64 s), .lit (.int .i64 h)], .lit (.int .i64 L)] =
    T.ret (SV.fn (Fn.func (nat_lit 223)) [] [SV.rptr [.sl [.int .i64, .int .i64, .int .i64], .int .i64, .int .i64, .int .i64] (nat_lit 1) (fun x => ((n, f), k, s, h, PUnit.unit))
      (nat_lit 0) (nat_lit 0), SV.rptr [.int .i64] (nat_lit 1) (fun x => (L, PUnit.unit)) (nat_lit 0) (nat_lit 0)]) := by kernel_rfl
theorem all2_ok : ConOK P 187 c_all2 := con_of (allOK mixed none_ok) 10 187 fun args r h => by
  unfold c_all2 at h
  split at h
  · rename_i n f k s h' L
    obtain rfl := T.is_ret h
    rw [t_all2]
    rfl
  · exact h.elim
end Go.RX.Span

/- Domain maps: all positions with their owners: the iterator yields what is said. -/
set_option linter.unusedVariables false
set_option linter.unusedSimpArgs false
set_option maxRecDepth 100000
namespace Go.RX.Span
open Go Go.RX
attribute [local irreducible] sx conB

noncomputable abbrev dSz' (d : DE) : Nat := lk szDn d.1.1 d.1.2 d.2.1 d.2.2.1 d.2.2.2.1
/-- The walk behind the choice of the function. -/
noncomputable def tlA (K : Cons) (fd : Nat → DE) (fl : Nat → R1) (fv cv : SV) (g3 : Nat) : T (SV × Mem) :=
  .ask (Row64 (fd 0).1.1 (fd 0).1.2) (.ask (lk PreA 1 K (fd 0) (lk nv fl 0) (dSz' (fd 0)) (lk elD (fd 0).1.1 (fd 0).1.2) ∧ fv = ofV (dK (fd 0)) (fd 0) (lk nv fl 0) ∧ ColOk cv (lk dCol (fd 0)) ∧ K.l = K.l ∧ 44 = 44 ∧ 182 = 182 ∧ 3 = 3)
    (.br (lk okB K 0 (dSz' (fd 0))) (.ret (.tup [], [(1, some (.seq true K (dSz' (fd 0)))), (1, some (.cells [yieldV K] 44)), (2, some (.cells [fv] 182)), (g3, some (.cells [.lit (.int .i64 (lk dCol (fd 0)))] 3))]))
      (.ret (.tup [], [(1, some (.seq false K (lk stopA K 0 (dSz' (fd 0)) + 1))), (1, none), (2, none), (g3, none)]))))
noncomputable def brA (K : Cons) (fd : Nat → DE) (fl : Nat → R1) (fv : SV) : T (SV × Mem) :=
  .br (U.gt (Int.ofNat (fd 0).1.1) 1) (.ask ((0 : Int) ≤ 1 ∧ (1 : Int) < ((fd 0).1.1 : Int)) (.ask (I64 ((fd 0).1.2 (U.toNat 1)).1 ∧ I64 ((fd 0).1.2 (U.toNat 1)).2.1 ∧ I64 ((fd 0).1.2 (U.toNat 1)).2.2.1)
    (tlA K fd fl fv (.lit (.int .i64 (lk size ((fd 0).1.2 (U.toNat 1)).1 ((fd 0).1.2 (U.toNat 1)).2.1 ((fd 0).1.2 (U.toNat 1)).2.2.1))) 3))) (tlA K fd fl fv (.ki .i64 1) 2)
theorem t_223 (K : Cons) (fd : Nat → DE) (fl : Nat → R1) : scall P (conOf kA0) (loopsOf lA) 10 223 [yieldV K, rpD fd, rpL fl] [(0, some (.seq true K 0))] =
    .br (U.eq (dK (fd 0)) 0) (brA K fd fl (.fn (.func 224) [] [rpD fun _ => fd 0])) (.br (U.eq (dK (fd 0)) 1) (brA K fd fl (.fn (.func 225) [] [rpL fun _ => (nv fl 0, ()), rpD fun _ =>
      fd 0])) (.br (U.eq (dK (fd 0)) 2) (brA K fd fl (.fn (.func 226) [] [rpL fun _ => (nv fl 0, ())])) (.br (U.eq (dK (fd 0)) 3) (brA K fd fl (.fn (.func 227) [] [rpD fun _ => fd 0, rpL
      fun _ => (nv fl 0, ())])) (.br (U.eq (dK (fd 0)) 4) (brA K fd fl (.fn (.func 228) [] [rpD fun _ => fd 0, rpL fun _ => (nv fl 0, ())])) (.stuck 41))))) := by kernel_rfl
theorem tl_all {K : Cons} {fd : Nat → DE} {fl : Nat → R1} {fv cv : SV} {g3 : Nat} (hd : dDm (fd 0) (nv fl 0) = 0) (hK : K.P = P) (hn : K.n = dSz (fd 0)) (hel : K.el = elA (fd 0) (nv fl 0)) (hf : fv = ofV (dK (fd 0)) (fd 0) (nv fl 0)) (hc : ColOk cv (dCol (fd 0))) :
    (tlA K fd fl fv cv g3).All fun p => SeqEnd K p.2 := by
  have h64 : Row64 (fd 0).1.1 (fd 0).1.2 := dr_64 (chD_zero.1 (dmE_zero.1 hd).2.2.1).1
  unfold tlA
  simp only [dSz', lk_eq]
  exact ⟨h64, ⟨⟨by decide, hK, hd, rfl, rfl, hn, hel⟩, hf, hc, trivial, trivial, trivial, trivial⟩, fun _ => .inl (by rw [hn]; rfl), fun _ => .inr ⟨_, rfl⟩⟩
theorem br_all {K : Cons} {fd : Nat → DE} {fl : Nat → R1} {fv : SV} (hd : dDm (fd 0) (nv fl 0) = 0) (hK : K.P = P) (hn : K.n = dSz (fd 0)) (hel : K.el = elA (fd 0) (nv fl 0)) (hf : fv = ofV (dK (fd 0)) (fd 0) (nv fl 0)) :
    (brA K fd fl fv).All fun p => SeqEnd K p.2 := by
  obtain ⟨d1, _⟩ := chD_zero.1 (dmE_zero.1 hd).2.2.1
  have hdn : dN (fd 0) = 1 ∨ dN (fd 0) = 2 := d1.1
  unfold brA
  have t1 : U.toNat (1 : Int) = 1 := tn 1
  simp only [lk_eq, t1]
  refine ⟨fun g => ?_, fun g => tl_all hd hK hn hel hf (.inr ⟨rfl, ?_⟩)⟩
  · have g : (1 : Int) < ((dN (fd 0) : Nat) : Int) := U.gt_t.mp g
    refine ⟨⟨by decide, g⟩, dr_64 d1 1 (show 1 < dN (fd 0) by omega), tl_all hd hK hn hel hf (.inl ?_)⟩
    have hr := d1.2 1 (show 1 < dN (fd 0) by omega)
    have e := szN_R hr
    have ec : dCol (fd 0) = szR ((fd 0).1.2 1) := by
      show ((colN (fd 0).1.1 (fd 0).1.2 : Nat) : Int) = _
      have : ¬ dN (fd 0) = 1 := by omega
      exact (congrArg (fun v : Nat => (v : Int)) (if_neg this)).trans e
    exact congrArg (fun v => SV.lit (.int .i64 v)) ec.symm
  · have g : ((dN (fd 0) : Nat) : Int) ≤ 1 := U.gt_f.mp g
    show ((colN (fd 0).1.1 (fd 0).1.2 : Nat) : Int) = 1
    have : dN (fd 0) = 1 := by omega
    exact congrArg (fun v : Nat => (v : Int)) (if_pos this)
theorem sc223_ok : SConOK P 223 sc223 := scon_of (allOKL mixed kA0_ok lA_ok) 10 223 fun args q h K hK hn hel => by
  unfold sc223 at h
  split at h
  · rename_i fd fl
    have hd : dDm (fd 0) (nv fl 0) = 0 := by have := (T.is_ask h).1; simp only [lk_eq] at this; exact this
    obtain rfl := T.is_ret (T.is_ask h).2
    simp only [lk_eq] at hn hel
    refine T.all_of_eq (t_223 K fd fl) ?_
    have fit := fit_k (chD_zero.1 (dmE_zero.1 hd).2.2.1).2
    have fit : dK (fd 0) = 0 ∨ dK (fd 0) = 1 ∨ dK (fd 0) = 2 ∨ (dK (fd 0) = 3 ∧ _ ∧ _) ∨ dK (fd 0) = 4 := fit
    refine ⟨fun g => br_all hd hK hn hel ?_, fun g0 => ⟨fun g => br_all hd hK hn hel ?_, fun g1 => ⟨fun g => br_all hd hK hn hel ?_, fun g2 => ⟨fun g => br_all hd hK hn hel ?_, fun g3 => ⟨fun g => br_all hd hK hn hel ?_, fun g4 => ?_⟩⟩⟩⟩⟩
    · have g := U.eq_t.mp g; unfold ofV; rw [if_pos g]
    · have g := U.eq_t.mp g; unfold ofV; rw [if_neg (by omega), if_pos g]
    · have g := U.eq_t.mp g; unfold ofV; rw [if_neg (by omega), if_neg (by omega), if_pos g]
    · have g := U.eq_t.mp g; unfold ofV; rw [if_neg (by omega), if_neg (by omega), if_neg (by omega), if_pos g]
    · have g := U.eq_t.mp g; unfold ofV; rw [if_neg (by omega), if_neg (by omega), if_neg (by omega), if_neg (by omega)]
    · have a0 := U.eq_f.mp g0; have a1 := U.eq_f.mp g1; have a2 := U.eq_f.mp g2; have a3 := U.eq_f.mp g3; have a4 := U.eq_f.mp g4
      omega
  · exact h.elim
end Go.RX.Span

/- Domain maps: the local parts of all locales: the states. -/
set_option linter.unusedVariables false
set_option linter.unusedSimpArgs false
set_option maxRecDepth 100000
namespace Go.RX.Span
open Go Go.RX
attribute [local irreducible] sx conB

abbrev NF := Nat → Bool × Nat × (Nat → R1)
noncomputable abbrev cdPt : Code := rangeOf P 131 1003 --%K
noncomputable abbrev asPt : Code := match rangeOf P 131 1003 with | .rangeFunc _ _ a _ => a | _ => .skip --%K
noncomputable abbrev bdPt : Code := match rangeOf P 131 1003 with | .rangeFunc _ _ _ b => b | _ => .skip --%K
noncomputable abbrev EPt : Env := ⟨P, conOf [], scall P (conOf []) noLoops 10⟩
noncomputable abbrev memPt (N : Nat) (F : NF) : Mem := [(0, none), (0, some (.nest N [.int .i64] F none 35 3)), (0, some (.cells [.own false 1 N] 134))]
/-- The positions of a locale among the first so many. -/
def pkL (ow : Nat → Int) (i : Nat) (l : Int) : List Nat := (List.range i).filter fun p => decide (ow p = l)
noncomputable def nFd (d : DE) (L : Int) (i : Nat) : NF := fun l => (decide (pkL (dOw d L) i l = []), (pkL (dOw d L) i l).length, rowN (pkL (dOw d L) i l))
/-- The local parts, as rows. -/
noncomputable def paF (d : DE) (L : Int) (l : Nat) : Els [.sl [.int .i64]] := (((partL d.1.1 d.1.2 d.2.1 d.2.2.1 d.2.2.2.1 L l).length, rowN (partL d.1.1 d.1.2 d.2.1 d.2.2.1 d.2.2.2.1 L l)), ())
def PrePt (n0 : Nat) (d : DE) (L : Int) (c : Nat) (el : Nat → List Value) (N : Nat) (F : NF) : Prop := n0 ≤ 3 ∧ dDm d L = 0 ∧ c = dSz d ∧ el = elA d L ∧ N = U.toNat L ∧ c ≤ 5000 ∧ ∀ l, l < N → (F l).1 = true ∧ (F l).2.1 = 0
noncomputable def gPt : Nat → Nat → (Nat → List Value) → Few → T (Ex × Few)
  | n0, c, el, ([.lit (.int .i64 L), .ptr 2 0], [(_, some (.cells [.row [.int .i64, .int .i64, .int .i64] n f, .lit (.int .i64 k), .lit (.int .i64 s), .lit (.int .i64 h)] t0)), (_, some (.nest N [.int .i64] F none t1 t2)), (_, some (.cells [.own false 1 N'] t3))]) =>
    .ask (lk PrePt n0 ((n, f), k, s, h, ()) L c el N F ∧ N' = N ∧ t0 = 49 ∧ t1 = 35 ∧ t2 = 3 ∧ t3 = 134) (.ret (.normal, ([.lit (.int .i64 L), .ptr 2 0], memPt N (lk nFd ((n, f), k, s, h, ()) L c))))
  | _, _, _, _ => .stuck 1
structure XPt where
  (d : DE) (L : Int) (c : Nat) (el : Nat → List Value) (N : Nat) (F : NF)
end Go.RX.Span

/- Domain maps: the local parts of all locales: the walk. -/
set_option linter.unusedVariables false
set_option linter.unusedSimpArgs false
set_option maxRecDepth 100000
namespace Go.RX.Span
open Go Go.RX
attribute [local irreducible] sx conB

set_option maxRecDepth 100000 in
theorem t_Pt (N : Nat) (F : NF) (L p l : Int) : (sxR EPt [] 3 #[13, 14] asPt bdPt [.int .i64 p, .int .i64 l] (mkS 26 [1, 5] [.lit (.int .i64 L), .ptr 2 0], memPt N F)).bind (fun r => .ret (r.1, unf r.2.2)) =
    T.ask ((0 : Int) ≤ l ∧ l < ↑N) (.ask (U.toNat l < N) (.ask (((F (U.toNat l)).2.1 + (1 : Nat)) * nat_lit 8 ≤ nat_lit 140737488351232) (.ask ((0 : Int) ≤ l ∧ l < ↑N) (.ask (U.toNat l
      = U.toNat l) (.ret (Ex.normal, [(nat_lit 0, none), (nat_lit 3, some (Blk.nest N [.int .i64] (U.upd F (U.toNat l) (false, (F (U.toNat l)).2.1.add (nat_lit 1), U.cat (F (U.toNat
      l)).2.1 (F (U.toNat l)).snd.2 fun x => (p, PUnit.unit))) none (nat_lit 35) (nat_lit 3))), (nat_lit 0, some (Blk.cells [SV.own false (nat_lit 1) N] (nat_lit 134))), (nat_lit 1,
      none), (nat_lit 0, some (Blk.cells [.lit (.int .i64 p)] (nat_lit 3))), (nat_lit 1, none)])))))) := by kernel_rfl
theorem pk_s (ow : Nat → Int) (i : Nat) (l : Int) : pkL ow (i + 1) l = pkL ow i l ++ (if ow i = l then [i] else []) := by
  unfold pkL
  rw [List.range_succ, List.filter_append]
  by_cases h : ow i = l <;> simp [h]
theorem pk_len (ow : Nat → Int) (i : Nat) (l : Int) : (pkL ow i l).length ≤ i := Nat.le_trans (List.length_filter_le _ _) (by simp)
def oneR (x : Int) : R1 := (x, ())
theorem rowN_app (l : List Nat) (p : Nat) (x : Int) (hx : x = (p : Int)) : ∀ i, i < l.length + 1 → U.cat l.length (rowN l) (fun _ => oneR x) i = rowN (l ++ [p]) i := fun i hi => by
  refine (U.cat_eq _ _ _ _).trans ?_
  subst hx
  by_cases h : i < l.length
  · rw [if_pos h]; unfold rowN
    rw [List.getD_eq_getElem?_getD, List.getD_eq_getElem?_getD, List.getElem?_append_left h]
  · rw [if_neg h]
    obtain rfl : i = l.length := by omega
    unfold rowN
    rw [List.getD_eq_getElem?_getD, List.getElem?_append_right (Nat.le_refl _), Nat.sub_self]; rfl
theorem nat64 {x : Int} (h : 0 ≤ x) : ((U.toNat x : Nat) : Int) = x := by rw [U.toNat_eq]; omega
theorem rangePt : RangeC P cdPt (rfewN 26 [1, 5] gPt) := by
  refine range_fewN (E := EPt) (L := []) mixed (envOK (allOK mixed none_ok) 10) (g0 := .tmp 12) (ps := #[13, 14]) (assign := asPt) (body := bdPt) (by kernel_rfl) loopsOK_none loopsOK_none 26 [1, 5] (by decide) (X := XPt) gPt
    (fun _ q => [.lit (.int .i64 q.L), .ptr 2 0]) (fun _ q i => memPt q.N (nFd q.d q.L i)) (fun q => q.c) (fun q => q.el) (fun n0 q => PrePt n0 q.d q.L q.c q.el q.N q.F)
    (fun _ _ _ => True) (fun _ q o => o = (.normal, ([.lit (.int .i64 q.L), .ptr 2 0], memPt q.N (nFd q.d q.L q.c))))
    (fun _ _ => rfl) ?_ ?_ ?_ ?_ ?_
  · intro m0 c0 el0 st r h
    unfold gPt at h
    split at h
    · rename_i L e0 n f k s h' t0 e1 N F t1 t2 e2 N' t3
      obtain ⟨hp, rfl, rfl, rfl, rfl, rfl⟩ := (T.is_ask h).1
      obtain rfl := T.is_ret (T.is_ask h).2
      rw [lk_eq] at hp
      have h0 : m0 ≤ 3 := hp.1
      refine ⟨⟨((n, f), k, s, h', ()), L, c0, el0, N', F⟩, hp, rfl, rfl, ?_, trivial, fun o ho => by rw [ho]; simp only [lk_eq]⟩
      refine wk_of (idR 3) rfl h0 (renId h0) ⟨rfl, ⟨rfl, rfl⟩, trivial⟩ ⟨⟨rfl, rfl, rfl, rfl, eqShs_refl _, fun i hi => ?_⟩, ⟨rfl, ⟨rfl, rfl, rfl⟩, trivial⟩, trivial⟩
      obtain ⟨a1, a2⟩ := hp.2.2.2.2.2.2 i hi
      exact ⟨a1, a2, eqShs_refl _, fun j hj => absurd hj (Nat.not_lt_zero j)⟩
    · exact h.elim
  · intro n0 q i hq hi
    have : q.el = elA _ _ := hq.2.2.2.1
    show (q.el i).length = 2
    rw [this]; rfl
  · intro n0 q i hq
    exact hq.1
  · intro n0 q i hq hi _
    obtain ⟨d, L, c, el, N, F⟩ := q
    obtain ⟨h0, hd, hc, hel, hN, h5, _⟩ := hq
    simp only [] at h0 hd hc hel hN h5 hi
    subst hel hN
    obtain ⟨l1, l8, hch, _⟩ := dmE_zero.1 hd
    obtain ⟨o1, o2⟩ := owP_bnd (L := L) hd (show i < szDn d.1.1 d.1.2 d.2.1 d.2.2.1 d.2.2.2.1 from (by omega : i < dSz d))
    have o1 : 0 ≤ dOw d L i := o1
    have o2 : dOw d L i < L := o2
    have eo := nat64 o1
    have eL := nat64 (show 0 ≤ L by omega)
    have lp := pk_len (dOw d L) i ((U.toNat (dOw d L i) : Nat) : Int)
    refine T.all_of_eq (t_Pt (U.toNat L) (nFd d L i) L (i : Int) (dOw d L i)) ?_
    refine ⟨⟨o1, by omega⟩, by omega, ?_, ⟨o1, by omega⟩, rfl, trivial, ?_⟩
    · show ((pkL (dOw d L) i ((U.toNat (dOw d L i) : Nat) : Int)).length + 1) * 8 ≤ 140737488351232
      omega
    · refine wk_of (idR 3) rfl h0 (renId h0) ⟨rfl, ⟨rfl, rfl⟩, trivial⟩ ⟨⟨rfl, rfl, rfl, rfl, eqShs_refl _, fun j hj => ?_⟩, ⟨rfl, ⟨rfl, rfl, rfl⟩, trivial⟩, trivial⟩
      by_cases e : j = U.toNat (dOw d L i)
      · have eu : ∀ v, U.upd (nFd d L i) (U.toNat (dOw d L i)) v j = v := fun v => (U.upd_eq _ _ _ _).trans (if_pos e)
        have ep : pkL (dOw d L) (i + 1) (j : Int) = pkL (dOw d L) i (j : Int) ++ [i] := by rw [pk_s, if_pos (by rw [e, eo])]
        rw [eu]
        subst e
        refine ⟨?_, ?_, eqShs_refl _, fun x hx => ?_⟩
        · show false = decide (pkL (dOw d L) (i + 1) _ = [])
          rw [ep]; simp
        · show (pkL (dOw d L) i _).length + 1 = (pkL (dOw d L) (i + 1) _).length
          rw [ep, List.length_append]; rfl
        · have hx : x < (pkL (dOw d L) (i + 1) ((U.toNat (dOw d L i) : Nat) : Int)).length := hx
          rw [ep, List.length_append] at hx
          have := rowN_app (pkL (dOw d L) i ((U.toNat (dOw d L i) : Nat) : Int)) i (i : Int) rfl x hx
          rw [← ep] at this
          exact this
      · have eu : ∀ v, U.upd (nFd d L i) (U.toNat (dOw d L i)) v j = nFd d L i j := fun v => (U.upd_eq _ _ _ _).trans (if_neg e)
        have ep : pkL (dOw d L) (i + 1) (j : Int) = pkL (dOw d L) i (j : Int) := by rw [pk_s, if_neg (by omega), List.append_nil]
        rw [eu]
        have en : nFd d L (i + 1) j = nFd d L i j := by unfold nFd; rw [ep]
        rw [en]
        exact ⟨rfl, rfl, eqShs_refl _, fun x hx => rfl⟩
  · intro n0 q hq _
    have h0 : n0 ≤ 3 := hq.1
    exact ⟨_, rfl, wk_of (idR 3) rfl h0 (renId h0) ⟨rfl, ⟨rfl, rfl⟩, trivial⟩ ⟨⟨rfl, rfl, rfl, rfl, eqShs_refl _, fun j hj => ⟨rfl, rfl, eqShs_refl _, fun x hx => rfl⟩⟩, ⟨rfl, ⟨rfl, rfl, rfl⟩, trivial⟩, trivial⟩⟩
end Go.RX.Span

/- Domain maps: the local parts of all locales; Part. -/
set_option linter.unusedVariables false
set_option linter.unusedSimpArgs false
set_option maxRecDepth 100000
namespace Go.RX.Span
open Go Go.RX
attribute [local irreducible] sx conB

noncomputable abbrev lPt : List (Nat × Loops) := [(131, [(1003, .rng 223 sc223 (rfewN 26 [1, 5] gPt))])] --%K
theorem lPt_ok : ∀ p ∈ lPt, LoopsOK P p.2 (bodyOf P p.1) := by
  intro p hp
  simp only [lPt, List.mem_singleton] at hp
  subst hp
  refine loopsOK_ofR (by kernel_rfl) (by kernel_rfl) (fun k g hk => by simp at hk) fun k gf sc g hk => ?_
  simp only [List.mem_singleton, Prod.mk.injEq, LoopC.rng.injEq] at hk
  obtain ⟨rfl, rfl, rfl, rfl⟩ := hk
  exact ⟨sc223_ok, rangePt⟩
noncomputable abbrev kPt : List (Nat × Con) := [(187, c_all2)] --%K
theorem kPt_ok : ∀ p ∈ kPt, ConOK P p.1 p.2 := by
  intro p hp
  simp only [kPt, List.mem_singleton] at hp
  subst hp
  exact all2_ok
def PaAsk (n : Nat) (f : Nat → R3) (k s h L : Int) : Prop := dmE n f k s h L = 0 ∧ szDn n f k s h ≤ 5000
noncomputable def c_parts : Con := fun args => match args with
  | [.agg [.row [.int .i64, .int .i64, .int .i64] n f, .lit (.int .i64 k), .lit (.int .i64 s), .lit (.int .i64 h)], .lit (.int .i64 L)] => .ask (lk PaAsk n f k s h L) (.ret (.row [.sl [.int .i64]] (U.toNat L) (lk paF ((n, f), k, s, h, ()) L)))
  | _ => .stuck 1
set_option maxRecDepth 100000 in
theorem t_parts (n : Nat) (f : Nat → R3) (k s h L : Int) : conB Go.Proofs.Try.prog (conOf kPt) (loopsOf lPt) 10 131 [.agg [.row [.int .i64, .int .i64, .int .i64] n f, .lit (.int .i64 k), .lit (.int .i64 s), .lit (.int .i64 h)], .lit (.int .i64 L)] =
    T.ask ((0 : Int) ≤ L ∧ L ≤ L ∧ ↑(nat_lit 24) * L ≤ (281474976710656 : Int) ∧ L ≤ (140737488351232 : Int)) (.ask (lk DmAsk ((fun x => ((n, f), k, s, h, ())) (0 : Nat)) (lk nv (fun x
      => (L, PUnit.unit)) (nat_lit 0))) (.ask ((lk PrePt (nat_lit 0) ((n, f), k, s, h, ()) L (lk dSz ((n, f), k, s, h, PUnit.unit)) (lk dSz ((n, f), k, s, h, PUnit.unit), lk elA ((fun x
      => ((n, f), k, s, h, ())) (0 : Nat)) (lk nv (fun x => (L, PUnit.unit)) (nat_lit 0))).snd (U.toNat L) fun x => (true, (0 : Nat), fun x => zeroEs [.int .i64])) ∧ U.toNat L = U.toNat L
      ∧ (49 : Nat) = (49 : TypeId) ∧ (35 : Nat) = (35 : TypeId) ∧ (3 : Nat) = (3 : TypeId) ∧ (134 : Nat) = (134 : TypeId)) (.ret (.row [.sl [.int .i64]] (U.toNat L) fun i => (((lk nFd
      ((n, f), k, s, h, ()) L (lk dSz ((fun x => ((n, f), k, s, h, ())) (0 : Nat)), lk elA ((fun x => ((n, f), k, s, h, ())) (0 : Nat)) (lk nv (fun x => (L, ())) (0 : Nat))).fst i).2.1,
      (lk nFd ((n, f), k, s, h, ()) L (lk dSz ((fun x => ((n, f), k, s, h, ())) (0 : Nat)), lk elA ((fun x => ((n, f), k, s, h, ())) (0 : Nat)) (lk nv (fun x => (L, ())) (0 : Nat))).fst
      i).snd.2), PUnit.unit))))) := by kernel_rfl
theorem parts_ok : ConOK P 131 c_parts := con_cl (allOKL mixed kPt_ok lPt_ok) 10 131 fun args r hh => by
  unfold c_parts at hh
  split at hh
  · rename_i n f k s h L
    obtain ⟨hd, h5⟩ := (lk_eq PaAsk ▸ (T.is_ask hh).1 : PaAsk n f k s h L)
    obtain rfl := T.is_ret (T.is_ask hh).2
    obtain ⟨l1, l8, _⟩ := dmE_zero.1 hd
    refine T.all_of_eq (t_parts n f k s h L) ?_
    simp only [lk_eq]
    refine ⟨⟨by omega, by omega, ?_, by omega⟩, hd, ⟨⟨by decide, hd, rfl, rfl, rfl, h5, fun l hl => ⟨rfl, rfl⟩⟩, trivial, trivial, trivial, trivial, trivial⟩, rfl, eqShs_refl _, fun i hi => rfl⟩
    show (24 : Int) * L ≤ 281474976710656
    omega
  · exact hh.elim
end Go.RX.Span

/- Domain maps: Part, the awake's contracts. -/
set_option linter.unusedVariables false
set_option linter.unusedSimpArgs false
set_option maxRecDepth 100000
namespace Go.RX.Span
open Go Go.RX
attribute [local irreducible] sx conB

/-- The part of a locale, as a row; its length. -/
noncomputable def ptE (n : Nat) (f : Nat → R3) (k s h L l : Int) : Int := lcE n f k s h L l
noncomputable def ptN (n : Nat) (f : Nat → R3) (k s h L l : Int) : Nat := if lcE n f k s h L l ≠ 0 then 0 else (partL n f k s h L l).length
noncomputable def ptF (n : Nat) (f : Nat → R3) (k s h L l : Int) : Nat → R1 := rowN (partL n f k s h L l)
noncomputable def c_Part : Con := fun args => match args with
  | [.agg [.row [.int .i64, .int .i64, .int .i64] n f, .lit (.int .i64 k), .lit (.int .i64 s), .lit (.int .i64 h)], .lit (.int .i64 L), .lit (.int .i64 l)] => .ask (Row64 n f) (.ret (.tup [.row [.int .i64] (lk ptN n f k s h L l) (lk ptF n f k s h L l), .lit (.int .i64 (lk ptE n f k s h L l))]))
  | _ => .stuck 1
noncomputable abbrev kPp : List (Nat × Con) := [(134, c_located), (129, c_listed), (131, c_parts)] --%K
theorem kPp_ok : ∀ p ∈ kPp, ConOK P p.1 p.2 := by
  intro p hp
  simp only [kPp, List.mem_cons, List.not_mem_nil, or_false] at hp
  rcases hp with rfl | rfl | rfl
  · exact located_ok
  · exact listed_ok
  · exact parts_ok
end Go.RX.Span

/- Domain maps: Part. -/
set_option linter.unusedVariables false
set_option linter.unusedSimpArgs false
set_option maxRecDepth 100000
namespace Go.RX.Span
open Go Go.RX
attribute [local irreducible] sx conB

set_option maxRecDepth 100000 in
theorem t_Part (n : Nat) (f : Nat → R3) (k s h L l : Int) : conB Go.Proofs.Try.prog (conOf kPp) noLoops 10 47 [.agg [.row [.int .i64, .int .i64, .int .i64] n f, .lit (.int .i64 k), .lit (.int .i64 s), .lit (.int .i64 h)], .lit (.int .i64 L), .lit (.int .i64 l)] =
    T.ask (Row64 n f) (.br (U.ne (lk lcE n f k s h L l) (0 : Int)) (.ret (.tup [.lit (.slice none (nat_lit 0) (nat_lit 0)), .lit (.int .i64 (lk lcE n f k s h L l))])) (.ask (lk PaAsk n
      f k s h L) (.ask ((0 : Int) ≤ l ∧ l < ↑(U.toNat L)) (.ret (.tup [.row [.int .i64] (lk paF ((n, f), k, s, h, ()) L (U.toNat l)).fst.1 (lk paF ((n, f), k, s, h, ()) L (U.toNat
      l)).fst.2, .lit (.int .i64 0)]))))) := by kernel_rfl
section
variable {n : Nat} {f : Nat → R3} {k s h L l : Int}
theorem lsE_zero : lsE n f k s h L = 0 ↔ dmE n f k s h L = 0 ∧ szD n f k s h ≤ 5000 := by
  unfold lsE
  by_cases h1 : dmE n f k s h L = 0
  · rw [if_neg (by simp [h1])]
    by_cases h2 : 5000 < szD n f k s h
    · rw [if_pos h2]; exact ⟨fun g => by omega, fun g => by omega⟩
    · rw [if_neg h2]; exact ⟨fun _ => ⟨h1, by omega⟩, fun _ => rfl⟩
  · rw [if_pos h1]; exact ⟨fun g => absurd g h1, fun g => absurd g.1 h1⟩
theorem lcE_zero : lcE n f k s h L l = 0 ↔ lsE n f k s h L = 0 ∧ 0 ≤ l ∧ l < L := by
  unfold lcE
  by_cases h1 : lsE n f k s h L = 0
  · rw [if_neg (by simp [h1])]
    by_cases h2 : l < 0 ∨ L ≤ l
    · rw [if_pos h2]; exact ⟨fun g => by omega, fun g => by omega⟩
    · rw [if_neg h2]; exact ⟨fun _ => ⟨h1, by omega⟩, fun _ => rfl⟩
  · rw [if_pos h1]; exact ⟨fun g => absurd g h1, fun g => absurd g.1 h1⟩
theorem pa_ask (h0 : lsE n f k s h L = 0) : PaAsk n f k s h L := by
  obtain ⟨h1, h2⟩ := lsE_zero.1 h0
  refine ⟨h1, ?_⟩
  unfold szDn; omega
end
theorem Part_ok : ConOK P 47 c_Part := con_cl (allOK mixed kPp_ok) 10 47 fun args r hh => by
  unfold c_Part at hh
  split at hh
  · rename_i n f k s h L l
    have d := (T.is_ask hh).1
    obtain rfl := T.is_ret (T.is_ask hh).2
    refine T.all_of_eq (t_Part n f k s h L l) ?_
    simp only [lk_eq]
    refine ⟨d, fun g => ?_, fun g => ?_⟩
    · have g := U.ne_t.mp g
      have e : ptN n f k s h L l = 0 := by unfold ptN; rw [if_pos g]
      rw [e]
      exact ⟨cl_nil, .inl rfl, rfl⟩
    · have g := U.ne_f.mp g
      obtain ⟨g1, g2, g3⟩ := lcE_zero.1 g
      have e : ptN n f k s h L l = (partL n f k s h L l).length := by unfold ptN; rw [if_neg (by simp [g])]
      have el := nat64 g2
      have eL := nat64 (show 0 ≤ L by omega)
      rw [e]
      refine ⟨pa_ask g1, ⟨g2, by omega⟩, ⟨?_, eqShs_refl _, fun i hi => ?_⟩, .inl (congrArg (fun v => SV.lit (.int .i64 v)) g), rfl⟩
      · show (partL n f k s h L ((U.toNat l : Nat) : Int)).length = _
        rw [el]
      · show rowN (partL n f k s h L ((U.toNat l : Nat) : Int)) i = rowN (partL n f k s h L l) i
        rw [el]
  · exact hh.elim
end Go.RX.Span

/- Domain maps: the example of the laws: contracts. -/
set_option linter.unusedVariables false
set_option linter.unusedSimpArgs false
set_option maxRecDepth 100000
namespace Go.RX.Span
open Go Go.RX
attribute [local irreducible] sx conB

noncomputable abbrev kW0 : List (Nat × Con) := [(47, c_Part), (53, c_Hash), (30, c_Equal)] --%K
theorem kW0_ok : ∀ p ∈ kW0, ConOK P p.1 p.2 := by
  intro p hp
  simp only [kW0, List.mem_cons, List.not_mem_nil, or_false] at hp
  rcases hp with rfl | rfl | rfl
  · exact Part_ok
  · exact Hash_ok
  · exact Equal_ok
end Go.RX.Span

/- Domain maps: the example of the laws. -/
set_option linter.unusedVariables false
set_option linter.unusedSimpArgs false
set_option maxRecDepth 100000
namespace Go.RX.Span
open Go Go.RX
attribute [local irreducible] sx conB

def exD : Nat → R3 := fun _ => ((0 : Int), (9 : Int), (1 : Int), ())
def ex5 : Nat → R1 := fun _ => oneR 5
def exL : List R1 := [oneR 0, oneR 1, oneR 8, oneR 9]
theorem t_awake5 : (conB P (conOf kW0) noLoops 10 42 []).force [true, true] = .ask (Row64 1 exD) (.ask (U.eq (lk ptE 1 exD 3 2 0 4 0) 0 = true) (.ask (lk ptN 1 exD 3 2 0 4 0 ≤ 9223372036854775807)
    (.ask (lk eqR (lk ptN 1 exD 3 2 0 4 0) (lk ptF 1 exD 3 2 0 4 0) 4 (U.nth exL (oneR 0)) = true) (.ask (1 ≤ 1000000 ∧ I64s 1 ex5) (.ret (.lit (.bool (U.eq (lk hashN ex5 1) 222)))))))) := by kernel_rfl
theorem exPt : ptE 1 exD 3 2 0 4 0 = 0 := by decide +kernel
theorem exPl : partL 1 exD 3 2 0 4 0 = [0, 1, 8, 9] := by decide +kernel
theorem exH : hashN ex5 1 = 222 := by decide +kernel
theorem awake5_ok : ConOK P 42 c_true := con_force (allOK mixed kW0_ok) 10 42 fun args r h => by
  unfold c_true at h
  split at h
  · obtain rfl := T.is_ret h
    have eN : ptN 1 exD 3 2 0 4 0 = 4 := by unfold ptN; rw [if_neg (by have : lcE 1 exD 3 2 0 4 0 = 0 := exPt; simp [this]), exPl]; rfl
    refine ⟨_, T.all_of_eq t_awake5 ?_⟩
    simp only [lk_eq]
    refine ⟨fun i hi => (show I64 0 ∧ I64 9 ∧ I64 1 by unfold I64; omega), U.eq_t.mpr exPt, by rw [eN]; decide, eqR_t.2 ⟨eN, fun i hi => ?_⟩, ⟨by decide, fun i hi => (show I64 5 by unfold I64; omega)⟩, .inl ?_⟩
    · rw [eN] at hi
      show (rowN (partL 1 exD 3 2 0 4 0) i).1 = (U.nth exL (oneR 0) i).1
      rw [exPl, U.nth_eq]
      rcases (show i = 0 ∨ i = 1 ∨ i = 2 ∨ i = 3 by omega) with rfl | rfl | rfl | rfl <;> rfl
    · rw [U.eq_t.mpr exH]
  · exact h.elim
end Go.RX.Span

/- Domain maps: Counts, the least and the greatest of a list: the states. -/
set_option linter.unusedVariables false
set_option linter.unusedSimpArgs false
set_option maxRecDepth 100000
namespace Go.RX.Span
open Go Go.RX
attribute [local irreducible] sx conB

abbrev RL := Els [.sl [.int .i64]]
/-- The greatest and the least of the first so many numbers. -/
def mmN (b : Bool) (e : Nat → R1) : Nat → Int
  | 0 => nv e 0
  | j + 1 => if b = true then max (mmN b e j) (nv e j) else min (mmN b e j) (nv e j)
noncomputable def ctN (n : Nat) (f : Nat → R3) (k s h L : Int) : Nat := if lsE n f k s h L ≠ 0 then 0 else U.toNat L
noncomputable def fewB (n : Nat) (f : Nat → R3) (k s h : Int) (w : Int) : Bool := decide (n ≤ 10 ∧ (szD n f k s h ≤ w ∨ 5000 < szD n f k s h))
noncomputable def c_Few : Con := fun args => match args with
  | [.agg [.row [.int .i64, .int .i64, .int .i64] n f, .lit (.int .i64 k), .lit (.int .i64 s), .lit (.int .i64 h)], .lit (.int .i64 w)] => .ask (Row64 n f) (.ret (.lit (.bool (lk fewB n f k s h w))))
  | _ => .stuck 1
end Go.RX.Span

/- Domain maps: Counts, the least and the greatest of a list: the walks. -/
set_option linter.unusedVariables false
set_option linter.unusedSimpArgs false
set_option maxRecDepth 100000
namespace Go.RX.Span
open Go Go.RX
attribute [local irreducible] sx conB

--%R ↑n = ↑n => ((n : Nat) : Int) = ((n : Nat) : Int)
set_option maxRecDepth 100000 in
theorem t_Few (n : Nat) (f : Nat → R3) (k s h w : Int) : conB Go.Proofs.Try.prog (conOf kQ0) noLoops 10 39 [.agg [.row [.int .i64, .int .i64, .int .i64] n f, .lit (.int .i64 k), .lit (.int .i64 s), .lit (.int .i64 h)], .lit (.int .i64 w)] =
    T.ask (Row64 n f) (.br (U.le (Int.ofNat n) (10 : Int)) (.br (U.le (lk szD n f k s h) w) (.ret (.lit (.bool true))) (.ret (.lit (.bool (U.gt (lk szD n f k s h) (5000 : Int))))))
      (.ret (.lit (.bool false)))) := by kernel_rfl
end Go.RX.Span

/- Domain maps: Counts, the least and the greatest of a list: the contracts. -/
set_option linter.unusedVariables false
set_option linter.unusedSimpArgs false
set_option maxRecDepth 100000
namespace Go.RX.Span
open Go Go.RX
attribute [local irreducible] sx conB

theorem ren1z (ρ : Ren) : ∀ b, b < 0 → ρ.of b = some b := fun b hb => absurd hb (Nat.not_lt_zero b)
theorem isz_s (j : Nat) : U.isz (j + 1) = false := by rw [U.isz_eq]; simp
theorem Few_ok : ConOK P 39 c_Few := con_of (allOK mixed kQ0_ok) 10 39 fun args r h => by
  unfold c_Few at h
  split at h
  · rename_i n f k s h' w
    have d := (T.is_ask h).1
    obtain rfl := T.is_ret (T.is_ask h).2
    refine T.all_of_eq (t_Few n f k s h' w) ?_
    simp only [lk_eq]
    have key : ∀ x, x = fewB n f k s h' w → SV.lit (.bool x) = SV.lit (.bool (fewB n f k s h' w)) := fun x hx => by rw [hx]
    refine ⟨d, fun g => ⟨fun g2 => key _ ?_, fun g2 => key _ ?_⟩, fun g => key _ ?_⟩
    · have a := U.le_t.mp g; have b := U.le_t.mp g2
      simp only [Int.ofNat_eq_natCast] at a
      exact (decide_eq_true ⟨by omega, .inl b⟩).symm
    · have a := U.le_t.mp g; have b := U.le_f.mp g2
      simp only [Int.ofNat_eq_natCast] at a
      unfold fewB
      rw [Bool.eq_iff_iff, U.gt_t, decide_eq_true_eq]
      constructor
      · intro c; exact ⟨by omega, .inr c⟩
      · rintro ⟨_, c | c⟩ <;> omega
    · have a := U.le_f.mp g
      simp only [Int.ofNat_eq_natCast] at a
      exact (decide_eq_false fun c => by omega).symm
  · exact h.elim
end Go.RX.Span

/- Domain maps: Global, Local: plain; BinarySearch: its loop. -/
set_option linter.unusedVariables false
set_option linter.unusedSimpArgs false
set_option maxRecDepth 100000
namespace Go.RX.Span
open Go Go.RX
attribute [local irreducible] sx conB

section
variable (n : Nat) (f : Nat → R3) (k s h L : Int)
end
end Go.RX.Span

/- Domain maps: Global, Local, BinarySearch: the walks. -/
set_option linter.unusedVariables false
set_option linter.unusedSimpArgs false
set_option maxRecDepth 100000
namespace Go.RX.Span
open Go Go.RX
attribute [local irreducible] sx conB

--%R ↑n = ↑n => ((n : Nat) : Int) = ((n : Nat) : Int)
--%R ↑\((lk\s+bsI\s+n\s+e\s+x)\) => ((\1 : Nat) : Int)
end Go.RX.Span

/- Domain maps: Global, Local, BinarySearch: the contracts. -/
set_option linter.unusedVariables false
set_option linter.unusedSimpArgs false
set_option maxRecDepth 100000
namespace Go.RX.Span
open Go Go.RX
attribute [local irreducible] sx conB

end Go.RX.Span

/- Domain maps: Global, Local. -/
set_option linter.unusedVariables false
set_option linter.unusedSimpArgs false
set_option maxRecDepth 100000
namespace Go.RX.Span
open Go Go.RX
attribute [local irreducible] sx conB

section
variable {n : Nat} {f : Nat → R3} {k s h L : Int}
end
end Go.RX.Span

/- Domain maps: how many indices the locales have, in plain Lean. -/
set_option linter.unusedVariables false
set_option linter.unusedSimpArgs false
namespace Go.RX.Span
open Go Go.RX

section
variable {n : Nat} {f : Nat → R3} {k s h L : Int}
end
end Go.RX.Span

/- Domain maps: the law of balance. -/
set_option linter.unusedVariables false
set_option linter.unusedSimpArgs false
set_option maxRecDepth 100000
namespace Go.RX.Span
open Go Go.RX
attribute [local irreducible] sx conB

section
variable (n : Nat) (f : Nat → R3) (k s h L : Int)
noncomputable def hB (t : T SV) : T SV := .ask (Row64 n f) (.ask (U.not (lk fewB n f k s h 300) = false) (.ask (Row64 n f) (.ask (U.ne (lk dmE n f k s h L) 0 = false) (.ask (Row64 n f) (.ask (U.gt (lk szD n f k s h) 300 = false) (.ask (Row64 n f) (.ask (U.ne (lk lsE n f k s h L) 0 = false) (.ask (U.ne (Int.ofNat (lk ctN n f k s h L)) L = false) t))))))))
noncomputable def eB (b : Bool) (t : T SV) : T SV := .ask (U.ne k 0 = b) t
end
section
variable {n : Nat} {f : Nat → R3} {k s h L : Int} {K : SV → Prop} {t : T SV}
theorem szD_nn (hc : chD n f k s h = 0) : ((szDn n f k s h : Nat) : Int) = szD n f k s h := by
  have := (dr_prod (chD_zero.1 hc).1).1
  unfold szDn
  rw [szD_right hc]; omega
theorem ls_of (hd : dmE n f k s h L = 0) (h3 : szD n f k s h ≤ 300) : lsE n f k s h L = 0 := lsE_zero.2 ⟨hd, by omega⟩
end
end Go.RX.Span

/- Domain maps: the law of inverses: plain facts, the loops' states. -/
set_option linter.unusedVariables false
set_option linter.unusedSimpArgs false
set_option maxRecDepth 100000
namespace Go.RX.Span
open Go Go.RX
attribute [local irreducible] sx conB

section
variable {n : Nat} {f : Nat → R3} {k s h L : Int}
end
noncomputable abbrev boxD (n : Nat) (f : Nat → R3) (k s h : Int) : Nat × Option Blk := (0, some (.cells [.row [.int .i64, .int .i64, .int .i64] n f, .lit (.int .i64 k), .lit (.int .i64 s), .lit (.int .i64 h)] 49))
end Go.RX.Span

/- Domain maps: the pieces: contracts of the small ones. -/
set_option linter.unusedVariables false
set_option linter.unusedSimpArgs false
set_option maxRecDepth 100000
namespace Go.RX.Span
open Go Go.RX
attribute [local irreducible] sx conB

end Go.RX.Span

/- Domain maps: the pieces: plain facts. -/
set_option linter.unusedVariables false
set_option linter.unusedSimpArgs false
set_option maxRecDepth 100000
namespace Go.RX.Span
open Go Go.RX
attribute [local irreducible] sx conB

def cutN (len w c : Nat) : Nat := c * len / w
section
variable {F : Nat → RL} {w l : Nat}
end
end Go.RX.Span

/- Domain maps: Pieces: the loops' states. -/
set_option linter.unusedVariables false
set_option linter.unusedSimpArgs false
set_option maxRecDepth 100000
namespace Go.RX.Span
open Go Go.RX
attribute [local irreducible] sx conB

end Go.RX.Span

/- Domain maps: Pieces: the walks. -/
set_option linter.unusedVariables false
set_option linter.unusedSimpArgs false
set_option maxRecDepth 100000
namespace Go.RX.Span
open Go Go.RX
attribute [local irreducible] sx conB

--%R i < ↑FN => i < ((FN : Nat) : Int)
--%R ↑FN = ↑FN => ((FN : Nat) : Int) = ((FN : Nat) : Int)
--%R ≤ ↑pN => ≤ ((pN : Nat) : Int)
end Go.RX.Span

/- Domain maps: Pieces. -/
set_option linter.unusedVariables false
set_option linter.unusedSimpArgs false
set_option maxRecDepth 100000
namespace Go.RX.Span
open Go Go.RX
attribute [local irreducible] sx conB

section
variable {F : Nat → RL} {W I C : Nat}
end
section
variable (n : Nat) (f : Nat → R3) (k s h L w : Int)
end
end Go.RX.Span

/- Domain maps: the reference's checkLocale and part: the lists. -/
set_option linter.unusedVariables false
set_option linter.unusedSimpArgs false
set_option maxRecDepth 100000
namespace Go.RX.Span
open Go Go.RX
attribute [local irreducible] sx conB

end Go.RX.Span

/- Domain maps: the reference's part: the loop's states. -/
set_option linter.unusedVariables false
set_option linter.unusedSimpArgs false
set_option maxRecDepth 100000
namespace Go.RX.Span
open Go Go.RX
attribute [local irreducible] sx conB

end Go.RX.Span

/- Domain maps: the reference's checkLocale and part: the walks. -/
set_option linter.unusedVariables false
set_option linter.unusedSimpArgs false
set_option maxRecDepth 100000
namespace Go.RX.Span
open Go Go.RX
attribute [local irreducible] sx conB

end Go.RX.Span

/- Domain maps: the reference's checkLocale, part and Part. -/
set_option linter.unusedVariables false
set_option linter.unusedSimpArgs false
set_option maxRecDepth 100000
namespace Go.RX.Span
open Go Go.RX
attribute [local irreducible] sx conB

section
variable {n : Nat} {f : Nat → R3} {k s h L : Int}
end
end Go.RX.Span

/- Domain maps: the reference's Local and Global: the states. -/
set_option linter.unusedVariables false
set_option linter.unusedSimpArgs false
set_option maxRecDepth 100000
namespace Go.RX.Span
open Go Go.RX
attribute [local irreducible] sx conB

end Go.RX.Span

/- Domain maps: the reference's Local and Global: the walks. -/
set_option linter.unusedVariables false
set_option linter.unusedSimpArgs false
set_option maxRecDepth 100000
namespace Go.RX.Span
open Go Go.RX
attribute [local irreducible] sx conB

--%R i < ↑n => i < ((n : Nat) : Int)
--%R < ↑\(lk plN n f k s h L l\) => < ((lk plN n f k s h L l : Nat) : Int)
end Go.RX.Span

/- Domain maps: the reference's Local, Global and Part. -/
set_option linter.unusedVariables false
set_option linter.unusedSimpArgs false
set_option maxRecDepth 100000
namespace Go.RX.Span
open Go Go.RX
attribute [local irreducible] sx conB

end Go.RX.Span

/- Domain maps: the reference's Pieces: the lists. -/
set_option linter.unusedVariables false
set_option linter.unusedSimpArgs false
set_option maxRecDepth 100000
namespace Go.RX.Span
open Go Go.RX
attribute [local irreducible] sx conB

end Go.RX.Span

/- Domain maps: the reference's Pieces: the loops' states. -/
set_option linter.unusedVariables false
set_option linter.unusedSimpArgs false
set_option maxRecDepth 100000
namespace Go.RX.Span
open Go Go.RX
attribute [local irreducible] sx conB

end Go.RX.Span

/- Domain maps: the reference's Pieces: the walks. -/
set_option linter.unusedVariables false
set_option linter.unusedSimpArgs false
set_option maxRecDepth 100000
namespace Go.RX.Span
open Go Go.RX
attribute [local irreducible] sx conB

--%R ≤ ↑pN => ≤ ((pN : Nat) : Int)
end Go.RX.Span

/- Domain maps: the reference's Pieces. -/
set_option linter.unusedVariables false
set_option linter.unusedSimpArgs false
set_option maxRecDepth 100000
namespace Go.RX.Span
open Go Go.RX
attribute [local irreducible] sx conB

end Go.RX.Span

/- Domain maps: Pieces of both, whatever is asked for. -/
set_option linter.unusedVariables false
set_option linter.unusedSimpArgs false
set_option maxRecDepth 100000
namespace Go.RX.Span
open Go Go.RX
attribute [local irreducible] sx conB

section
variable (n : Nat) (f : Nat → R3) (k s h L w : Int)
end
section
variable {n : Nat} {f : Nat → R3} {k s h L w : Int}
end
end Go.RX.Span

/- Domain maps: lists of pieces compared: the states. -/
set_option linter.unusedVariables false
set_option linter.unusedSimpArgs false
set_option maxRecDepth 100000
namespace Go.RX.Span
open Go Go.RX
attribute [local irreducible] sx conB

end Go.RX.Span

/- Domain maps: lists of pieces compared: the walks. -/
set_option linter.unusedVariables false
set_option linter.unusedSimpArgs false
set_option maxRecDepth 100000
namespace Go.RX.Span
open Go Go.RX
attribute [local irreducible] sx conB

--%R i < ↑n => i < ((n : Nat) : Int)
--%R i < ↑m => i < ((m : Nat) : Int)
--%R ↑n = ↑n => ((n : Nat) : Int) = ((n : Nat) : Int)
end Go.RX.Span

/- Domain maps: lists of pieces compared. -/
set_option linter.unusedVariables false
set_option linter.unusedSimpArgs false
set_option maxRecDepth 100000
namespace Go.RX.Span
open Go Go.RX
attribute [local irreducible] sx conB

end Go.RX.Span

/- Domain maps: the law of numbers returns true. -/
set_option linter.unusedVariables false
set_option linter.unusedSimpArgs false
set_option maxRecDepth 100000
namespace Go.RX.Span
open Go Go.RX
attribute [local irreducible] sx conB

section
variable (n : Nat) (f : Nat → R3) (k s h L l a w : Int)
end
end Go.RX.Span

/- Domain maps: the rows of a locale: what they call. -/
set_option linter.unusedVariables false
set_option linter.unusedSimpArgs false
set_option maxRecDepth 100000
namespace Go.RX.Span
open Go Go.RX
attribute [local irreducible] sx conB

noncomputable abbrev kBr : List (Nat × Con) := [(28, c_Size), (151, c_Nth)] --%K
noncomputable abbrev EBr : Env := ⟨P, conOf kBr, scall P (conOf kBr) noLoops 10⟩
end Go.RX.Span

/- Domain maps: the rows of a locale: plain facts and states. -/
set_option linter.unusedVariables false
set_option linter.unusedSimpArgs false
set_option maxRecDepth 100000
namespace Go.RX.Span
open Go Go.RX
attribute [local irreducible] sx conB

theorem kBr_ok : ∀ p ∈ kBr, ConOK P p.1 p.2 := by
  intro p hp
  simp only [kBr, List.mem_cons, List.not_mem_nil, or_false] at hp
  rcases hp with rfl | rfl
  · exact kU0_ok (28, c_Size) (by simp [kU0])
  · exact Nth_ok
theorem EBr_ok : EnvOK EBr := envOK (allOK mixed kBr_ok) 10
theorem rr_nth {r : R3} (h : RR r) {k : Int} (h0 : 0 ≤ k) (h1 : k < szR r) : nth (rA r) (rB r) (rC r) k = rA r + rC r * k := by
  obtain ⟨e1, _, _⟩ := rr_size h
  have hab : rA r ≤ rB r := by
    rcases Int.lt_or_le (rB r) (rA r) with w | w
    · rw [e1] at h1; unfold ofC at h1; rw [if_pos w] at h1; omega
    · exact w
  rw [nth_eq' h.1 hab h0 (by rw [← e1]; exact h1), if_neg (by have := h.2; omega)]
  have : absI (rC r) = rC r := by unfold absI; rw [if_neg (by have := h.2; omega)]
  rw [this]
/-- The rows from a to b, every c-th, as a range. -/
def tr3 (a b c : Int) : R3 := (a, b, c, ())
def rgR (r : R3) (a b c : Int) : R3 := if b ≤ a then tr3 1 0 1 else if (b - 1 - a) / c = 0 then tr3 (rA r + rC r * a) (rA r + rC r * a) 1 else tr3 (rA r + rC r * a) (rA r + rC r * (a + (b - 1 - a) / c * c)) (rC r * c)
end Go.RX.Span

/- Domain maps: the rows of a locale: the loop's states. -/
set_option linter.unusedVariables false
set_option linter.unusedSimpArgs false
set_option maxRecDepth 100000
namespace Go.RX.Span
open Go Go.RX
attribute [local irreducible] sx conB

/-- The rows of a locale, blocks of s dealt in turn: how many, and which. -/
def bcN (x L s l : Int) : Nat := if x ≤ l * s then 0 else ((x - 1 - l * s) / (L * s)).toNat + 1
def bcF (r : R3) (x L s l : Int) (j : Nat) : R3 := rgR r (l * s + j * (L * s)) (min (l * s + j * (L * s) + s) x) 1
def PreRw (n0 : Nat) (r : R3) (x s L l i : Int) : Prop := n0 = 0 ∧ RR r ∧ x = szR r ∧ 1 ≤ s ∧ s ≤ 1000 ∧ 0 ≤ l ∧ l < L ∧ L ≤ 8 ∧ i = l * s
noncomputable abbrev slRw (u : Bool) (N : Nat) (i : Int) : List SV := [.ptr 0 0, .ptr 1 0, .ptr 2 0, .ptr 3 0, .fn (.func 189) [] [.ptr 2 0], .own u 4 N, .lit (.int .i64 i)]
noncomputable abbrev memRw (n : Nat) (f : Nat → R3) (k s h L a b c x : Int) (u : Bool) (N : Nat) (G : Nat → R3) : Mem := [boxD n f k s h, (0, some (.cells [.lit (.int .i64 L)] 3)), (0, some (.cells [.lit (.int .i64 a), .lit (.int .i64 b), .lit (.int .i64 c)] 23)), (0, some (.cells [.lit (.int .i64 x)] 3)), (0, some (.row u N [.int .i64, .int .i64, .int .i64] G 23))]
/-- Which locale, out of the loop's start. -/
def loS (i s : Int) : Int := i / s
noncomputable def gRw : Nat → Few → T (Ex × Few)
  | n0, ([.ptr 0 0, .ptr 1 0, .ptr 2 0, .ptr 3 0, .fn (.func 189) [] [.ptr 2 0], .lit (.slice none 0 0), .lit (.int .i64 i)],
      [(_, some (.cells [.row [.int .i64, .int .i64, .int .i64] n f, .lit (.int .i64 k), .lit (.int .i64 s), .lit (.int .i64 h)] t0)), (_, some (.cells [.lit (.int .i64 L)] t1)), (_, some (.cells [.lit (.int .i64 a), .lit (.int .i64 b), .lit (.int .i64 c)] t2)), (_, some (.cells [.lit (.int .i64 x)] t3))]) =>
    .ask (lk PreRw n0 (lk tr3 a b c) x s L (lk loS i s) i ∧ t0 = 49 ∧ t1 = 3 ∧ t2 = 23 ∧ t3 = 3)
      (.ret (.exit 1, ([.any, .any, .any, .any, .any, .own (U.isz (lk bcN x L s (lk loS i s))) 4 (lk bcN x L s (lk loS i s)), .any], [(0, none), (0, none), (0, none), (0, none), (0, some (.row (U.isz (lk bcN x L s (lk loS i s))) (lk bcN x L s (lk loS i s)) [.int .i64, .int .i64, .int .i64] (lk bcF (lk tr3 a b c) x L s (lk loS i s)) 23))])))
  | _, _ => .stuck 1
noncomputable abbrev lRw : List (Nat × Loops) := [(141, [(16, .sum (few 82 [3,4,7,8,9,11,12] gRw))])] --%K
end Go.RX.Span

/- Domain maps: the rows of a locale: the walk of the loop. -/
set_option linter.unusedVariables false
set_option linter.unusedSimpArgs false
set_option maxRecDepth 100000
namespace Go.RX.Span
open Go Go.RX
attribute [local irreducible] sx conB

set_option maxRecDepth 100000 in
theorem t_Rw (n : Nat) (f : Nat → R3) (k s h L a b c x : Int) (u : Bool) (N : Nat) (G : Nat → R3) (i : Int) : (sx EBr [] 0 (loopOf P 141 16) (mkS 82 [3,4,7,8,9,11,12] (slRw u N i), memRw n f k s h L a b c x u N G)).bind (proj 82 [3,4,7,8,9,11,12]) =
    T.br (U.lt i x) (.br (U.ge i (U.mm false (U.add .i64 i s) x)) (.ask ((N + (1 : Nat)) * nat_lit 24 ≤ nat_lit 140737488351232) (.ret (Ex.normal, [SV.ptr (nat_lit 0) (nat_lit 0),
      SV.ptr (nat_lit 1) (nat_lit 0), SV.ptr (nat_lit 2) (nat_lit 0), SV.ptr (nat_lit 3) (nat_lit 0), SV.fn (Fn.func (nat_lit 189)) [] [SV.ptr (nat_lit 2) (nat_lit 0)], SV.own false
      (nat_lit 7) (N.add (nat_lit 1)), .lit (.int .i64 (U.add .i64 i (U.mul .i64 L s)))], [(nat_lit 0, some (Blk.cells [.row [.int .i64, .int .i64, .int .i64] n f, .lit (.int .i64 k),
      .lit (.int .i64 s), .lit (.int .i64 h)] (nat_lit 49))), (nat_lit 0, some (Blk.cells [.lit (.int .i64 L)] (nat_lit 3))), (nat_lit 0, some (Blk.cells [.lit (.int .i64 a), .lit (.int
      .i64 b), .lit (.int .i64 c)] (nat_lit 23))), (nat_lit 0, some (Blk.cells [.lit (.int .i64 x)] (nat_lit 3))), (nat_lit 1, none), (nat_lit 0, some (Blk.cells [SV.ki .i64 1, SV.ki .i64
      0, SV.ki .i64 1] (nat_lit 23))), (nat_lit 0, some (Blk.cells [SV.ki .i64 1, SV.ki .i64 0, SV.ki .i64 1] (nat_lit 23))), (nat_lit 0, some (Blk.row false (N.add (nat_lit 1)) [.int
      .i64, .int .i64, .int .i64] (U.cat N G fun x => ((1 : Int), (0 : Int), (1 : Int), PUnit.unit)) (nat_lit 23)))]))) (.ask (I64 a ∧ I64 b ∧ I64 c) (.ask ((1 : Int) ≠ (0 : Int)) (.ask
      (I64 a ∧ I64 b ∧ I64 c) (.br (U.eq (lk nth a b c i) (lk nth a b c (U.add .i64 i (U.mul .i64 (U.quo .i64 (U.sub .i64 (U.sub .i64 (U.mm false (U.add .i64 i s) x) (1 : Int)) i) (1 :
      Int)) (1 : Int))))) (.ask ((N + (1 : Nat)) * nat_lit 24 ≤ nat_lit 140737488351232) (.ret (Ex.normal, [SV.ptr (nat_lit 0) (nat_lit 0), SV.ptr (nat_lit 1) (nat_lit 0), SV.ptr (nat_lit
      2) (nat_lit 0), SV.ptr (nat_lit 3) (nat_lit 0), SV.fn (Fn.func (nat_lit 189)) [] [SV.ptr (nat_lit 2) (nat_lit 0)], SV.own false (nat_lit 7) (N.add (nat_lit 1)), .lit (.int .i64
      (U.add .i64 i (U.mul .i64 L s)))], [(nat_lit 0, some (Blk.cells [.row [.int .i64, .int .i64, .int .i64] n f, .lit (.int .i64 k), .lit (.int .i64 s), .lit (.int .i64 h)] (nat_lit
      49))), (nat_lit 0, some (Blk.cells [.lit (.int .i64 L)] (nat_lit 3))), (nat_lit 0, some (Blk.cells [.lit (.int .i64 a), .lit (.int .i64 b), .lit (.int .i64 c)] (nat_lit 23))),
      (nat_lit 0, some (Blk.cells [.lit (.int .i64 x)] (nat_lit 3))), (nat_lit 1, none), (nat_lit 0, some (Blk.cells [.lit (.int .i64 (lk nth a b c i)), .lit (.int .i64 (lk nth a b c i)),
      SV.ki .i64 1] (nat_lit 23))), (nat_lit 0, some (Blk.cells [.lit (.int .i64 (lk nth a b c i)), .lit (.int .i64 (lk nth a b c i)), SV.ki .i64 1] (nat_lit 23))), (nat_lit 0, some
      (Blk.row false (N.add (nat_lit 1)) [.int .i64, .int .i64, .int .i64] (U.cat N G fun x => (lk nth a b c i, lk nth a b c i, (1 : Int), PUnit.unit)) (nat_lit 23)))]))) (.ask ((N + (1 :
      Nat)) * nat_lit 24 ≤ nat_lit 140737488351232) (.ret (Ex.normal, [SV.ptr (nat_lit 0) (nat_lit 0), SV.ptr (nat_lit 1) (nat_lit 0), SV.ptr (nat_lit 2) (nat_lit 0), SV.ptr (nat_lit 3)
      (nat_lit 0), SV.fn (Fn.func (nat_lit 189)) [] [SV.ptr (nat_lit 2) (nat_lit 0)], SV.own false (nat_lit 7) (N.add (nat_lit 1)), .lit (.int .i64 (U.add .i64 i (U.mul .i64 L s)))],
      [(nat_lit 0, some (Blk.cells [.row [.int .i64, .int .i64, .int .i64] n f, .lit (.int .i64 k), .lit (.int .i64 s), .lit (.int .i64 h)] (nat_lit 49))), (nat_lit 0, some (Blk.cells
      [.lit (.int .i64 L)] (nat_lit 3))), (nat_lit 0, some (Blk.cells [.lit (.int .i64 a), .lit (.int .i64 b), .lit (.int .i64 c)] (nat_lit 23))), (nat_lit 0, some (Blk.cells [.lit (.int
      .i64 x)] (nat_lit 3))), (nat_lit 1, none), (nat_lit 0, some (Blk.cells [.lit (.int .i64 (lk nth a b c i)), .lit (.int .i64 (lk nth a b c (U.add .i64 i (U.mul .i64 (U.quo .i64 (U.sub
      .i64 (U.sub .i64 (U.mm false (U.add .i64 i s) x) (1 : Int)) i) (1 : Int)) (1 : Int))))), .lit (.int .i64 (U.mul .i64 c (1 : Int)))] (nat_lit 23))), (nat_lit 0, some (Blk.cells [.lit
      (.int .i64 (lk nth a b c i)), .lit (.int .i64 (lk nth a b c (U.add .i64 i (U.mul .i64 (U.quo .i64 (U.sub .i64 (U.sub .i64 (U.mm false (U.add .i64 i s) x) (1 : Int)) i) (1 : Int)) (1
      : Int))))), .lit (.int .i64 (U.mul .i64 c (1 : Int)))] (nat_lit 23))), (nat_lit 0, some (Blk.row false (N.add (nat_lit 1)) [.int .i64, .int .i64, .int .i64] (U.cat N G fun x_1 =>
      (lk nth a b c i, lk nth a b c (U.add .i64 i (U.mul .i64 (U.quo .i64 (U.sub .i64 (U.sub .i64 (U.mm false (U.add .i64 i s) x) (1 : Int)) i) (1 : Int)) (1 : Int))), U.mul .i64 c (1 :
      Int), PUnit.unit)) (nat_lit 23)))])))))))) (.ret (Ex.exit (nat_lit 1), [SV.ptr (nat_lit 0) (nat_lit 0), SV.ptr (nat_lit 1) (nat_lit 0), SV.ptr (nat_lit 2) (nat_lit 0), SV.ptr
      (nat_lit 3) (nat_lit 0), SV.fn (Fn.func (nat_lit 189)) [] [SV.ptr (nat_lit 2) (nat_lit 0)], SV.own u (nat_lit 4) N, .lit (.int .i64 i)], [(nat_lit 0, some (Blk.cells [.row [.int
      .i64, .int .i64, .int .i64] n f, .lit (.int .i64 k), .lit (.int .i64 s), .lit (.int .i64 h)] (nat_lit 49))), (nat_lit 0, some (Blk.cells [.lit (.int .i64 L)] (nat_lit 3))), (nat_lit
      0, some (Blk.cells [.lit (.int .i64 a), .lit (.int .i64 b), .lit (.int .i64 c)] (nat_lit 23))), (nat_lit 0, some (Blk.cells [.lit (.int .i64 x)] (nat_lit 3))), (nat_lit 0, some
      (Blk.row u N [.int .i64, .int .i64, .int .i64] G (nat_lit 23)))])) := by kernel_rfl
end Go.RX.Span

/- Domain maps: the rows of a locale: the round of the loop. -/
set_option linter.unusedVariables false
set_option linter.unusedSimpArgs false
set_option maxRecDepth 100000
namespace Go.RX.Span
open Go Go.RX
attribute [local irreducible] sx conB

section
variable {x L s l : Int}
theorem bc_lt (hs : 1 ≤ s) (hL : 1 ≤ L) {j : Nat} : l * s + j * (L * s) < x ↔ j < bcN x L s l := by
  have hw : 0 < L * s := Int.mul_pos (by omega) (by omega)
  unfold bcN
  by_cases h : x ≤ l * s
  · rw [if_pos h]
    have : 0 ≤ (j : Int) * (L * s) := Int.mul_nonneg (by omega) (by omega)
    constructor
    · intro g; omega
    · intro g; exact absurd g (Nat.not_lt_zero _)
  · rw [if_neg h]
    have e := Int.le_ediv_iff_mul_le (a := (j : Int)) (b := x - 1 - l * s) hw
    have hq : 0 ≤ (x - 1 - l * s) / (L * s) := Int.ediv_nonneg (by omega) (by omega)
    constructor
    · intro g
      have := e.2 (by omega)
      omega
    · intro g
      have := e.1 (by omega)
      omega
end
theorem rgR_one {r : R3} {a b : Int} (h : a < b) : rgR r a b 1 = if b - 1 - a = 0 then tr3 (rA r + rC r * a) (rA r + rC r * a) 1 else tr3 (rA r + rC r * a) (rA r + rC r * (b - 1)) (rC r) := by
  unfold rgR
  rw [if_neg (by omega), Int.ediv_one, Int.mul_one, Int.mul_one]
  by_cases e : b - 1 - a = 0
  · rw [if_pos e, if_pos e]
  · rw [if_neg e, if_neg e, show a + (b - 1 - a) = b - 1 by omega]
structure XRw where
  (n : Nat) (f : Nat → R3) (k s h L a b c x l : Int) (j : Nat)
noncomputable abbrev VRw (q : XRw) : Few := (slRw (U.isz q.j) q.j (q.l * q.s + q.j * (q.L * q.s)), memRw q.n q.f q.k q.s q.h q.L q.a q.b q.c q.x (U.isz q.j) q.j (bcF (tr3 q.a q.b q.c) q.x q.L q.s q.l))
noncomputable def ORw (q : XRw) : Ex × Few := (.exit 1, ([.any, .any, .any, .any, .any, .own (U.isz (bcN q.x q.L q.s q.l)) 4 (bcN q.x q.L q.s q.l), .any], [(0, none), (0, none), (0, none), (0, none), (0, some (.row (U.isz (bcN q.x q.L q.s q.l)) (bcN q.x q.L q.s q.l) [.int .i64, .int .i64, .int .i64] (bcF (tr3 q.a q.b q.c) q.x q.L q.s q.l) 23))]))
def PhiRw (n0 : Nat) (q : XRw) : Prop := n0 = 0 ∧ RR (tr3 q.a q.b q.c) ∧ q.x = szR (tr3 q.a q.b q.c) ∧ 1 ≤ q.s ∧ q.s ≤ 1000 ∧ 0 ≤ q.l ∧ q.l < q.L ∧ q.L ≤ 8 ∧ q.j ≤ bcN q.x q.L q.s q.l
theorem roundRw (n0 : Nat) (q : XRw) (hq : PhiRw n0 q) : ((sx EBr [] n0 (loopOf P 141 16) (mkS 82 [3,4,7,8,9,11,12] (VRw q).1, (VRw q).2)).bind (proj 82 [3,4,7,8,9,11,12])).All fun r => match r.1 with
      | .normal => ∃ q', PhiRw n0 q' ∧ bcN q'.x q'.L q'.s q'.l - q'.j < bcN q.x q.L q.s q.l - q.j ∧ Wk 82 [3,4,7,8,9,11,12] n0 r.2 (VRw q') ∧ ∀ o, o = ORw q' → o = ORw q
      | e => ∃ s, (e, s) = ORw q ∧ Wk 82 [3,4,7,8,9,11,12] n0 r.2 s := by
  obtain ⟨n, f, k, s, h, L, a, b, c, x, l, j⟩ := q
  obtain ⟨h0, hr, hx, s1, s2, l0, l1, l8, hj⟩ := hq
  have hj : j ≤ bcN x L s l := hj
  have s1 : 1 ≤ s := s1
  have s2 : s ≤ 1000 := s2
  have l0 : 0 ≤ l := l0
  have l1 : l < L := l1
  have l8 : L ≤ 8 := l8
  have hr : RR (tr3 a b c) := hr
  have hx : x = szR (tr3 a b c) := hx
  have h0 : n0 = 0 := h0
  subst h0
  have hlt := bc_lt (x := x) (L := L) (l := l) s1 (by omega) (j := j)
  have b1 : 0 ≤ l * s := Int.mul_nonneg l0 (by omega)
  have b2 : 0 ≤ (j : Int) * (L * s) := Int.mul_nonneg (by omega) (Int.mul_nonneg (by omega) (by omega))
  have b3 : L * s ≤ 8 * 1000 := Int.mul_le_mul l8 s2 (by omega) (by omega)
  have b4 : 1 * 1 ≤ L * s := Int.mul_le_mul (by omega) s1 (by omega) (by omega)
  have b5 : (j : Int) * 1 ≤ (j : Int) * (L * s) := Int.mul_le_mul_of_nonneg_left (by omega) (by omega)
  have b6 : l * s ≤ 8 * 1000 := Int.mul_le_mul (by omega) s2 (by omega) (by omega)
  obtain ⟨_, z1, z2⟩ := rr_size hr
  obtain ⟨i1, i2, i3⟩ := rr_64 hr
  refine T.all_of_eq (t_Rw n f k s h L a b c x (U.isz j) j (bcF (tr3 a b c) x L s l) (l * s + j * (L * s))) ?_
  generalize hi : l * s + (j : Int) * (L * s) = i at *
  have hmul : U.mul .i64 L s = L * s := U.mul64 (by unfold I64; omega)
  have rlA : ∀ {vs : List SV}, vs.length = 7 → True := fun _ => trivial
  by_cases g : i < x
  · have hjn := hlt.1 g
    have ea : U.add .i64 i s = i + s := U.add64 (by unfold I64; omega)
    have em : U.mm false (i + s) x = min (i + s) x := mm_min _ _
    have en : U.add .i64 i (L * s) = i + L * s := U.add64 (by unfold I64; omega)
    have hto : i < min (i + s) x := by omega
    have e1 : U.sub .i64 (min (i + s) x) 1 = min (i + s) x - 1 := U.sub64 (by unfold I64; omega)
    have e2 : U.sub .i64 (min (i + s) x - 1) i = min (i + s) x - 1 - i := U.sub64 (by unfold I64; omega)
    have e3 : U.quo .i64 (min (i + s) x - 1 - i) 1 = min (i + s) x - 1 - i := by rw [U.quo64 (by rw [Int.tdiv_one]; unfold I64; omega), Int.tdiv_one]
    have e4 : U.mul .i64 (min (i + s) x - 1 - i) 1 = min (i + s) x - 1 - i := by rw [U.mul64 (by rw [Int.mul_one]; unfold I64; omega), Int.mul_one]
    have e5 : U.add .i64 i (min (i + s) x - 1 - i) = min (i + s) x - 1 := by rw [U.add64 (by unfold I64; omega)]; omega
    have e6 : U.mul .i64 c 1 = c := by rw [U.mul64 (by rw [Int.mul_one]; exact i3), Int.mul_one]
    have n1 : nth a b c i = a + c * i := rr_nth hr (by omega) (by omega)
    have n2 : nth a b c (min (i + s) x - 1) = a + c * (min (i + s) x - 1) := rr_nth hr (by omega) (by omega)
    have er := rgR_one (r := tr3 a b c) hto
    have hc : 0 < c := hr.2
    simp only [ea, em, en, hmul, lk_eq, e1, e2, e3, e4, e5, e6, n1, n2]
    have key : ∀ v : R3, v = rgR (tr3 a b c) i (min (i + s) x) 1 → ∀ t, t < j + 1 → U.cat j (bcF (tr3 a b c) x L s l) (fun _ => v) t = bcF (tr3 a b c) x L s l t := fun v hv t ht => by
      refine (U.cat_eq _ _ _ _).trans ?_
      by_cases h : t < j
      · exact if_pos h
      · obtain rfl : t = j := by omega
        refine (if_neg h).trans ?_
        rw [hv]
        show _ = rgR (tr3 a b c) (l * s + t * (L * s)) (min (l * s + t * (L * s) + s) x) 1
        rw [hi]
    have nx : i + L * s = l * s + ((j + 1 : Nat) : Int) * (L * s) := by
      rw [← hi, Int.natCast_add, Int.add_mul]; omega
    have fin : ∀ (v : R3) (c5 c6 : Nat × Option Blk), v = rgR (tr3 a b c) i (min (i + s) x) 1 → Wk 82 [3,4,7,8,9,11,12] 0 ([.ptr 0 0, .ptr 1 0, .ptr 2 0, .ptr 3 0, .fn (.func 189) [] [.ptr 2 0], .own false 7 (j + 1), .lit (.int .i64 (i + L * s))],
        [(0, some (.cells [.row [.int .i64, .int .i64, .int .i64] n f, .lit (.int .i64 k), .lit (.int .i64 s), .lit (.int .i64 h)] 49)), (0, some (.cells [.lit (.int .i64 L)] 3)), (0, some (.cells [.lit (.int .i64 a), .lit (.int .i64 b), .lit (.int .i64 c)] 23)), (0, some (.cells [.lit (.int .i64 x)] 3)), (1, none), c5, c6, (0, some (.row false (j + 1) [.int .i64, .int .i64, .int .i64] (U.cat j (bcF (tr3 a b c) x L s l) fun _ => v) 23))])
        (VRw ⟨n, f, k, s, h, L, a, b, c, x, l, j + 1⟩) := fun v c5 c6 hv => by
      have iz : false = U.isz (j + 1) := (isz_s j).symm
      refine wk_of [some 0, some 1, some 2, some 3, some 7] rfl (Nat.zero_le _) (ren1z _) ⟨⟨rfl, rfl⟩, ⟨rfl, rfl⟩, ⟨rfl, rfl⟩, ⟨rfl, rfl⟩, ⟨rfl, trivial, ⟨rfl, rfl⟩, trivial⟩, ⟨iz, rfl, rfl⟩, ?_, trivial⟩
        ⟨⟨rfl, ⟨rfl, sameR fun _ _ => rfl⟩, rfl, rfl, rfl, trivial⟩, ⟨rfl, rfl, trivial⟩, ⟨rfl, rfl, rfl, rfl, trivial⟩, ⟨rfl, rfl, trivial⟩, ⟨rfl, iz, rfl, sameR fun t ht => key v hv t ht⟩, trivial⟩
      show Value.int .i64 (i + L * s) = Value.int .i64 (l * s + ((j + 1 : Nat) : Int) * (L * s))
      rw [nx]
    have ask : (j + 1) * 24 ≤ 140737488351232 := by omega
    have stp : PhiRw 0 ⟨n, f, k, s, h, L, a, b, c, x, l, j + 1⟩ := ⟨rfl, hr, hx, s1, s2, l0, l1, l8, hjn⟩
    have ms : bcN x L s l - (j + 1) < bcN x L s l - j := by omega
    refine ⟨fun _ => ⟨fun g => absurd (U.ge_t.mp g) (by omega), fun _ => ⟨⟨i1, i2, i3⟩, by decide, ⟨i1, i2, i3⟩, fun g => ?_, fun g => ?_⟩⟩, fun g => absurd (U.lt_f.mp g) (by omega)⟩
    · have g := U.eq_t.mp g
      have e0 : min (i + s) x - 1 - i = 0 := by
        have : c * i = c * (min (i + s) x - 1) := by omega
        have := Int.eq_of_mul_eq_mul_left (by omega) this
        omega
      rw [if_pos e0] at er
      exact ⟨ask, ⟨n, f, k, s, h, L, a, b, c, x, l, j + 1⟩, stp, ms, fin _ _ _ er.symm, fun o ho => ho⟩
    · have g := U.eq_f.mp g
      have e0 : ¬ min (i + s) x - 1 - i = 0 := fun w => g (by rw [show min (i + s) x - 1 = i by omega])
      rw [if_neg e0] at er
      exact ⟨ask, ⟨n, f, k, s, h, L, a, b, c, x, l, j + 1⟩, stp, ms, fin _ _ _ er.symm, fun o ho => ho⟩
  · have ej : j = bcN x L s l := by
      have : ¬ j < bcN x L s l := fun w => g (hlt.2 w)
      omega
    refine ⟨fun g' => absurd (U.lt_t.mp g') (by omega), fun _ => ⟨_, rfl, ?_⟩⟩
    refine wk_of [none, none, none, none, some 4] rfl (Nat.zero_le _) (ren1z _) ⟨rl_any _, rl_any _, rl_any _, rl_any _, rl_any _, ⟨congrArg U.isz ej, ej, rfl⟩, rl_any _, trivial⟩
      ⟨⟨rfl, congrArg U.isz ej, ej, sameR fun _ _ => rfl⟩, trivial⟩
end Go.RX.Span

/- Domain maps: the rows of a locale: the loop; what rows returns. -/
set_option linter.unusedVariables false
set_option linter.unusedSimpArgs false
set_option maxRecDepth 100000
namespace Go.RX.Span
open Go Go.RX
attribute [local irreducible] sx conB

theorem loS_mul {l s : Int} (hs : 1 ≤ s) : loS (l * s) s = l := Int.mul_ediv_cancel l (by omega)
theorem loopRw : LoopOK P (loopOf P 141 16) (few 82 [3,4,7,8,9,11,12] gRw) :=
  loop_few (E := EBr) mixed EBr_ok loopsOK_none 82 [3,4,7,8,9,11,12] (X := XRw) gRw (fun _ x => VRw x) PhiRw (fun q => bcN q.x q.L q.s q.l - q.j) (fun _ x o => o = ORw x)
    (fun n0 st r hh => by
      unfold gRw at hh
      split at hh
      · rename_i n0 i g0 n f k s h t0 g1 L t1 g2 a b c t2 g3 x t3
        obtain ⟨hp, rfl, rfl, rfl, rfl⟩ := (T.is_ask hh).1
        obtain rfl := T.is_ret (T.is_ask hh).2
        simp only [lk_eq] at hp
        obtain ⟨h0, hr, hx, s1, s2, l0, l1, l8, hi⟩ := hp
        subst h0
        generalize hl : loS i s = l at *
        have zi : U.isz 0 = true := by rw [U.isz_eq]; rfl
        refine ⟨⟨n, f, k, s, h, L, a, b, c, x, l, 0⟩, ⟨rfl, hr, hx, s1, s2, l0, l1, l8, Nat.zero_le _⟩, wk_of [some 0, some 1, some 2, some 3, none] rfl (Nat.zero_le _) (ren1z _) ⟨⟨rfl, rfl⟩, ⟨rfl, rfl⟩, ⟨rfl, rfl⟩, ⟨rfl, rfl⟩, ⟨rfl, trivial, ⟨rfl, rfl⟩, trivial⟩, ⟨rfl, zi, rfl⟩, ?_, trivial⟩
          ⟨⟨rfl, ⟨rfl, sameR fun _ _ => rfl⟩, rfl, rfl, rfl, trivial⟩, ⟨rfl, rfl, trivial⟩, ⟨rfl, rfl, rfl, rfl, trivial⟩, ⟨rfl, rfl, trivial⟩, ⟨zi, rfl⟩, trivial⟩, fun o ho => ?_⟩
        · show Value.int .i64 i = Value.int .i64 (l * s + ((0 : Nat) : Int) * (L * s))
          rw [hi]; simp
        · rw [ho]
          simp only [lk_eq, hl]; rfl
      · exact hh.elim)
    roundRw
theorem lRw_ok : ∀ p ∈ lRw, LoopsOK P p.2 (bodyOf P p.1) := by
  intro p hp
  simp only [lRw, List.mem_singleton] at hp
  subst hp
  refine loopsOK_of (by kernel_rfl) fun k g hk => ?_
  simp only [List.mem_singleton, Prod.mk.injEq, LoopC.sum.injEq] at hk
  obtain ⟨rfl, rfl⟩ := hk
  exact loopRw
/-- Where a locale's rows begin. -/
def loB (x L l : Int) : Int := (l * x + L - 1) / L
def rwN (n : Nat) (f : Nat → R3) (k s h L l : Int) : Nat := if k = 0 then (if l = h then 1 else 0) else if k = 1 ∨ k = 2 then 1 else bcN (szR (f 0)) L s l
def rwF (n : Nat) (f : Nat → R3) (k s h L l : Int) (j : Nat) : R3 := if k = 0 then rgR (f 0) 0 (szR (f 0)) 1 else if k = 1 then rgR (f 0) (loB (szR (f 0)) L l) (loB (szR (f 0)) L (l + 1)) 1 else if k = 2 then rgR (f 0) l (szR (f 0)) L else bcF (f 0) (szR (f 0)) L s l j
def RwAsk (n : Nat) (f : Nat → R3) (k s h L l : Int) : Prop := dmE n f k s h L = 0 ∧ k ≠ 4 ∧ 0 ≤ l ∧ l < L
noncomputable def c_rows : Con := fun args => match args with
  | [.agg [.row [.int .i64, .int .i64, .int .i64] n f, .lit (.int .i64 k), .lit (.int .i64 s), .lit (.int .i64 h)], .lit (.int .i64 L), .lit (.int .i64 l)] => .ask (lk RwAsk n f k s h L l) (.ret (.row [.int .i64, .int .i64, .int .i64] (lk rwN n f k s h L l) (lk rwF n f k s h L l)))
  | _ => .stuck 1
end Go.RX.Span

/- Domain maps: the rows of a locale: the ways. -/
set_option linter.unusedVariables false
set_option linter.unusedSimpArgs false
set_option maxRecDepth 100000
namespace Go.RX.Span
open Go Go.RX
attribute [local irreducible] sx conB

--%R < ↑n => < ((n : Nat) : Int)
set_option maxRecDepth 100000 in
theorem t_rw0a (n : Nat) (f : Nat → R3) (k s h L l : Int) : (conB Go.Proofs.Try.prog (conOf kBr) (loopsOf lRw) 10 141 [.agg [.row [.int .i64, .int .i64, .int .i64] n f, .lit (.int .i64 k), .lit (.int .i64 s), .lit (.int .i64 h)], .lit (.int .i64 L), .lit (.int .i64 l)]).force [true, true] =
    T.ask ((0 : Int) ≤ (0 : Int) ∧ (0 : Int) < ((n : Nat) : Int)) (.ask (I64 (f (U.toNat (0 : Int))).1 ∧ I64 (f (U.toNat (0 : Int))).2.1 ∧ I64 (f (U.toNat (0 : Int))).2.2.1) (.ask (U.eq
      k (0 : Int) = true) (.ask (U.ne l h = true) (.ret (.lit (.slice none (nat_lit 0) (nat_lit 0))))))) := by kernel_rfl
set_option maxRecDepth 100000 in
theorem t_rw0b (n : Nat) (f : Nat → R3) (k s h L l : Int) : (conB Go.Proofs.Try.prog (conOf kBr) (loopsOf lRw) 10 141 [.agg [.row [.int .i64, .int .i64, .int .i64] n f, .lit (.int .i64 k), .lit (.int .i64 s), .lit (.int .i64 h)], .lit (.int .i64 L), .lit (.int .i64 l)]).force [true, false] =
    T.ask ((0 : Int) ≤ (0 : Int) ∧ (0 : Int) < ((n : Nat) : Int)) (.ask (I64 (f (U.toNat (0 : Int))).1 ∧ I64 (f (U.toNat (0 : Int))).2.1 ∧ I64 (f (U.toNat (0 : Int))).2.2.1) (.ask (U.eq
      k (0 : Int) = true) (.ask (U.ne l h = false) (.ret (.row [.int .i64, .int .i64, .int .i64] (nat_lit 1) fun x => ((f (U.toNat (0 : Int))).1, (f (U.toNat (0 : Int))).2.1, (f (U.toNat
      (0 : Int))).2.2.1, PUnit.unit)))))) := by kernel_rfl
set_option maxRecDepth 100000 in
theorem t_rw1a (n : Nat) (f : Nat → R3) (k s h L l : Int) : (conB Go.Proofs.Try.prog (conOf kBr) (loopsOf lRw) 10 141 [.agg [.row [.int .i64, .int .i64, .int .i64] n f, .lit (.int .i64 k), .lit (.int .i64 s), .lit (.int .i64 h)], .lit (.int .i64 L), .lit (.int .i64 l)]).force [false, true, true] =
    T.ask ((0 : Int) ≤ (0 : Int) ∧ (0 : Int) < ((n : Nat) : Int)) (.ask (I64 (f (U.toNat (0 : Int))).1 ∧ I64 (f (U.toNat (0 : Int))).2.1 ∧ I64 (f (U.toNat (0 : Int))).2.2.1) (.ask (U.eq
      k (0 : Int) = false) (.ask (U.eq k (1 : Int) = true) (.ask (L ≠ (0 : Int)) (.ask (L ≠ (0 : Int)) (.ask (U.ge (U.quo .i64 (U.sub .i64 (U.add .i64 (U.mul .i64 l (lk size (f (U.toNat
      (0 : Int))).1 (f (U.toNat (0 : Int))).2.1 (f (U.toNat (0 : Int))).2.2.1)) L) (1 : Int)) L) (U.quo .i64 (U.sub .i64 (U.add .i64 (U.mul .i64 (U.add .i64 l (1 : Int)) (lk size (f
      (U.toNat (0 : Int))).1 (f (U.toNat (0 : Int))).2.1 (f (U.toNat (0 : Int))).2.2.1)) L) (1 : Int)) L) = true) (.ret (.row [.int .i64, .int .i64, .int .i64] (nat_lit 1) fun x => ((1 :
      Int), (0 : Int), (1 : Int), PUnit.unit))))))))) := by kernel_rfl
set_option maxRecDepth 100000 in
theorem t_rw1b (n : Nat) (f : Nat → R3) (k s h L l : Int) : (conB Go.Proofs.Try.prog (conOf kBr) (loopsOf lRw) 10 141 [.agg [.row [.int .i64, .int .i64, .int .i64] n f, .lit (.int .i64 k), .lit (.int .i64 s), .lit (.int .i64 h)], .lit (.int .i64 L), .lit (.int .i64 l)]).force [false, true, false, true] =
    T.ask ((0 : Int) ≤ (0 : Int) ∧ (0 : Int) < ((n : Nat) : Int)) (.ask (I64 (f (U.toNat (0 : Int))).1 ∧ I64 (f (U.toNat (0 : Int))).2.1 ∧ I64 (f (U.toNat (0 : Int))).2.2.1) (.ask (U.eq
      k (0 : Int) = false) (.ask (U.eq k (1 : Int) = true) (.ask (L ≠ (0 : Int)) (.ask (L ≠ (0 : Int)) (.ask (U.ge (U.quo .i64 (U.sub .i64 (U.add .i64 (U.mul .i64 l (lk size (f (U.toNat
      (0 : Int))).1 (f (U.toNat (0 : Int))).2.1 (f (U.toNat (0 : Int))).2.2.1)) L) (1 : Int)) L) (U.quo .i64 (U.sub .i64 (U.add .i64 (U.mul .i64 (U.add .i64 l (1 : Int)) (lk size (f
      (U.toNat (0 : Int))).1 (f (U.toNat (0 : Int))).2.1 (f (U.toNat (0 : Int))).2.2.1)) L) (1 : Int)) L) = false) (.ask (I64 (f (U.toNat (0 : Int))).1 ∧ I64 (f (U.toNat (0 : Int))).2.1 ∧
      I64 (f (U.toNat (0 : Int))).2.2.1) (.ask ((1 : Int) ≠ (0 : Int)) (.ask (I64 (f (U.toNat (0 : Int))).1 ∧ I64 (f (U.toNat (0 : Int))).2.1 ∧ I64 (f (U.toNat (0 : Int))).2.2.1) (.ask
      (U.eq (lk nth (f (U.toNat (0 : Int))).1 (f (U.toNat (0 : Int))).2.1 (f (U.toNat (0 : Int))).2.2.1 (U.quo .i64 (U.sub .i64 (U.add .i64 (U.mul .i64 l (lk size (f (U.toNat (0 :
      Int))).1 (f (U.toNat (0 : Int))).2.1 (f (U.toNat (0 : Int))).2.2.1)) L) (1 : Int)) L)) (lk nth (f (U.toNat (0 : Int))).1 (f (U.toNat (0 : Int))).2.1 (f (U.toNat (0 : Int))).2.2.1
      (U.add .i64 (U.quo .i64 (U.sub .i64 (U.add .i64 (U.mul .i64 l (lk size (f (U.toNat (0 : Int))).1 (f (U.toNat (0 : Int))).2.1 (f (U.toNat (0 : Int))).2.2.1)) L) (1 : Int)) L) (U.mul
      .i64 (U.quo .i64 (U.sub .i64 (U.sub .i64 (U.quo .i64 (U.sub .i64 (U.add .i64 (U.mul .i64 (U.add .i64 l (1 : Int)) (lk size (f (U.toNat (0 : Int))).1 (f (U.toNat (0 : Int))).2.1 (f
      (U.toNat (0 : Int))).2.2.1)) L) (1 : Int)) L) (1 : Int)) (U.quo .i64 (U.sub .i64 (U.add .i64 (U.mul .i64 l (lk size (f (U.toNat (0 : Int))).1 (f (U.toNat (0 : Int))).2.1 (f (U.toNat
      (0 : Int))).2.2.1)) L) (1 : Int)) L)) (1 : Int)) (1 : Int)))) = true) (.ret (.row [.int .i64, .int .i64, .int .i64] (nat_lit 1) fun x => (lk nth (f (U.toNat (0 : Int))).1 (f
      (U.toNat (0 : Int))).2.1 (f (U.toNat (0 : Int))).2.2.1 (U.quo .i64 (U.sub .i64 (U.add .i64 (U.mul .i64 l (lk size (f (U.toNat (0 : Int))).1 (f (U.toNat (0 : Int))).2.1 (f (U.toNat
      (0 : Int))).2.2.1)) L) (1 : Int)) L), lk nth (f (U.toNat (0 : Int))).1 (f (U.toNat (0 : Int))).2.1 (f (U.toNat (0 : Int))).2.2.1 (U.quo .i64 (U.sub .i64 (U.add .i64 (U.mul .i64 l
      (lk size (f (U.toNat (0 : Int))).1 (f (U.toNat (0 : Int))).2.1 (f (U.toNat (0 : Int))).2.2.1)) L) (1 : Int)) L), (1 : Int), PUnit.unit))))))))))))) := by kernel_rfl
set_option maxRecDepth 100000 in
theorem t_rw1c (n : Nat) (f : Nat → R3) (k s h L l : Int) : (conB Go.Proofs.Try.prog (conOf kBr) (loopsOf lRw) 10 141 [.agg [.row [.int .i64, .int .i64, .int .i64] n f, .lit (.int .i64 k), .lit (.int .i64 s), .lit (.int .i64 h)], .lit (.int .i64 L), .lit (.int .i64 l)]).force [false, true, false, false] =
    T.ask ((0 : Int) ≤ (0 : Int) ∧ (0 : Int) < ((n : Nat) : Int)) (.ask (I64 (f (U.toNat (0 : Int))).1 ∧ I64 (f (U.toNat (0 : Int))).2.1 ∧ I64 (f (U.toNat (0 : Int))).2.2.1) (.ask (U.eq
      k (0 : Int) = false) (.ask (U.eq k (1 : Int) = true) (.ask (L ≠ (0 : Int)) (.ask (L ≠ (0 : Int)) (.ask (U.ge (U.quo .i64 (U.sub .i64 (U.add .i64 (U.mul .i64 l (lk size (f (U.toNat
      (0 : Int))).1 (f (U.toNat (0 : Int))).2.1 (f (U.toNat (0 : Int))).2.2.1)) L) (1 : Int)) L) (U.quo .i64 (U.sub .i64 (U.add .i64 (U.mul .i64 (U.add .i64 l (1 : Int)) (lk size (f
      (U.toNat (0 : Int))).1 (f (U.toNat (0 : Int))).2.1 (f (U.toNat (0 : Int))).2.2.1)) L) (1 : Int)) L) = false) (.ask (I64 (f (U.toNat (0 : Int))).1 ∧ I64 (f (U.toNat (0 : Int))).2.1 ∧
      I64 (f (U.toNat (0 : Int))).2.2.1) (.ask ((1 : Int) ≠ (0 : Int)) (.ask (I64 (f (U.toNat (0 : Int))).1 ∧ I64 (f (U.toNat (0 : Int))).2.1 ∧ I64 (f (U.toNat (0 : Int))).2.2.1) (.ask
      (U.eq (lk nth (f (U.toNat (0 : Int))).1 (f (U.toNat (0 : Int))).2.1 (f (U.toNat (0 : Int))).2.2.1 (U.quo .i64 (U.sub .i64 (U.add .i64 (U.mul .i64 l (lk size (f (U.toNat (0 :
      Int))).1 (f (U.toNat (0 : Int))).2.1 (f (U.toNat (0 : Int))).2.2.1)) L) (1 : Int)) L)) (lk nth (f (U.toNat (0 : Int))).1 (f (U.toNat (0 : Int))).2.1 (f (U.toNat (0 : Int))).2.2.1
      (U.add .i64 (U.quo .i64 (U.sub .i64 (U.add .i64 (U.mul .i64 l (lk size (f (U.toNat (0 : Int))).1 (f (U.toNat (0 : Int))).2.1 (f (U.toNat (0 : Int))).2.2.1)) L) (1 : Int)) L) (U.mul
      .i64 (U.quo .i64 (U.sub .i64 (U.sub .i64 (U.quo .i64 (U.sub .i64 (U.add .i64 (U.mul .i64 (U.add .i64 l (1 : Int)) (lk size (f (U.toNat (0 : Int))).1 (f (U.toNat (0 : Int))).2.1 (f
      (U.toNat (0 : Int))).2.2.1)) L) (1 : Int)) L) (1 : Int)) (U.quo .i64 (U.sub .i64 (U.add .i64 (U.mul .i64 l (lk size (f (U.toNat (0 : Int))).1 (f (U.toNat (0 : Int))).2.1 (f (U.toNat
      (0 : Int))).2.2.1)) L) (1 : Int)) L)) (1 : Int)) (1 : Int)))) = false) (.ret (.row [.int .i64, .int .i64, .int .i64] (nat_lit 1) fun x => (lk nth (f (U.toNat (0 : Int))).1 (f
      (U.toNat (0 : Int))).2.1 (f (U.toNat (0 : Int))).2.2.1 (U.quo .i64 (U.sub .i64 (U.add .i64 (U.mul .i64 l (lk size (f (U.toNat (0 : Int))).1 (f (U.toNat (0 : Int))).2.1 (f (U.toNat
      (0 : Int))).2.2.1)) L) (1 : Int)) L), lk nth (f (U.toNat (0 : Int))).1 (f (U.toNat (0 : Int))).2.1 (f (U.toNat (0 : Int))).2.2.1 (U.add .i64 (U.quo .i64 (U.sub .i64 (U.add .i64
      (U.mul .i64 l (lk size (f (U.toNat (0 : Int))).1 (f (U.toNat (0 : Int))).2.1 (f (U.toNat (0 : Int))).2.2.1)) L) (1 : Int)) L) (U.mul .i64 (U.quo .i64 (U.sub .i64 (U.sub .i64 (U.quo
      .i64 (U.sub .i64 (U.add .i64 (U.mul .i64 (U.add .i64 l (1 : Int)) (lk size (f (U.toNat (0 : Int))).1 (f (U.toNat (0 : Int))).2.1 (f (U.toNat (0 : Int))).2.2.1)) L) (1 : Int)) L) (1
      : Int)) (U.quo .i64 (U.sub .i64 (U.add .i64 (U.mul .i64 l (lk size (f (U.toNat (0 : Int))).1 (f (U.toNat (0 : Int))).2.1 (f (U.toNat (0 : Int))).2.2.1)) L) (1 : Int)) L)) (1 : Int))
      (1 : Int))), U.mul .i64 (f (U.toNat (0 : Int))).2.2.1 (1 : Int), PUnit.unit))))))))))))) := by kernel_rfl
set_option maxRecDepth 100000 in
theorem t_rw2a (n : Nat) (f : Nat → R3) (k s h L l : Int) : (conB Go.Proofs.Try.prog (conOf kBr) (loopsOf lRw) 10 141 [.agg [.row [.int .i64, .int .i64, .int .i64] n f, .lit (.int .i64 k), .lit (.int .i64 s), .lit (.int .i64 h)], .lit (.int .i64 L), .lit (.int .i64 l)]).force [false, false, true, true] =
    T.ask ((0 : Int) ≤ (0 : Int) ∧ (0 : Int) < ((n : Nat) : Int)) (.ask (I64 (f (U.toNat (0 : Int))).1 ∧ I64 (f (U.toNat (0 : Int))).2.1 ∧ I64 (f (U.toNat (0 : Int))).2.2.1) (.ask (U.eq
      k (0 : Int) = false) (.ask (U.eq k (1 : Int) = false) (.ask (U.eq k (2 : Int) = true) (.ask (U.ge l (lk size (f (U.toNat (0 : Int))).1 (f (U.toNat (0 : Int))).2.1 (f (U.toNat (0 :
      Int))).2.2.1) = true) (.ret (.row [.int .i64, .int .i64, .int .i64] (nat_lit 1) fun x => ((1 : Int), (0 : Int), (1 : Int), PUnit.unit)))))))) := by kernel_rfl
set_option maxRecDepth 100000 in
theorem t_rw2b (n : Nat) (f : Nat → R3) (k s h L l : Int) : (conB Go.Proofs.Try.prog (conOf kBr) (loopsOf lRw) 10 141 [.agg [.row [.int .i64, .int .i64, .int .i64] n f, .lit (.int .i64 k), .lit (.int .i64 s), .lit (.int .i64 h)], .lit (.int .i64 L), .lit (.int .i64 l)]).force [false, false, true, false, true] =
    T.ask ((0 : Int) ≤ (0 : Int) ∧ (0 : Int) < ((n : Nat) : Int)) (.ask (I64 (f (U.toNat (0 : Int))).1 ∧ I64 (f (U.toNat (0 : Int))).2.1 ∧ I64 (f (U.toNat (0 : Int))).2.2.1) (.ask (U.eq
      k (0 : Int) = false) (.ask (U.eq k (1 : Int) = false) (.ask (U.eq k (2 : Int) = true) (.ask (U.ge l (lk size (f (U.toNat (0 : Int))).1 (f (U.toNat (0 : Int))).2.1 (f (U.toNat (0 :
      Int))).2.2.1) = false) (.ask (I64 (f (U.toNat (0 : Int))).1 ∧ I64 (f (U.toNat (0 : Int))).2.1 ∧ I64 (f (U.toNat (0 : Int))).2.2.1) (.ask (L ≠ (0 : Int)) (.ask (I64 (f (U.toNat (0 :
      Int))).1 ∧ I64 (f (U.toNat (0 : Int))).2.1 ∧ I64 (f (U.toNat (0 : Int))).2.2.1) (.ask (U.eq (lk nth (f (U.toNat (0 : Int))).1 (f (U.toNat (0 : Int))).2.1 (f (U.toNat (0 :
      Int))).2.2.1 l) (lk nth (f (U.toNat (0 : Int))).1 (f (U.toNat (0 : Int))).2.1 (f (U.toNat (0 : Int))).2.2.1 (U.add .i64 l (U.mul .i64 (U.quo .i64 (U.sub .i64 (U.sub .i64 (lk size (f
      (U.toNat (0 : Int))).1 (f (U.toNat (0 : Int))).2.1 (f (U.toNat (0 : Int))).2.2.1) (1 : Int)) l) L) L))) = true) (.ret (.row [.int .i64, .int .i64, .int .i64] (nat_lit 1) fun x =>
      (lk nth (f (U.toNat (0 : Int))).1 (f (U.toNat (0 : Int))).2.1 (f (U.toNat (0 : Int))).2.2.1 l, lk nth (f (U.toNat (0 : Int))).1 (f (U.toNat (0 : Int))).2.1 (f (U.toNat (0 :
      Int))).2.2.1 l, (1 : Int), PUnit.unit)))))))))))) := by kernel_rfl
set_option maxRecDepth 100000 in
theorem t_rw2c (n : Nat) (f : Nat → R3) (k s h L l : Int) : (conB Go.Proofs.Try.prog (conOf kBr) (loopsOf lRw) 10 141 [.agg [.row [.int .i64, .int .i64, .int .i64] n f, .lit (.int .i64 k), .lit (.int .i64 s), .lit (.int .i64 h)], .lit (.int .i64 L), .lit (.int .i64 l)]).force [false, false, true, false, false] =
    T.ask ((0 : Int) ≤ (0 : Int) ∧ (0 : Int) < ((n : Nat) : Int)) (.ask (I64 (f (U.toNat (0 : Int))).1 ∧ I64 (f (U.toNat (0 : Int))).2.1 ∧ I64 (f (U.toNat (0 : Int))).2.2.1) (.ask (U.eq
      k (0 : Int) = false) (.ask (U.eq k (1 : Int) = false) (.ask (U.eq k (2 : Int) = true) (.ask (U.ge l (lk size (f (U.toNat (0 : Int))).1 (f (U.toNat (0 : Int))).2.1 (f (U.toNat (0 :
      Int))).2.2.1) = false) (.ask (I64 (f (U.toNat (0 : Int))).1 ∧ I64 (f (U.toNat (0 : Int))).2.1 ∧ I64 (f (U.toNat (0 : Int))).2.2.1) (.ask (L ≠ (0 : Int)) (.ask (I64 (f (U.toNat (0 :
      Int))).1 ∧ I64 (f (U.toNat (0 : Int))).2.1 ∧ I64 (f (U.toNat (0 : Int))).2.2.1) (.ask (U.eq (lk nth (f (U.toNat (0 : Int))).1 (f (U.toNat (0 : Int))).2.1 (f (U.toNat (0 :
      Int))).2.2.1 l) (lk nth (f (U.toNat (0 : Int))).1 (f (U.toNat (0 : Int))).2.1 (f (U.toNat (0 : Int))).2.2.1 (U.add .i64 l (U.mul .i64 (U.quo .i64 (U.sub .i64 (U.sub .i64 (lk size (f
      (U.toNat (0 : Int))).1 (f (U.toNat (0 : Int))).2.1 (f (U.toNat (0 : Int))).2.2.1) (1 : Int)) l) L) L))) = false) (.ret (.row [.int .i64, .int .i64, .int .i64] (nat_lit 1) fun x =>
      (lk nth (f (U.toNat (0 : Int))).1 (f (U.toNat (0 : Int))).2.1 (f (U.toNat (0 : Int))).2.2.1 l, lk nth (f (U.toNat (0 : Int))).1 (f (U.toNat (0 : Int))).2.1 (f (U.toNat (0 :
      Int))).2.2.1 (U.add .i64 l (U.mul .i64 (U.quo .i64 (U.sub .i64 (U.sub .i64 (lk size (f (U.toNat (0 : Int))).1 (f (U.toNat (0 : Int))).2.1 (f (U.toNat (0 : Int))).2.2.1) (1 : Int))
      l) L) L)), U.mul .i64 (f (U.toNat (0 : Int))).2.2.1 L, PUnit.unit)))))))))))) := by kernel_rfl
set_option maxRecDepth 100000 in
theorem t_rw3 (n : Nat) (f : Nat → R3) (k s h L l : Int) : (conB Go.Proofs.Try.prog (conOf kBr) (loopsOf lRw) 10 141 [.agg [.row [.int .i64, .int .i64, .int .i64] n f, .lit (.int .i64 k), .lit (.int .i64 s), .lit (.int .i64 h)], .lit (.int .i64 L), .lit (.int .i64 l)]).force [false, false, false] =
    T.ask ((0 : Int) ≤ (0 : Int) ∧ (0 : Int) < ((n : Nat) : Int)) (.ask (I64 (f (U.toNat (0 : Int))).1 ∧ I64 (f (U.toNat (0 : Int))).2.1 ∧ I64 (f (U.toNat (0 : Int))).2.2.1) (.ask (U.eq
      k (0 : Int) = false) (.ask (U.eq k (1 : Int) = false) (.ask (U.eq k (2 : Int) = false) (.ask (lk PreRw (nat_lit 0) (lk tr3 (f (U.toNat (0 : Int))).1 (f (U.toNat (0 : Int))).2.1 (f
      (U.toNat (0 : Int))).2.2.1) (lk size (f (U.toNat (0 : Int))).1 (f (U.toNat (0 : Int))).2.1 (f (U.toNat (0 : Int))).2.2.1) s L (lk loS (U.mul .i64 l s) s) (U.mul .i64 l s) ∧ (49 :
      Nat) = (49 : TypeId) ∧ (3 : Nat) = (3 : TypeId) ∧ (23 : Nat) = (23 : TypeId) ∧ (3 : Nat) = (3 : TypeId)) (.ret (.row [.int .i64, .int .i64, .int .i64] (lk bcN (lk size (f (U.toNat
      (0 : Int))).1 (f (U.toNat (0 : Int))).2.1 (f (U.toNat (0 : Int))).2.2.1) L s (lk loS (U.mul .i64 l s) s)) (lk bcF (lk tr3 (f (U.toNat (0 : Int))).1 (f (U.toNat (0 : Int))).2.1 (f
      (U.toNat (0 : Int))).2.2.1) (lk size (f (U.toNat (0 : Int))).1 (f (U.toNat (0 : Int))).2.1 (f (U.toNat (0 : Int))).2.2.1) L s (lk loS (U.mul .i64 l s) s))))))))) := by kernel_rfl
end Go.RX.Span

/- Domain maps: the rows of a locale. -/
set_option linter.unusedVariables false
set_option linter.unusedSimpArgs false
set_option maxRecDepth 100000
namespace Go.RX.Span
open Go Go.RX
attribute [local irreducible] sx conB

theorem loB_bnd {x L l : Int} (hx : 0 ≤ x) (l0 : 0 ≤ l) (hl : l ≤ L) (h1 : 1 ≤ L) : 0 ≤ loB x L l ∧ loB x L l ≤ x := by
  unfold loB
  have h := Int.mul_nonneg l0 hx
  have h2 : l * x ≤ L * x := Int.mul_le_mul_of_nonneg_right hl hx
  constructor
  · exact Int.ediv_nonneg (by omega) (by omega)
  · have : (l * x + L - 1) / L < x + 1 := (Int.ediv_lt_iff_lt_mul (by omega)).2 (by
      rw [Int.add_mul, Int.mul_comm x L]; omega)
    omega
theorem loB_u {x L l : Int} (hx : 0 ≤ x) (hx2 : x ≤ 2000001) (l0 : 0 ≤ l) (l8 : l ≤ 8) (h1 : 1 ≤ L) (h8 : L ≤ 8) : U.quo .i64 (U.sub .i64 (U.add .i64 (U.mul .i64 l x) L) 1) L = loB x L l := by
  have h := Int.mul_nonneg l0 hx
  have h2 : l * x ≤ 8 * 2000001 := Int.mul_le_mul l8 hx2 hx (by omega)
  rw [U.mul64 (by unfold I64; omega), U.add64 (by unfold I64; omega), U.sub64 (by unfold I64; omega), quo_pos (by omega) (by omega) (by omega), Int.tdiv_eq_ediv_of_nonneg (by omega)]
  rfl
/-- The last row of a step, as the code says it. -/
noncomputable def zT (a b c : Int) : Int := U.add .i64 a (U.mul .i64 (U.quo .i64 (U.sub .i64 (U.sub .i64 b 1) a) c) c)
theorem zT_eq {a b c : Int} (h0 : 0 ≤ a) (hab : a < b) (hb : b ≤ 2000001) (hc : 1 ≤ c) : zT a b c = a + (b - 1 - a) / c * c ∧ a ≤ zT a b c ∧ zT a b c ≤ b - 1 ∧ (zT a b c = a ↔ (b - 1 - a) / c = 0) := by
  have q0 : 0 ≤ (b - 1 - a) / c := Int.ediv_nonneg (by omega) (by omega)
  have q1 : (b - 1 - a) / c * c ≤ b - 1 - a := Int.ediv_mul_le _ (by omega)
  have q2 : 0 ≤ (b - 1 - a) / c * c := Int.mul_nonneg q0 (by omega)
  have e : zT a b c = a + (b - 1 - a) / c * c := by
    unfold zT
    have e1 : U.sub .i64 b 1 = b - 1 := U.sub64 (by unfold I64; omega)
    have e2 : U.sub .i64 (b - 1) a = b - 1 - a := U.sub64 (by unfold I64; omega)
    have e3 : U.quo .i64 (b - 1 - a) c = (b - 1 - a) / c := by rw [quo_pos (by omega) (by omega) (by omega), Int.tdiv_eq_ediv_of_nonneg (by omega)]
    rw [e1, e2, e3, U.mul64 (by unfold I64; omega), U.add64 (by unfold I64; omega)]
  refine ⟨e, by omega, by omega, ?_⟩
  constructor
  · intro h
    have : (b - 1 - a) / c * c = 0 := by omega
    rcases Int.mul_eq_zero.1 this with w | w
    · exact w
    · omega
  · intro h; rw [e, h]; omega
section
variable {r : R3} {a b c : Int} (hr : RR r) (h0 : 0 ≤ a) (hb : b ≤ szR r) (hc : 1 ≤ c)
include hr h0 hb hc
omit hr h0 hb hc in
theorem rg_A (h : b ≤ a) : rgR r a b c = tr3 1 0 1 := by unfold rgR; rw [if_pos h]
theorem rg_B (h : a < b) (g : nth (rA r) (rB r) (rC r) a = nth (rA r) (rB r) (rC r) (zT a b c)) : rgR r a b c = tr3 (nth (rA r) (rB r) (rC r) a) (nth (rA r) (rB r) (rC r) a) 1 := by
  obtain ⟨_, z1, z2⟩ := rr_size hr
  obtain ⟨e1, e2, e3, e4⟩ := zT_eq h0 h (by omega) hc
  rw [rr_nth hr h0 (by omega), rr_nth hr (by omega) (by omega)] at g
  have hC := hr.2
  have : rC r * a = rC r * zT a b c := by omega
  have := Int.eq_of_mul_eq_mul_left (by omega) this
  rw [rr_nth hr h0 (by omega)]
  unfold rgR; rw [if_neg (by omega), if_pos (e4.1 this.symm)]
theorem rg_C (h : a < b) (g : ¬ nth (rA r) (rB r) (rC r) a = nth (rA r) (rB r) (rC r) (zT a b c)) : rgR r a b c = tr3 (nth (rA r) (rB r) (rC r) a) (nth (rA r) (rB r) (rC r) (zT a b c)) (rC r * c) := by
  obtain ⟨_, z1, z2⟩ := rr_size hr
  obtain ⟨e1, e2, e3, e4⟩ := zT_eq h0 h (by omega) hc
  rw [rr_nth hr h0 (by omega), rr_nth hr (by omega) (by omega)] at g
  rw [rr_nth hr h0 (by omega), rr_nth hr (by omega) (by omega)]
  unfold rgR; rw [if_neg (by omega), if_neg (fun w => g (by rw [e4.2 w])), ← e1]
end
theorem rg_all {r : R3} (hr : RR r) : rgR r 0 (szR r) 1 = r := by
  obtain ⟨e1, z1, z2⟩ := rr_size hr
  have hc := hr.2
  have key : ∀ a b c : Int, a = rA r → b = rB r → c = rC r → tr3 a b c = r := fun a b c h1 h2 h3 => by rw [h1, h2, h3]; rfl
  rcases hr.1.2 with ⟨h1, h2, h3⟩ | ⟨h1, h2⟩ | ⟨h1, h2, h3⟩
  · have hz : szR r = 0 := by rw [e1]; unfold ofC; rw [if_pos (by omega)]
    unfold rgR; rw [if_pos (by omega)]
    exact key _ _ _ h1.symm h2.symm h3.symm
  · have hz : szR r = 1 := by
      rw [e1]; unfold ofC; rw [if_neg (by omega), if_neg (by omega), h2, Int.ediv_one]; omega
    rw [rgR_one (by omega), if_pos (by omega)]
    refine key _ _ _ ?_ ?_ h2.symm
    · rw [Int.mul_zero, Int.add_zero]
    · rw [Int.mul_zero, Int.add_zero]; exact h1
  · have hz : szR r = (rB r - rA r) / rC r + 1 := by
      rw [e1]; unfold ofC; rw [if_neg (by omega), if_neg (by omega)]
    have hm : rC r * ((rB r - rA r) / rC r) = rB r - rA r := Int.mul_ediv_cancel_of_emod_eq_zero h3
    have hp : (rB r - rA r) / rC r ≠ 0 := fun w => by rw [w, Int.mul_zero] at hm; omega
    have hn := Int.ediv_nonneg (show 0 ≤ rB r - rA r by omega) (show 0 ≤ rC r by omega)
    rw [rgR_one (by omega), if_neg (by omega)]
    refine key _ _ _ ?_ ?_ rfl
    · rw [Int.mul_zero, Int.add_zero]
    · rw [hz, Int.add_sub_cancel, hm]; omega
theorem row3 {n : Nat} {f g : Nat → R3} (h : ∀ i, i < n → f i = g i) : Cl (.row [.int .i64, .int .i64, .int .i64] n f) (.row [.int .i64, .int .i64, .int .i64] n g) := ⟨rfl, eqShs_refl _, fun i hi => h i hi⟩
theorem rows_ok : ConOK P 141 c_rows := con_force (allOKL mixed kBr_ok lRw_ok) 10 141 fun args r hh => by
  unfold c_rows at hh
  split at hh
  · rename_i n f k s h L l
    have hp := (T.is_ask hh).1
    obtain rfl := T.is_ret (T.is_ask hh).2
    rw [lk_eq] at hp
    obtain ⟨hd, k4, l0, l1⟩ := hp
    obtain ⟨L1, L8, hc, hl⟩ := dmE_zero.1 hd
    obtain ⟨d1, fit⟩ := chD_zero.1 hc
    have hn := d1.1
    have r0 : RR (f 0) := d1.2 0 (by omega)
    have i0 := rr_64 r0
    obtain ⟨_, x0, x1⟩ := rr_size r0
    have ask0 : (0 : Int) ≤ 0 ∧ (0 : Int) < (n : Int) := ⟨by omega, by omega⟩
    have es : size (f 0).1 (f 0).2.1 (f 0).2.2.1 = szR (f 0) := rfl
    rcases fit_k fit with hk | hk | hk | ⟨hk, s1, s2⟩ | hk
    · have eN : rwN n f k s h L l = if l = h then 1 else 0 := by unfold rwN; rw [if_pos hk]
      have eF : rwF n f k s h L l = fun _ => f 0 := by funext j; unfold rwF; rw [if_pos hk, rg_all r0]
      by_cases hlh : l = h
      · rw [if_pos hlh] at eN
        exact ⟨_, by
          rw [t_rw0b]; simp only [lk_eq, tnO0, eN, eF]
          exact ⟨ask0, i0, U.eq_t.mpr hk, U.ne_f.mpr hlh, row3 fun _ _ => rfl⟩⟩
      · rw [if_neg hlh] at eN
        exact ⟨_, by
          rw [t_rw0a]; simp only [lk_eq, tnO0, eN, eF]
          exact ⟨ask0, i0, U.eq_t.mpr hk, U.ne_t.mpr hlh, cl_nil⟩⟩
    · have eN : rwN n f k s h L l = 1 := by unfold rwN; rw [if_neg (by omega), if_pos (.inl hk)]
      have eF : rwF n f k s h L l = fun _ => rgR (f 0) (loB (szR (f 0)) L l) (loB (szR (f 0)) L (l + 1)) 1 := by funext j; unfold rwF; rw [if_neg (by omega), if_pos hk]
      have ul := loB_u (L := L) x0 x1 l0 (by omega) L1 L8
      have ea : U.add .i64 l 1 = l + 1 := U.add64 (by unfold I64; omega)
      have um := loB_u (L := L) (l := l + 1) x0 x1 (by omega) (by omega) L1 L8
      obtain ⟨b1, b2⟩ := loB_bnd (L := L) x0 l0 (by omega) L1
      obtain ⟨b3, b4⟩ := loB_bnd (L := L) (l := l + 1) x0 (by omega) (by omega) L1
      have eC : U.mul .i64 (f 0).2.2.1 1 = rC (f 0) * 1 := U.mul64 (by
        show I64 (rC (f 0) * 1)
        rw [Int.mul_one]; exact i0.2.2)
      by_cases h1 : loB (szR (f 0)) L (l + 1) ≤ loB (szR (f 0)) L l
      · have eR := rg_A (r := f 0) (c := 1) h1
        exact ⟨_, by
          rw [t_rw1a]; simp only [lk_eq, tnO0, eN, eF, es, ea, ul, um, eR]
          exact ⟨ask0, i0, U.eq_f.mpr (by omega), U.eq_t.mpr hk, by omega, by omega, U.ge_t.mpr h1, row3 fun _ _ => rfl⟩⟩
      · have hz := zT_eq b1 (show loB (szR (f 0)) L l < loB (szR (f 0)) L (l + 1) by omega) (by omega) (Int.le_refl 1)
        by_cases h2 : nth (rA (f 0)) (rB (f 0)) (rC (f 0)) (loB (szR (f 0)) L l) = nth (rA (f 0)) (rB (f 0)) (rC (f 0)) (zT (loB (szR (f 0)) L l) (loB (szR (f 0)) L (l + 1)) 1)
        · have eR := rg_B r0 b1 b4 (Int.le_refl 1) (by omega) h2
          exact ⟨_, by
            rw [t_rw1b]; simp only [lk_eq, tnO0, eN, eF, es, ea, ul, um, eR]
            exact ⟨ask0, i0, U.eq_f.mpr (by omega), U.eq_t.mpr hk, by omega, by omega, U.ge_f.mpr (by omega), i0, by decide, i0, U.eq_t.mpr h2, row3 fun _ _ => rfl⟩⟩
        · have eR := rg_C r0 b1 b4 (Int.le_refl 1) (by omega) h2
          exact ⟨_, by
            rw [t_rw1c]; simp only [lk_eq, tnO0, eN, eF, es, ea, ul, um, eR, eC]
            exact ⟨ask0, i0, U.eq_f.mpr (by omega), U.eq_t.mpr hk, by omega, by omega, U.ge_f.mpr (by omega), i0, by decide, i0, U.eq_f.mpr h2, row3 fun _ _ => rfl⟩⟩
    · have eN : rwN n f k s h L l = 1 := by unfold rwN; rw [if_neg (by omega), if_pos (.inr hk)]
      have eF : rwF n f k s h L l = fun _ => rgR (f 0) l (szR (f 0)) L := by funext j; unfold rwF; rw [if_neg (by omega), if_neg (by omega), if_pos hk]
      have cb : rC (f 0) * L ≤ 2000000 * 8 ∧ 0 ≤ rC (f 0) * L := by
        have := right_c r0.1
        have hc0 := r0.2
        exact ⟨Int.mul_le_mul (by omega) L8 (by omega) (by omega), Int.mul_nonneg (by omega) (by omega)⟩
      have eC : U.mul .i64 (f 0).2.2.1 L = rC (f 0) * L := U.mul64 (by
        show I64 (rC (f 0) * L)
        unfold I64; omega)
      by_cases h1 : szR (f 0) ≤ l
      · have eR := rg_A (r := f 0) (c := L) h1
        exact ⟨_, by
          rw [t_rw2a]; simp only [lk_eq, tnO0, eN, eF, es, eR]
          exact ⟨ask0, i0, U.eq_f.mpr (by omega), U.eq_f.mpr (by omega), U.eq_t.mpr hk, U.ge_t.mpr h1, row3 fun _ _ => rfl⟩⟩
      · by_cases h2 : nth (rA (f 0)) (rB (f 0)) (rC (f 0)) l = nth (rA (f 0)) (rB (f 0)) (rC (f 0)) (zT l (szR (f 0)) L)
        · have eR := rg_B r0 l0 (Int.le_refl _) L1 (by omega) h2
          exact ⟨_, by
            rw [t_rw2b]; simp only [lk_eq, tnO0, eN, eF, es, eR]
            exact ⟨ask0, i0, U.eq_f.mpr (by omega), U.eq_f.mpr (by omega), U.eq_t.mpr hk, U.ge_f.mpr (by omega), i0, by omega, i0, U.eq_t.mpr h2, row3 fun _ _ => rfl⟩⟩
        · have eR := rg_C r0 l0 (Int.le_refl _) L1 (by omega) h2
          exact ⟨_, by
            rw [t_rw2c]; simp only [lk_eq, tnO0, eN, eF, es, eR, eC]
            exact ⟨ask0, i0, U.eq_f.mpr (by omega), U.eq_f.mpr (by omega), U.eq_t.mpr hk, U.ge_f.mpr (by omega), i0, by omega, i0, U.eq_f.mpr h2, row3 fun _ _ => rfl⟩⟩
    · have eN : rwN n f k s h L l = bcN (szR (f 0)) L s l := by unfold rwN; rw [if_neg (by omega), if_neg (by omega)]
      have eF : rwF n f k s h L l = bcF (f 0) (szR (f 0)) L s l := by funext j; unfold rwF; rw [if_neg (by omega), if_neg (by omega), if_neg (by omega)]
      have m1 : l * s ≤ 8 * 1000 := Int.mul_le_mul (by omega) s2 (by omega) (by omega)
      have m0 : 0 ≤ l * s := Int.mul_nonneg l0 (by omega)
      have em : U.mul .i64 l s = l * s := U.mul64 (by unfold I64; omega)
      have et : tr3 (f 0).1 (f 0).2.1 (f 0).2.2.1 = f 0 := rfl
      exact ⟨_, by
        rw [t_rw3]; simp only [lk_eq, tnO0, eN, eF, es, em, loS_mul s1, et]
        exact ⟨ask0, i0, U.eq_f.mpr (by omega), U.eq_f.mpr (by omega), U.eq_f.mpr (by omega), ⟨⟨rfl, r0, rfl, s1, s2, l0, l1, L8, rfl⟩, trivial, trivial, trivial, trivial⟩, row3 fun _ _ => rfl⟩⟩
    · exact absurd hk k4
  · exact hh.elim
end Go.RX.Span

/- Domain maps: Concat of rows and the rest: the loops, unrolled. -/
set_option linter.unusedVariables false
set_option linter.unusedSimpArgs false
set_option maxRecDepth 100000
namespace Go.RX.Span
open Go Go.RX
attribute [local irreducible] sx conB

noncomputable abbrev lCr : List (Nat × Loops) := [(142, [(3, .un 3), (11, .un 3)])] --%K
abbrev RLr := Els [.sl [.int .i64, .int .i64, .int .i64]]
end Go.RX.Span

/- Domain maps: Concat of rows and the rest. -/
set_option linter.unusedVariables false
set_option linter.unusedSimpArgs false
set_option maxRecDepth 100000
namespace Go.RX.Span
open Go Go.RX
attribute [local irreducible] sx conB

noncomputable def c_CatR : Con := fun args => match args with
  | [.row [.sl [.int .i64, .int .i64, .int .i64]] 2 F] => .ask (1 ≤ (F 0).1.1 ∧ (F 0).1.1 ≤ 100 ∧ (F 1).1.1 ≤ 100) (.ret (.row [.int .i64, .int .i64, .int .i64] ((F 0).1.1 + (F 1).1.1) (U.cat (F 0).1.1 (F 0).1.2 (F 1).1.2)))
  | _ => .stuck 1
--%R < ↑2 => < ((2 : Nat) : Int)
--%R < ↑\(2 : Nat\) => < ((2 : Nat) : Int)
set_option maxRecDepth 100000 in
theorem t_CatR (F : Nat → RLr) : (conB Go.Proofs.Try.prog (conOf []) (loopsOf lCr) 10 142 [.row [.sl [.int .i64, .int .i64, .int .i64]] 2 F]).force [true, false, true, false, false, false, true, true, true, false] =
    T.ask (U.lt (0 : Int) (2 : Int) = true) (.ask ((0 : Int) ≤ (0 : Int) ∧ (0 : Int) < ((2 : Nat) : Int)) (.ask (U.lt (U.add .i64 0 (Int.ofNat (F (U.toNat (Int.ofNat 0))).fst.1)) (0 :
      Int) = false) (.ask (U.lt (1 : Int) (2 : Int) = true) (.ask ((0 : Int) ≤ (1 : Int) ∧ (1 : Int) < ((2 : Nat) : Int)) (.ask (U.lt (U.add .i64 (U.add .i64 0 (Int.ofNat (F (U.toNat
      (Int.ofNat 0))).fst.1)) (Int.ofNat (F (U.toNat (Int.ofNat 1))).fst.1)) (0 : Int) = false) (.ask (U.lt (2 : Int) (2 : Int) = false) (.ask (U.lt (U.add .i64 (U.add .i64 0 (Int.ofNat
      (F (U.toNat (Int.ofNat 0))).fst.1)) (Int.ofNat (F (U.toNat (Int.ofNat 1))).fst.1)) (0 : Int) = false) (.ask (U.gt (U.sub .i64 (U.add .i64 (U.add .i64 0 (Int.ofNat (F (U.toNat
      (Int.ofNat 0))).fst.1)) (Int.ofNat (F (U.toNat (Int.ofNat 1))).fst.1)) (0 : Int)) (0 : Int) = true) (.ask ((0 : Int) < U.sub .i64 (U.add .i64 (U.add .i64 0 (Int.ofNat (F (U.toNat
      (Int.ofNat 0))).fst.1)) (Int.ofNat (F (U.toNat (Int.ofNat 1))).fst.1)) (0 : Int) ∧ ↑(nat_lit 24) * U.sub .i64 (U.add .i64 (U.add .i64 0 (Int.ofNat (F (U.toNat (Int.ofNat
      0))).fst.1)) (Int.ofNat (F (U.toNat (Int.ofNat 1))).fst.1)) (0 : Int) ≤ (140737488351232 : Int)) (.ask (U.lt (0 : Int) (2 : Int) = true) (.ask ((0 : Int) ≤ (0 : Int) ∧ (0 : Int) <
      ((2 : Nat) : Int)) (.ask (((0 : Nat) + (F (U.toNat (Int.ofNat 0))).fst.1) * nat_lit 24 ≤ nat_lit 140737488351232) (.ask (U.lt (1 : Int) (2 : Int) = true) (.ask ((0 : Int) ≤ (1 :
      Int) ∧ (1 : Int) < ((2 : Nat) : Int)) (.ask (((0 : Nat) + (F (U.toNat (Int.ofNat 0))).fst.1 + (F (U.toNat (Int.ofNat 1))).fst.1) * nat_lit 24 ≤ nat_lit 140737488351232) (.ask (U.lt
      (2 : Int) (2 : Int) = false) (.ret (.row [.int .i64, .int .i64, .int .i64] (nat_lit 0 + (F (U.toNat (Int.ofNat 0))).fst.1 + (F (U.toNat (Int.ofNat 1))).fst.1) (U.cat (nat_lit 0 + (F
      (U.toNat (Int.ofNat 0))).fst.1) (U.cat (nat_lit 0) (fun x => ((0 : Int), (0 : Int), (0 : Int), PUnit.unit)) (F (U.toNat (Int.ofNat 0))).fst.2) (F (U.toNat (Int.ofNat
      1))).fst.2))))))))))))))))))) := by kernel_rfl
theorem lCr_ok : ∀ p ∈ lCr, LoopsOK P p.2 (bodyOf P p.1) := by
  intro p hp
  simp only [lCr, List.mem_singleton] at hp
  subst hp
  exact loopsOK_un fun q hq => by
    simp only [List.mem_cons, List.not_mem_nil, or_false] at hq
    rcases hq with rfl | rfl <;> exact ⟨3, rfl⟩
theorem CatR_ok : ConOK P 142 c_CatR := con_force (allOKL mixed none_ok lCr_ok) 10 142 fun args r h => by
  unfold c_CatR at h
  split at h
  · rename_i F
    obtain ⟨h1, h2, h3⟩ := (T.is_ask h).1
    obtain rfl := T.is_ret (T.is_ask h).2
    refine ⟨_, T.all_of_eq (t_CatR F) ?_⟩
    have t0 : U.toNat (Int.ofNat 0) = 0 := tn 0
    have t1 : U.toNat (Int.ofNat 1) = 1 := tn 1
    generalize ha : (F 0).1.1 = a at *
    generalize hb : (F 1).1.1 = b at *
    have e1 : U.add .i64 0 (Int.ofNat a) = (a : Int) := by rw [U.add64 (by simp only [Int.ofNat_eq_natCast]; unfold I64; omega)]; simp
    have e2 : U.add .i64 (a : Int) (Int.ofNat b) = (a : Int) + b := U.add64 (by simp only [Int.ofNat_eq_natCast]; unfold I64; omega)
    have e3 : U.sub .i64 ((a : Int) + b) 0 = (a : Int) + b := by rw [U.sub64 (by unfold I64; omega)]; omega
    simp only [t0, t1, ha, hb, e1, e2, e3]
    have ez : U.cat 0 (fun x => ((0 : Int), (0 : Int), (0 : Int), PUnit.unit)) (F 0).1.2 = (F 0).1.2 := funext fun i => (U.cat_eq _ _ _ _).trans (if_neg (Nat.not_lt_zero _))
    refine ⟨U.lt_t.mpr (by decide), ⟨by decide, by decide⟩, U.lt_f.mpr (by omega), U.lt_t.mpr (by decide), ⟨by decide, by decide⟩, U.lt_f.mpr (by omega), U.lt_f.mpr (by decide), U.lt_f.mpr (by omega), U.gt_t.mpr (by omega), ⟨by omega, ?_⟩, U.lt_t.mpr (by decide), ⟨by decide, by decide⟩, ?_, U.lt_t.mpr (by decide), ⟨by decide, by decide⟩, ?_, U.lt_f.mpr (by decide), ⟨by omega, eqShs_refl _, fun i hi => ?_⟩⟩
    · show (24 : Int) * ((a : Int) + b) ≤ 140737488351232
      omega
    · show (0 + a) * 24 ≤ 140737488351232
      omega
    · show (0 + a + b) * 24 ≤ 140737488351232
      omega
    · show U.cat (0 + a) (U.cat 0 (fun x => ((0 : Int), (0 : Int), (0 : Int), PUnit.unit)) (F 0).1.2) (F 1).1.2 i = U.cat a (F 0).1.2 (F 1).1.2 i
      rw [ez, Nat.zero_add]; rfl
  · exact h.elim
end Go.RX.Span

/- Domain maps: Blocks: the lists. -/
set_option linter.unusedVariables false
set_option linter.unusedSimpArgs false
set_option maxRecDepth 100000
namespace Go.RX.Span
open Go Go.RX
attribute [local irreducible] sx conB

noncomputable abbrev kBk : List (Nat × Con) := [(134, c_located), (141, c_rows), (142, c_CatR), (41, c_DSize)] --%K
theorem kBk_ok : ∀ p ∈ kBk, ConOK P p.1 p.2 := by
  intro p hp
  simp only [kBk, List.mem_cons, List.not_mem_nil, or_false] at hp
  rcases hp with rfl | rfl | rfl | rfl
  · exact located_ok
  · exact rows_ok
  · exact CatR_ok
  · exact DSize_ok
noncomputable abbrev EBk : Env := ⟨P, conOf kBk, scall P (conOf kBk) noLoops 10⟩
theorem EBk_ok : EnvOK EBk := envOK (allOK mixed kBk_ok) 10
end Go.RX.Span

/- Domain maps: Blocks: the loop's states, the contract. -/
set_option linter.unusedVariables false
set_option linter.unusedSimpArgs false
set_option maxRecDepth 100000
namespace Go.RX.Span
open Go Go.RX
attribute [local irreducible] sx conB

/-- A row of blocks as a domain: the rows, then what the domain has beside its first range. -/
noncomputable def bkD (n : Nat) (f : Nat → R3) (k s h : Int) (r : R3) : DE := ((1 + (n - 1), U.cat 1 (fun _ => r) fun i => f (i + 1)), k, s, h, ())
noncomputable def bkL (n : Nat) (f : Nat → R3) (k s h : Int) (F : Nat → R3) (m : Nat) : DL := pushes (fun j => bkD n f k s h (F j)) noD m
noncomputable def bkN (n : Nat) (f : Nat → R3) (k s h : Int) (F : Nat → R3) (m : Nat) : Nat := (bkL n f k s h F m).1
noncomputable def bkG (n : Nat) (f : Nat → R3) (k s h : Int) (F : Nat → R3) (m : Nat) : Nat → DE := (bkL n f k s h F m).2
def PreBk (n0 n : Nat) (f : Nat → R3) (m : Nat) (F : Nat → R3) : Prop := n0 = 0 ∧ (n = 1 ∨ n = 2) ∧ Row64 n f ∧ m ≤ 3000000 ∧ Row64 m F
noncomputable abbrev slBk (u : Bool) (N : Nat) (m : Nat) (F : Nat → R3) (i : Int) : List SV := [.ptr 0 0, .own u 1 N, .row [.int .i64, .int .i64, .int .i64] m F, .lit (.int .i64 (m : Int)), .lit (.int .i64 i)]
noncomputable abbrev memBk (n : Nat) (f : Nat → R3) (k s h : Int) (u : Bool) (N : Nat) (G : Nat → DE) : Mem := [boxD n f k s h, (0, some (.row u N ssD G 49))]
noncomputable def gBk : Nat → Few → T (Ex × Few)
  | n0, ([.ptr 0 0, .lit (.slice none 0 0), .row [.int .i64, .int .i64, .int .i64] m F, .lit (.int .i64 m'), .ki .i64 0],
      [(_, some (.cells [.row [.int .i64, .int .i64, .int .i64] n f, .lit (.int .i64 k), .lit (.int .i64 s), .lit (.int .i64 h)] t0))]) =>
    .ask (lk PreBk n0 n f m F ∧ m' = (m : Int) ∧ t0 = 49)
      (.ret (.exit 0, ([.any, .own (U.isz (lk bkN n f k s h F m)) 1 (lk bkN n f k s h F m), .any, .any, .any], [(0, none), (0, some (.row (U.isz (lk bkN n f k s h F m)) (lk bkN n f k s h F m) ssD (lk bkG n f k s h F m) 49))])))
  | _, _ => .stuck 1
noncomputable abbrev lBk : List (Nat × Loops) := [(57, [(8, .sum (few 52 [3,9,27,28,29] gBk))])] --%K
def blE (n : Nat) (f : Nat → R3) (k s h L l : Int) : Int := if lcE n f k s h L l ≠ 0 then lcE n f k s h L l else if k = 4 then 70 else 0
noncomputable def blN (n : Nat) (f : Nat → R3) (k s h L l : Int) : Nat := if blE n f k s h L l ≠ 0 then 0 else bkN n f k s h (rwF n f k s h L l) (rwN n f k s h L l)
noncomputable def blG (n : Nat) (f : Nat → R3) (k s h L l : Int) : Nat → DE := bkG n f k s h (rwF n f k s h L l) (rwN n f k s h L l)
noncomputable def c_Blocks : Con := fun args => match args with
  | [.agg [.row [.int .i64, .int .i64, .int .i64] n f, .lit (.int .i64 k), .lit (.int .i64 s), .lit (.int .i64 h)], .lit (.int .i64 L), .lit (.int .i64 l)] => .ask (Row64 n f) (.ret (.tup [.row ssD (lk blN n f k s h L l) (lk blG n f k s h L l), .lit (.int .i64 (lk blE n f k s h L l))]))
  | _ => .stuck 1
end Go.RX.Span

/- Domain maps: Blocks: the walks. -/
set_option linter.unusedVariables false
set_option linter.unusedSimpArgs false
set_option maxRecDepth 100000
namespace Go.RX.Span
open Go Go.RX
attribute [local irreducible] sx conB

--%R i < ↑m => i < ((m : Nat) : Int)
--%R ≤ ↑n ∧ ↑n ≤ ↑n => ≤ ((n : Nat) : Int) ∧ ((n : Nat) : Int) ≤ ((n : Nat) : Int)
set_option maxRecDepth 100000 in
theorem t_Bk (n : Nat) (f : Nat → R3) (k s h : Int) (u : Bool) (N : Nat) (G : Nat → DE) (m : Nat) (F : Nat → R3) (i : Int) : (sx EBk [] 0 (loopOf P 57 8) (mkS 52 [3,9,27,28,29] (slBk u N m F i), memBk n f k s h u N G)).bind (proj 52 [3,9,27,28,29]) =
    T.br (U.lt i (Int.ofNat m)) (.ask ((0 : Int) ≤ i ∧ i < ((m : Nat) : Int)) (.ask ((0 : Int) ≤ (1 : Int) ∧ (1 : Int) ≤ ((n : Nat) : Int) ∧ ((n : Nat) : Int) ≤ ((n : Nat) : Int)) (.ask
      ((1 : Nat) ≤ nat_lit 1 ∧ nat_lit 1 ≤ (100 : Nat) ∧ U.nsub n (U.toNat (1 : Int)) ≤ (100 : Nat)) (.ask (Row64 (nat_lit 1 + U.nsub n (U.toNat (1 : Int))) (U.cat (nat_lit 1) (fun x =>
      ((F (U.toNat i)).1, (F (U.toNat i)).2.1, (F (U.toNat i)).2.2.1, PUnit.unit)) fun i => f (i + U.toNat (1 : Int)))) (.br (U.gt (lk szD (nat_lit 1 + U.nsub n (U.toNat (1 : Int)))
      (U.cat (nat_lit 1) (fun x => ((F (U.toNat i)).1, (F (U.toNat i)).2.1, (F (U.toNat i)).2.2.1, PUnit.unit)) fun i => f (i + U.toNat (1 : Int))) k s h) (0 : Int)) (.ask ((N + (1 :
      Nat)) * nat_lit 48 ≤ nat_lit 140737488351232) (.ret (Ex.normal, [SV.ptr (nat_lit 0) (nat_lit 0), SV.own false (nat_lit 7) (N.add (nat_lit 1)), .row [.int .i64, .int .i64, .int .i64]
      m F, .lit (.int .i64 (Int.ofNat m)), .lit (.int .i64 (U.add .i64 i (1 : Int)))], [(nat_lit 0, some (Blk.cells [.row [.int .i64, .int .i64, .int .i64] n f, .lit (.int .i64 k), .lit
      (.int .i64 s), .lit (.int .i64 h)] (nat_lit 49))), (nat_lit 1, none), (nat_lit 1, some (Blk.cells [.lit (.int .i64 (F (U.toNat i)).1), .lit (.int .i64 (F (U.toNat i)).2.1), .lit
      (.int .i64 (F (U.toNat i)).2.2.1)] (nat_lit 23))), (nat_lit 1, none), (nat_lit 1, none), (nat_lit 1, some (Blk.cells [.row [.int .i64, .int .i64, .int .i64] (nat_lit 1 + U.nsub n
      (U.toNat (1 : Int))) (U.cat (nat_lit 1) (fun x => ((F (U.toNat i)).1, (F (U.toNat i)).2.1, (F (U.toNat i)).2.2.1, PUnit.unit)) fun i => f (i + U.toNat (1 : Int))), .lit (.int .i64
      k), .lit (.int .i64 s), .lit (.int .i64 h)] (nat_lit 49))), (nat_lit 0, some (Blk.cells [.row [.int .i64, .int .i64, .int .i64] (nat_lit 1 + U.nsub n (U.toNat (1 : Int))) (U.cat
      (nat_lit 1) (fun x => ((F (U.toNat i)).1, (F (U.toNat i)).2.1, (F (U.toNat i)).2.2.1, PUnit.unit)) fun i => f (i + U.toNat (1 : Int))), .lit (.int .i64 k), .lit (.int .i64 s), .lit
      (.int .i64 h)] (nat_lit 49))), (nat_lit 0, some (Blk.row false (N.add (nat_lit 1)) [.sl [.int .i64, .int .i64, .int .i64], .int .i64, .int .i64, .int .i64] (U.cat N G fun x =>
      ((nat_lit 1 + U.nsub n (U.toNat (1 : Int)), U.cat (nat_lit 1) (fun x => ((F (U.toNat i)).1, (F (U.toNat i)).2.1, (F (U.toNat i)).2.2.1, PUnit.unit)) fun i => f (i + U.toNat (1 :
      Int))), k, s, h, PUnit.unit)) (nat_lit 49)))]))) (.ret (Ex.normal, [SV.ptr (nat_lit 0) (nat_lit 0), SV.own u (nat_lit 1) N, .row [.int .i64, .int .i64, .int .i64] m F, .lit (.int
      .i64 (Int.ofNat m)), .lit (.int .i64 (U.add .i64 i (1 : Int)))], [(nat_lit 0, some (Blk.cells [.row [.int .i64, .int .i64, .int .i64] n f, .lit (.int .i64 k), .lit (.int .i64 s),
      .lit (.int .i64 h)] (nat_lit 49))), (nat_lit 0, some (Blk.row u N [.sl [.int .i64, .int .i64, .int .i64], .int .i64, .int .i64, .int .i64] G (nat_lit 49))), (nat_lit 1, some
      (Blk.cells [.lit (.int .i64 (F (U.toNat i)).1), .lit (.int .i64 (F (U.toNat i)).2.1), .lit (.int .i64 (F (U.toNat i)).2.2.1)] (nat_lit 23))), (nat_lit 1, none), (nat_lit 1, none),
      (nat_lit 1, some (Blk.cells [.row [.int .i64, .int .i64, .int .i64] (nat_lit 1 + U.nsub n (U.toNat (1 : Int))) (U.cat (nat_lit 1) (fun x => ((F (U.toNat i)).1, (F (U.toNat i)).2.1,
      (F (U.toNat i)).2.2.1, PUnit.unit)) fun i => f (i + U.toNat (1 : Int))), .lit (.int .i64 k), .lit (.int .i64 s), .lit (.int .i64 h)] (nat_lit 49)))]))))))) (.ret (Ex.exit (nat_lit
      0), [SV.ptr (nat_lit 0) (nat_lit 0), SV.own u (nat_lit 1) N, .row [.int .i64, .int .i64, .int .i64] m F, .lit (.int .i64 (Int.ofNat m)), .lit (.int .i64 i)], [(nat_lit 0, some
      (Blk.cells [.row [.int .i64, .int .i64, .int .i64] n f, .lit (.int .i64 k), .lit (.int .i64 s), .lit (.int .i64 h)] (nat_lit 49))), (nat_lit 0, some (Blk.row u N [.sl [.int .i64,
      .int .i64, .int .i64], .int .i64, .int .i64, .int .i64] G (nat_lit 49)))])) := by kernel_rfl
set_option maxRecDepth 100000 in
theorem t_Bl1 (n : Nat) (f : Nat → R3) (k s h L l : Int) : (conB Go.Proofs.Try.prog (conOf kBk) (loopsOf lBk) 10 57 [.agg [.row [.int .i64, .int .i64, .int .i64] n f, .lit (.int .i64 k), .lit (.int .i64 s), .lit (.int .i64 h)], .lit (.int .i64 L), .lit (.int .i64 l)]).force [true] =
    T.ask (Row64 n f) (.ask (U.ne (lk lcE n f k s h L l) (0 : Int) = true) (.ret (.tup [.lit (.slice none (nat_lit 0) (nat_lit 0)), .lit (.int .i64 (lk lcE n f k s h L l))]))) := by kernel_rfl
set_option maxRecDepth 100000 in
theorem t_Bl2 (n : Nat) (f : Nat → R3) (k s h L l : Int) : (conB Go.Proofs.Try.prog (conOf kBk) (loopsOf lBk) 10 57 [.agg [.row [.int .i64, .int .i64, .int .i64] n f, .lit (.int .i64 k), .lit (.int .i64 s), .lit (.int .i64 h)], .lit (.int .i64 L), .lit (.int .i64 l)]).force [false, true] =
    T.ask (Row64 n f) (.ask (U.ne (lk lcE n f k s h L l) (0 : Int) = false) (.ask (U.eq k (4 : Int) = true) (.ret (.tup [.lit (.slice none (nat_lit 0) (nat_lit 0)), .lit (.int .i64
      70)])))) := by kernel_rfl
set_option maxRecDepth 100000 in
theorem t_Bl3 (n : Nat) (f : Nat → R3) (k s h L l : Int) : (conB Go.Proofs.Try.prog (conOf kBk) (loopsOf lBk) 10 57 [.agg [.row [.int .i64, .int .i64, .int .i64] n f, .lit (.int .i64 k), .lit (.int .i64 s), .lit (.int .i64 h)], .lit (.int .i64 L), .lit (.int .i64 l)]).force [false, false] =
    T.ask (Row64 n f) (.ask (U.ne (lk lcE n f k s h L l) (0 : Int) = false) (.ask (U.eq k (4 : Int) = false) (.ask (lk RwAsk n f k s h L l) (.ask (lk PreBk (nat_lit 0) n f (lk rwN n f k
      s h L l) (lk rwF n f k s h L l) ∧ ((lk rwN n f k s h L l : Nat) : Int) = ((lk rwN n f k s h L l : Nat) : Int) ∧ (49 : Nat) = (49 : TypeId)) (.ret (.tup [.row [.sl [.int .i64, .int
      .i64, .int .i64], .int .i64, .int .i64, .int .i64] (lk bkN n f k s h (lk rwF n f k s h L l) (lk rwN n f k s h L l)) (lk bkG n f k s h (lk rwF n f k s h L l) (lk rwN n f k s h L l)),
      .lit (.int .i64 0)])))))) := by kernel_rfl
end Go.RX.Span

/- Domain maps: Blocks. -/
set_option linter.unusedVariables false
set_option linter.unusedSimpArgs false
set_option maxRecDepth 100000
namespace Go.RX.Span
open Go Go.RX
attribute [local irreducible] sx conB

theorem add1q {j : Nat} (h : j ≤ 1000000000) : U.add .i64 (j : Int) 1 = ((j + 1 : Nat) : Int) := by rw [U.add64 (by unfold I64; omega)]; omega
theorem bkL_yes {n : Nat} {f : Nat → R3} {k s h : Int} {F : Nat → R3} {j : Nat} (g : 0 < szE (bkD n f k s h (F j))) : bkN n f k s h F (j + 1) = bkN n f k s h F j + 1 ∧ bkG n f k s h F (j + 1) = U.cat (bkN n f k s h F j) (bkG n f k s h F j) fun _ => bkD n f k s h (F j) := by
  have e : bkL n f k s h F (j + 1) = (bkN n f k s h F j + 1, U.cat (bkN n f k s h F j) (bkG n f k s h F j) fun _ => bkD n f k s h (F j)) := by
    show push (bkL n f k s h F j) (bkD n f k s h (F j)) = _
    unfold push; rw [if_pos g]; rfl
  unfold bkN bkG at *
  rw [e]; exact ⟨rfl, rfl⟩
theorem bkL_no {n : Nat} {f : Nat → R3} {k s h : Int} {F : Nat → R3} {j : Nat} (g : ¬ 0 < szE (bkD n f k s h (F j))) : bkN n f k s h F (j + 1) = bkN n f k s h F j ∧ bkG n f k s h F (j + 1) = bkG n f k s h F j := by
  have e : bkL n f k s h F (j + 1) = bkL n f k s h F j := by
    show push (bkL n f k s h F j) (bkD n f k s h (F j)) = _
    unfold push; rw [if_neg g]
  unfold bkN bkG
  rw [e]; exact ⟨rfl, rfl⟩
theorem bkN_le (n : Nat) (f : Nat → R3) (k s h : Int) (F : Nat → R3) : ∀ j, bkN n f k s h F j ≤ j
  | 0 => Nat.le_refl 0
  | j + 1 => by
    have ih := bkN_le n f k s h F j
    by_cases g : 0 < szE (bkD n f k s h (F j))
    · rw [(bkL_yes g).1]; omega
    · rw [(bkL_no g).1]; omega
structure XBk where
  (n : Nat) (f : Nat → R3) (k s h : Int) (m : Nat) (F : Nat → R3) (j : Nat)
noncomputable abbrev VBk (q : XBk) : Few := (slBk (U.isz (bkN q.n q.f q.k q.s q.h q.F q.j)) (bkN q.n q.f q.k q.s q.h q.F q.j) q.m q.F (q.j : Int), memBk q.n q.f q.k q.s q.h (U.isz (bkN q.n q.f q.k q.s q.h q.F q.j)) (bkN q.n q.f q.k q.s q.h q.F q.j) (bkG q.n q.f q.k q.s q.h q.F q.j))
noncomputable def OBk (q : XBk) : Ex × Few := (.exit 0, ([.any, .own (U.isz (bkN q.n q.f q.k q.s q.h q.F q.m)) 1 (bkN q.n q.f q.k q.s q.h q.F q.m), .any, .any, .any], [(0, none), (0, some (.row (U.isz (bkN q.n q.f q.k q.s q.h q.F q.m)) (bkN q.n q.f q.k q.s q.h q.F q.m) ssD (bkG q.n q.f q.k q.s q.h q.F q.m) 49))]))
def PhiBk (n0 : Nat) (q : XBk) : Prop := PreBk n0 q.n q.f q.m q.F ∧ q.j ≤ q.m
theorem slBk_rl {ρ : Ren} {b b' : Nat} {u u' : Bool} {N N' : Nat} {m : Nat} {F : Nat → R3} {i i' : Int} (h0 : ρ.of 0 = some 0) (hb : ρ.of b' = some b) (hu : u = u') (hN : N = N') (hi : i = i') :
    RlL ρ [.ptr 0 0, .own u b N, .row [.int .i64, .int .i64, .int .i64] m F, .lit (.int .i64 (m : Int)), .lit (.int .i64 i)] [.ptr 0 0, .own u' b' N', .row [.int .i64, .int .i64, .int .i64] m F, .lit (.int .i64 (m : Int)), .lit (.int .i64 i')] := by
  subst hu hN hi
  exact ⟨⟨h0, rfl⟩, ⟨rfl, rfl, hb⟩, ⟨rfl, sameR fun _ _ => rfl⟩, rfl, rfl, trivial⟩
theorem row_bk {n : Nat} {f : Nat → R3} {m : Nat} {F : Nat → R3} (hn : n = 1 ∨ n = 2) (hf : Row64 n f) (hF : Row64 m F) {j : Nat} (hj : j < m) : Row64 (1 + (n - 1)) (U.cat 1 (fun _ => F j) fun i => f (i + 1)) := fun i hi => by
  have e : U.cat 1 (fun _ => F j) (fun i => f (i + 1)) i = if i < 1 then F j else f (i - 1 + 1) := U.cat_eq _ _ _ _
  rw [e]
  by_cases h : i < 1
  · rw [if_pos h]; exact hF j hj
  · rw [if_neg h]; exact hf _ (by omega)
theorem roundBk (n0 : Nat) (q : XBk) (hq : PhiBk n0 q) : ((sx EBk [] n0 (loopOf P 57 8) (mkS 52 [3,9,27,28,29] (VBk q).1, (VBk q).2)).bind (proj 52 [3,9,27,28,29])).All fun r => match r.1 with
      | .normal => ∃ q', PhiBk n0 q' ∧ q'.m - q'.j < q.m - q.j ∧ Wk 52 [3,9,27,28,29] n0 r.2 (VBk q') ∧ ∀ o, o = OBk q' → o = OBk q
      | e => ∃ s, (e, s) = OBk q ∧ Wk 52 [3,9,27,28,29] n0 r.2 s := by
  obtain ⟨n, f, k, s, h, m, F, j⟩ := q
  obtain ⟨⟨h0, hn, hf, hm, hF⟩, hj⟩ := hq
  have hj : j ≤ m := hj
  have hm : m ≤ 3000000 := hm
  have hn : n = 1 ∨ n = 2 := hn
  simp only [] at h0 hf hF
  subst h0
  have nb := bkN_le n f k s h F j
  refine T.all_of_eq (t_Bk n f k s h (U.isz (bkN n f k s h F j)) (bkN n f k s h F j) (bkG n f k s h F j) m F (j : Int)) ?_
  have e2 := add1q (j := j) (by omega)
  have t1 : U.toNat 1 = 1 := tn 1
  by_cases hlt : j < m
  · simp only [e2, tnH, t1, U.nsub_eq, lk_eq]
    refine ⟨fun _ => ⟨⟨by omega, by omega⟩, ⟨by omega, by omega, by omega⟩, ⟨?_, ?_, ?_⟩, row_bk hn hf hF hlt, fun g => ?_, fun g => ?_⟩, fun g => absurd (U.lt_f.mp g) (by simp only [Int.ofNat_eq_natCast]; omega)⟩
    · exact Nat.le_refl 1
    · show 1 ≤ 100
      omega
    · show n - 1 ≤ 100
      omega
    · have g : 0 < szE (bkD n f k s h (F j)) := U.gt_t.mp g
      obtain ⟨y1, y2⟩ := bkL_yes g
      have iz : U.isz (bkN n f k s h F (j + 1)) = false := by rw [y1]; exact isz_s _
      refine ⟨?_, ⟨n, f, k, s, h, m, F, j + 1⟩, ⟨⟨rfl, hn, hf, hm, hF⟩, hlt⟩, (show m - (j + 1) < m - j by omega), ?_, fun o ho => ho⟩
      · show (bkN n f k s h F j + 1) * 48 ≤ 140737488351232
        omega
      · refine wk_of [some 0, some 7] rfl (Nat.zero_le _) (ren1z _) (slBk_rl rfl rfl iz.symm y1.symm rfl) ⟨⟨rfl, ⟨rfl, sameR fun _ _ => rfl⟩, rfl, rfl, rfl, trivial⟩, ⟨rfl, iz.symm, y1.symm, ⟨eqShs_refl _, fun t ht => ?_⟩⟩, trivial⟩
        exact (congrFun y2 t).symm
    · have g : ¬ 0 < szE (bkD n f k s h (F j)) := by
        have := U.gt_f.mp g
        show ¬ 0 < szD (1 + (n - 1)) (U.cat 1 (fun _ => F j) fun i => f (i + 1)) k s h
        exact fun w => absurd w (Int.not_lt.2 this)
      obtain ⟨y1, y2⟩ := bkL_no g
      refine ⟨⟨n, f, k, s, h, m, F, j + 1⟩, ⟨⟨rfl, hn, hf, hm, hF⟩, hlt⟩, (show m - (j + 1) < m - j by omega), ?_, fun o ho => ho⟩
      exact wk_of [some 0, some 1] rfl (Nat.zero_le _) (ren1z _) (slBk_rl rfl rfl (congrArg U.isz y1.symm) y1.symm rfl) ⟨⟨rfl, ⟨rfl, sameR fun _ _ => rfl⟩, rfl, rfl, rfl, trivial⟩, ⟨rfl, congrArg U.isz y1.symm, y1.symm, ⟨eqShs_refl _, fun t ht => (congrFun y2 t).symm⟩⟩, trivial⟩
  · obtain rfl : j = m := by omega
    refine ⟨fun g => absurd (U.lt_t.mp g) (by simp only [Int.ofNat_eq_natCast]; omega), fun _ => ⟨_, rfl, ?_⟩⟩
    exact wk_of [none, some 1] rfl (Nat.zero_le _) (ren1z _) ⟨rl_any _, ⟨rfl, rfl, rfl⟩, rl_any _, rl_any _, rl_any _, trivial⟩ ⟨⟨rfl, rfl, rfl, ⟨eqShs_refl _, fun t ht => rfl⟩⟩, trivial⟩
theorem loopBk : LoopOK P (loopOf P 57 8) (few 52 [3,9,27,28,29] gBk) :=
  loop_few (E := EBk) mixed EBk_ok loopsOK_none 52 [3,9,27,28,29] (X := XBk) gBk (fun _ x => VBk x) PhiBk (fun q => q.m - q.j) (fun _ x o => o = OBk x)
    (fun n0 st r hh => by
      unfold gBk at hh
      split at hh
      · rename_i n0 m F m' g0 n f k s h t0
        obtain ⟨hp, rfl, rfl⟩ := (T.is_ask hh).1
        obtain rfl := T.is_ret (T.is_ask hh).2
        rw [lk_eq] at hp
        have h0 := hp.1
        subst h0
        have z : bkN n f k s h F 0 = 0 := rfl
        have zi : U.isz (bkN n f k s h F 0) = true := by rw [z, U.isz_eq]; rfl
        refine ⟨⟨n, f, k, s, h, m, F, 0⟩, ⟨hp, Nat.zero_le _⟩, wk_of [some 0, none] rfl (Nat.zero_le _) (ren1z _) ⟨⟨rfl, rfl⟩, ⟨rfl, zi, z⟩, ⟨rfl, sameR fun _ _ => rfl⟩, rfl, rfl, trivial⟩ ⟨⟨rfl, ⟨rfl, sameR fun _ _ => rfl⟩, rfl, rfl, rfl, trivial⟩, ⟨zi, z⟩, trivial⟩, fun o ho => ?_⟩
        rw [ho]
        simp only [lk_eq]; rfl
      · exact hh.elim)
    roundBk
theorem lBk_ok : ∀ p ∈ lBk, LoopsOK P p.2 (bodyOf P p.1) := by
  intro p hp
  simp only [lBk, List.mem_singleton] at hp
  subst hp
  refine loopsOK_of (by kernel_rfl) fun k g hk => ?_
  simp only [List.mem_singleton, Prod.mk.injEq, LoopC.sum.injEq] at hk
  obtain ⟨rfl, rfl⟩ := hk
  exact loopBk
end Go.RX.Span

/- Domain maps: Blocks: the contract. -/
set_option linter.unusedVariables false
set_option linter.unusedSimpArgs false
set_option maxRecDepth 100000
namespace Go.RX.Span
open Go Go.RX
attribute [local irreducible] sx conB

theorem rgR_64 {r : R3} (hr : RR r) {a b c : Int} (h0 : 0 ≤ a) (hb : b ≤ szR r) (hc : 1 ≤ c) (h8 : c ≤ 8) : I64 (rgR r a b c).1 ∧ I64 (rgR r a b c).2.1 ∧ I64 (rgR r a b c).2.2.1 := by
  obtain ⟨_, z0, z1⟩ := rr_size hr
  have hC := hr.2
  have hC2 := right_c hr.1
  obtain ⟨⟨a1, a2, _, _⟩, _⟩ := hr.1
  have bd : ∀ k : Int, 0 ≤ k → k ≤ 2000001 → 0 ≤ rC r * k ∧ rC r * k ≤ 2000001 * 2000001 := fun k k0 k1 => ⟨Int.mul_nonneg (by omega) k0, Int.mul_le_mul (by omega) k1 k0 (by omega)⟩
  unfold rgR
  by_cases h : b ≤ a
  · rw [if_pos h]; exact ⟨by show I64 1; unfold I64; omega, by show I64 0; unfold I64; omega, by show I64 1; unfold I64; omega⟩
  · rw [if_neg h]
    have b1 := bd a h0 (by omega)
    by_cases g : (b - 1 - a) / c = 0
    · rw [if_pos g]
      exact ⟨by show I64 (rA r + rC r * a); unfold I64; omega, by show I64 (rA r + rC r * a); unfold I64; omega, by show I64 1; unfold I64; omega⟩
    · rw [if_neg g]
      have q0 : 0 ≤ (b - 1 - a) / c := Int.ediv_nonneg (by omega) (by omega)
      have q1 : (b - 1 - a) / c * c ≤ b - 1 - a := Int.ediv_mul_le _ (by omega)
      have q2 : 0 ≤ (b - 1 - a) / c * c := Int.mul_nonneg q0 (by omega)
      have b2 := bd (a + (b - 1 - a) / c * c) (by omega) (by omega)
      have b3 : 0 ≤ rC r * c ∧ rC r * c ≤ 2000001 * 8 := ⟨Int.mul_nonneg (by omega) (by omega), Int.mul_le_mul (by omega) h8 (by omega) (by omega)⟩
      exact ⟨by show I64 (rA r + rC r * a); unfold I64; omega, by show I64 (rA r + rC r * (a + (b - 1 - a) / c * c)); unfold I64; omega, by show I64 (rC r * c); unfold I64; omega⟩
theorem bcN_le {x L s l : Int} (hx : x ≤ 2000001) (hs : 1 ≤ s) (hL : 1 ≤ L) (l0 : 0 ≤ l) : bcN x L s l ≤ 2000002 := by
  have b1 : 0 ≤ l * s := Int.mul_nonneg l0 (by omega)
  unfold bcN
  by_cases h : x ≤ l * s
  · rw [if_pos h]; omega
  · rw [if_neg h]
    have := Int.ediv_le_self (L * s) (show 0 ≤ x - 1 - l * s by omega)
    omega
theorem rw_ok {n : Nat} {f : Nat → R3} {k s h L l : Int} (ra : RwAsk n f k s h L l) : rwN n f k s h L l ≤ 3000000 ∧ Row64 (rwN n f k s h L l) (rwF n f k s h L l) := by
  obtain ⟨hd, k4, l0, l1⟩ := ra
  obtain ⟨L1, L8, hc, hl⟩ := dmE_zero.1 hd
  obtain ⟨d1, fit⟩ := chD_zero.1 hc
  have hn := d1.1
  have r0 : RR (f 0) := d1.2 0 (by omega)
  obtain ⟨_, x0, x1⟩ := rr_size r0
  obtain ⟨b1, b2⟩ := loB_bnd (L := L) x0 l0 (by omega) L1
  obtain ⟨b3, b4⟩ := loB_bnd (L := L) (l := l + 1) x0 (by omega) (by omega) L1
  constructor
  · unfold rwN
    split
    · split <;> omega
    · split
      · omega
      · rcases fit_k fit with hk | hk | hk | ⟨hk, s1, s2⟩ | hk
        · omega
        · omega
        · omega
        · have := bcN_le (x := szR (f 0)) (L := L) (s := s) (l := l) x1 s1 L1 l0; omega
        · omega
  · intro j hj
    unfold rwF
    split
    · exact rgR_64 r0 (Int.le_refl 0) (Int.le_refl _) (Int.le_refl 1) (by omega)
    · split
      · exact rgR_64 r0 b1 b4 (Int.le_refl 1) (by omega)
      · split
        · exact rgR_64 r0 l0 (Int.le_refl _) L1 L8
        · rcases fit_k fit with hk | hk | hk | ⟨hk, s1, s2⟩ | hk
          · omega
          · omega
          · omega
          · have p1 : 0 ≤ l * s := Int.mul_nonneg l0 (by omega)
            have p2 : 0 ≤ (j : Int) * (L * s) := Int.mul_nonneg (by omega) (Int.mul_nonneg (by omega) (by omega))
            exact rgR_64 r0 (by omega) (by omega) (Int.le_refl 1) (by omega)
          · omega
theorem Blocks_ok : ConOK P 57 c_Blocks := con_force (allOKL mixed kBk_ok lBk_ok) 10 57 fun args r hh => by
  unfold c_Blocks at hh
  split at hh
  · rename_i n f k s h L l
    have d := (T.is_ask hh).1
    obtain rfl := T.is_ret (T.is_ask hh).2
    by_cases hl : lcE n f k s h L l = 0
    rotate_left
    · have e1 : blE n f k s h L l = lcE n f k s h L l := by unfold blE; rw [if_pos hl]
      have e2 : blN n f k s h L l = 0 := by unfold blN; rw [if_pos (by rw [e1]; exact hl)]
      exact ⟨_, by rw [t_Bl1]; simp only [lk_eq, e1, e2]; exact ⟨d, U.ne_t.mpr hl, cl_nil, .inl rfl, rfl⟩⟩
    by_cases hk : k = 4
    · have e1 : blE n f k s h L l = 70 := by unfold blE; rw [if_neg (by simp [hl]), if_pos hk]
      have e2 : blN n f k s h L l = 0 := by unfold blN; rw [if_pos (by rw [e1]; decide)]
      exact ⟨_, by rw [t_Bl2]; simp only [lk_eq, e1, e2]; exact ⟨d, U.ne_f.mpr hl, U.eq_t.mpr hk, cl_nil, .inl rfl, rfl⟩⟩
    have e1 : blE n f k s h L l = 0 := by unfold blE; rw [if_neg (by simp [hl]), if_neg hk]
    have e2 : blN n f k s h L l = bkN n f k s h (rwF n f k s h L l) (rwN n f k s h L l) := by unfold blN; rw [if_neg (by simp [e1])]
    obtain ⟨g1, g2, g3⟩ := lcE_zero.1 hl
    obtain ⟨hd, h5⟩ := lsE_zero.1 g1
    have ra : RwAsk n f k s h L l := ⟨hd, hk, g2, g3⟩
    obtain ⟨w1, w2⟩ := rw_ok ra
    have hn := (chD_zero.1 (dmE_zero.1 hd).2.2.1).1.1
    exact ⟨_, by
      rw [t_Bl3]; simp only [lk_eq, e1, e2]
      exact ⟨d, U.ne_f.mpr hl, U.eq_f.mpr hk, ra, ⟨⟨rfl, hn, d, w1, w2⟩, trivial, trivial⟩, ⟨rfl, ⟨eqShs_refl _, fun i hi => rfl⟩⟩, .inl rfl, rfl⟩⟩
  · exact hh.elim
end Go.RX.Span

/- Domain maps: the reference's rows: the walk. -/
set_option linter.unusedVariables false
set_option linter.unusedSimpArgs false
set_option maxRecDepth 100000
namespace Go.RX.Span
open Go Go.RX
attribute [local irreducible] sx conB

--%R < ↑n => < ((n : Nat) : Int)
end Go.RX.Span

/- Domain maps: the reference's rows. -/
set_option linter.unusedVariables false
set_option linter.unusedSimpArgs false
set_option maxRecDepth 100000
namespace Go.RX.Span
open Go Go.RX
attribute [local irreducible] sx conB

end Go.RX.Span

/- Domain maps: the reference's Blocks: the lists. -/
set_option linter.unusedVariables false
set_option linter.unusedSimpArgs false
set_option maxRecDepth 100000
namespace Go.RX.Span
open Go Go.RX
attribute [local irreducible] sx conB

end Go.RX.Span

/- Domain maps: the reference's Blocks: the loops' states. -/
set_option linter.unusedVariables false
set_option linter.unusedSimpArgs false
set_option maxRecDepth 100000
namespace Go.RX.Span
open Go Go.RX
attribute [local irreducible] sx conB

end Go.RX.Span

/- Domain maps: the reference's Blocks: the walks of the searches. -/
set_option linter.unusedVariables false
set_option linter.unusedSimpArgs false
set_option maxRecDepth 100000
namespace Go.RX.Span
open Go Go.RX
attribute [local irreducible] sx conB

end Go.RX.Span

/- Domain maps: the reference's Blocks: the searches. -/
set_option linter.unusedVariables false
set_option linter.unusedSimpArgs false
set_option maxRecDepth 100000
namespace Go.RX.Span
open Go Go.RX
attribute [local irreducible] sx conB

theorem lo_iff {x L l i : Int} (hx : 1 ≤ x) (hL : 1 ≤ L) : i < loB x L l ↔ i * L / x < l := by
  unfold loB
  rw [Int.ediv_lt_iff_lt_mul (by omega)]
  have e := Int.le_ediv_iff_mul_le (a := i + 1) (b := l * x + L - 1) (c := L) (by omega)
  rw [Int.add_mul, Int.one_mul] at e
  constructor
  · intro g
    have := e.1 (by omega)
    omega
  · intro g
    have := e.2 (by omega)
    omega
end Go.RX.Span

/- Domain maps: the reference's Blocks: blocks dealt in turn: the states. -/
set_option linter.unusedVariables false
set_option linter.unusedSimpArgs false
set_option maxRecDepth 100000
namespace Go.RX.Span
open Go Go.RX
attribute [local irreducible] sx conB

end Go.RX.Span

/- Domain maps: the reference's Blocks: blocks dealt in turn: the walk. -/
set_option linter.unusedVariables false
set_option linter.unusedSimpArgs false
set_option maxRecDepth 100000
namespace Go.RX.Span
open Go Go.RX
attribute [local irreducible] sx conB

end Go.RX.Span

/- Domain maps: the reference's Blocks: blocks dealt in turn. -/
set_option linter.unusedVariables false
set_option linter.unusedSimpArgs false
set_option maxRecDepth 100000
namespace Go.RX.Span
open Go Go.RX
attribute [local irreducible] sx conB

end Go.RX.Span

/- Domain maps: ranges of rows are right ranges; sizes of blocks. -/
set_option linter.unusedVariables false
set_option linter.unusedSimpArgs false
set_option maxRecDepth 100000
namespace Go.RX.Span
open Go Go.RX
attribute [local irreducible] sx conB

theorem rr_last {r : R3} (hr : RR r) (h1 : 1 ≤ szR r) : rA r + rC r * (szR r - 1) = rB r := by
  obtain ⟨e1, z1, z2⟩ := rr_size hr
  have hc := hr.2
  rcases hr.1.2 with ⟨h2, h3, h4⟩ | ⟨h2, h3⟩ | ⟨h2, h3, h4⟩
  · have hz : szR r = 0 := by rw [e1]; unfold ofC; rw [if_pos (by omega)]
    omega
  · have hz : szR r = 1 := by
      rw [e1]; unfold ofC; rw [if_neg (by omega), if_neg (by omega), h3, Int.ediv_one]; omega
    rw [hz]; simp; exact h2
  · have hz : szR r = (rB r - rA r) / rC r + 1 := by
      rw [e1]; unfold ofC; rw [if_neg (by omega), if_neg (by omega)]
    have hm : rC r * ((rB r - rA r) / rC r) = rB r - rA r := Int.mul_ediv_cancel_of_emod_eq_zero h4
    rw [hz, Int.add_sub_cancel, hm]; omega
theorem rr_rg {r : R3} (hr : RR r) {a b c : Int} (h0 : 0 ≤ a) (hab : a < b) (hb : b ≤ szR r) (hc : 1 ≤ c) : RR (rgR r a b c) := by
  have hl := rr_last hr (by omega)
  have hC := hr.2
  obtain ⟨⟨a1, a2, a3, a4⟩, _⟩ := hr.1
  have bd : ∀ k : Int, 0 ≤ k → k ≤ szR r - 1 → 0 ≤ rC r * k ∧ rC r * k ≤ rC r * (szR r - 1) := fun k k0 k1 => ⟨Int.mul_nonneg (by omega) k0, Int.mul_le_mul_of_nonneg_left k1 (by omega)⟩
  have b1 := bd a h0 (by omega)
  unfold rgR
  rw [if_neg (by omega)]
  by_cases g : (b - 1 - a) / c = 0
  · rw [if_pos g]
    exact ⟨⟨⟨by show -1000000 ≤ rA r + rC r * a; omega, by show rA r + rC r * a ≤ 1000000; omega, by show -1000000 ≤ rA r + rC r * a; omega, by show rA r + rC r * a ≤ 1000000; omega⟩, .inr (.inl ⟨rfl, rfl⟩)⟩, by show (0 : Int) < 1; omega⟩
  · rw [if_neg g]
    have q0 : 0 ≤ (b - 1 - a) / c := Int.ediv_nonneg (by omega) (by omega)
    have q1 : (b - 1 - a) / c * c ≤ b - 1 - a := Int.ediv_mul_le _ (by omega)
    have q2 : 0 < (b - 1 - a) / c * c := Int.mul_pos (by omega) (by omega)
    have b2 := bd (a + (b - 1 - a) / c * c) (by omega) (by omega)
    have p1 : 0 < rC r * ((b - 1 - a) / c * c) := Int.mul_pos (by omega) q2
    have e : rC r * (a + (b - 1 - a) / c * c) = rC r * a + rC r * ((b - 1 - a) / c * c) := Int.mul_add _ _ _
    have p2 : 0 < rC r * c := Int.mul_pos (by omega) (by omega)
    refine ⟨⟨⟨by show -1000000 ≤ rA r + rC r * a; omega, by show rA r + rC r * a ≤ 1000000; omega, by show -1000000 ≤ rA r + rC r * (a + (b - 1 - a) / c * c); omega, by show rA r + rC r * (a + (b - 1 - a) / c * c) ≤ 1000000; omega⟩, .inr (.inr ⟨by show rA r + rC r * a < rA r + rC r * (a + (b - 1 - a) / c * c); omega, by show rC r * c ≠ 0; omega, ?_⟩)⟩, p2⟩
    show (rA r + rC r * (a + (b - 1 - a) / c * c) - (rA r + rC r * a)) % (rC r * c) = 0
    rw [e, show rA r + (rC r * a + rC r * ((b - 1 - a) / c * c)) - (rA r + rC r * a) = rC r * ((b - 1 - a) / c * c) by omega]
    rw [show rC r * ((b - 1 - a) / c * c) = rC r * c * ((b - 1 - a) / c) by rw [Int.mul_comm ((b - 1 - a) / c) c, Int.mul_assoc]]
    exact Int.mul_emod_right _ _
theorem sz_pos {r : R3} (hr : RR r) (h : rA r ≤ rB r) : 1 ≤ szR r := by
  obtain ⟨e1, z1, z2⟩ := rr_size hr
  have hc := hr.2
  rw [e1]; unfold ofC; rw [if_neg (by omega), if_neg (by omega)]
  have := Int.ediv_nonneg (show 0 ≤ rB r - rA r by omega) (show 0 ≤ rC r by omega)
  omega
theorem rg_sz {r : R3} (hr : RR r) {a b c : Int} (h0 : 0 ≤ a) (hab : a < b) (hb : b ≤ szR r) (hc : 1 ≤ c) : 1 ≤ szR (rgR r a b c) := by
  refine sz_pos (rr_rg hr h0 hab hb hc) ?_
  have hC := hr.2
  unfold rgR
  rw [if_neg (by omega)]
  by_cases g : (b - 1 - a) / c = 0
  · rw [if_pos g]; exact Int.le_refl _
  · rw [if_neg g]
    have q0 : 0 ≤ (b - 1 - a) / c := Int.ediv_nonneg (by omega) (by omega)
    have q2 : 0 ≤ (b - 1 - a) / c * c := Int.mul_nonneg q0 (by omega)
    show rA r + rC r * a ≤ rA r + rC r * (a + (b - 1 - a) / c * c)
    have := Int.mul_le_mul_of_nonneg_left (show a ≤ a + (b - 1 - a) / c * c by omega) (show 0 ≤ rC r by omega)
    omega
end Go.RX.Span

/- Domain maps: the lists of blocks. -/
set_option linter.unusedVariables false
set_option linter.unusedSimpArgs false
set_option maxRecDepth 100000
namespace Go.RX.Span
open Go Go.RX
attribute [local irreducible] sx conB

theorem bk_sz {n : Nat} {f : Nat → R3} {k s h : Int} (hc : chD n f k s h = 0) {rg : R3} (hr : RR rg) : szE (bkD n f k s h rg) = szR rg * colD n f := by
  obtain ⟨⟨hn, hf⟩, fit⟩ := chD_zero.1 hc
  have en : 1 + (n - 1) = n := by omega
  show szD (1 + (n - 1)) (U.cat 1 (fun _ => rg) fun i => f (i + 1)) k s h = _
  rw [en]
  have e0 : U.cat 1 (fun _ => rg) (fun i => f (i + 1)) 0 = rg := (U.cat_eq _ _ _ _).trans (if_pos (by omega))
  have e1 : U.cat 1 (fun _ => rg) (fun i => f (i + 1)) 1 = f 1 := (U.cat_eq _ _ _ _).trans (if_neg (by omega))
  have hc' : chD n (U.cat 1 (fun _ => rg) fun i => f (i + 1)) k s h = 0 := chD_zero.2 ⟨⟨hn, fun i hi => by
    rcases (show i = 0 ∨ i = 1 by omega) with rfl | rfl
    · rw [e0]; exact hr
    · rw [e1]; exact hf 1 hi⟩, fit⟩
  rw [szD_right hc', e0]
  unfold colD
  rw [e1]
theorem rr_nil : RR (tr3 1 0 1) := ⟨⟨⟨by decide, by decide, by decide, by decide⟩, .inl ⟨rfl, rfl, rfl⟩⟩, by show (0 : Int) < 1; omega⟩
theorem sz_nil : szR (tr3 1 0 1) = 0 := by
  rw [(rr_size rr_nil).1]; unfold ofC
  exact if_pos (show (1 : Int) > 0 by omega)
section
variable {n : Nat} {f : Nat → R3} {k s h a b c : Int} (hc : chD n f k s h = 0)
include hc
theorem bk_zero (hba : b ≤ a) : szE (bkD n f k s h (rgR (f 0) a b c)) = 0 := by
  have e : rgR (f 0) a b c = tr3 1 0 1 := by unfold rgR; rw [if_pos hba]
  rw [e, bk_sz hc rr_nil, sz_nil, Int.zero_mul]
end
end Go.RX.Span

/- Domain maps: the reference's Blocks: the ways. -/
set_option linter.unusedVariables false
set_option linter.unusedSimpArgs false
set_option maxRecDepth 100000
namespace Go.RX.Span
open Go Go.RX
attribute [local irreducible] sx conB

--%R < ↑n => < ((n : Nat) : Int)
end Go.RX.Span

/- Domain maps: the reference's Blocks says what the program's says. -/
set_option linter.unusedVariables false
set_option linter.unusedSimpArgs false
set_option maxRecDepth 100000
namespace Go.RX.Span
open Go Go.RX
attribute [local irreducible] sx conB

end Go.RX.Span

/- Domain maps: the law of blocks: what it calls. -/
set_option linter.unusedVariables false
set_option linter.unusedSimpArgs false
set_option maxRecDepth 100000
namespace Go.RX.Span
open Go Go.RX
attribute [local irreducible] sx conB

noncomputable abbrev kLb : List (Nat × Con) := [(39, c_Few), (40, c_dmCheck), (41, c_DSize), (42, c_true), (57, c_Blocks), (47, c_Part), (30, c_Equal), (63, c_DCheck), (68, c_DNth), (71, c_DPosition)] --%K
end Go.RX.Span

/- Domain maps: the rows that a block has, as rows of the domain. -/
set_option linter.unusedVariables false
set_option linter.unusedSimpArgs false
set_option maxRecDepth 100000
namespace Go.RX.Span
open Go Go.RX
attribute [local irreducible] sx conB

theorem rr_pos {r : R3} (hr : RR r) {q : Int} (h0 : 0 ≤ q) (h1 : q < szR r) : hasR r (rA r + rC r * q) = true ∧ posR r (rA r + rC r * q) = q := by
  have hl := rr_last hr (by omega)
  have hC := hr.2
  have b1 : 0 ≤ rC r * q := Int.mul_nonneg (by omega) h0
  have b2 : rC r * q ≤ rC r * (szR r - 1) := Int.mul_le_mul_of_nonneg_left (by omega) (by omega)
  have hv : hasR r (rA r + rC r * q) = true := decide_eq_true ⟨chk_zero.2 hr.1, by omega, by omega, by
    rw [show rA r + rC r * q - rA r = rC r * q by omega]; exact Int.mul_emod_right _ _⟩
  refine ⟨hv, ?_⟩
  show pos (rA r) (rB r) (rC r) (rA r + rC r * q) = q
  unfold pos
  rw [if_pos hv, if_neg (by omega), show rA r + rC r * q - rA r = rC r * q by omega]
  exact Int.mul_ediv_cancel_left q (by omega)
/-- The q-th row of a range of rows is the row a + q * c. -/
theorem rg_row {r : R3} (hr : RR r) {a b c : Int} (h0 : 0 ≤ a) (hab : a < b) (hb : b ≤ szR r) (hc : 1 ≤ c) {q : Int} (q0 : 0 ≤ q) (q1 : q < szR (rgR r a b c)) :
    rA (rgR r a b c) + rC (rgR r a b c) * q = rA r + rC r * (a + q * c) ∧ a + q * c < b := by
  have hr2 := rr_rg hr h0 hab hb hc
  have hl := rr_last hr2 (by omega)
  have hC := hr.2
  by_cases g : (b - 1 - a) / c = 0
  · have e : rgR r a b c = tr3 (rA r + rC r * a) (rA r + rC r * a) 1 := by unfold rgR; rw [if_neg (by omega), if_pos g]
    rw [e] at hl q1 ⊢
    have hl : rA r + rC r * a + 1 * (szR (tr3 (rA r + rC r * a) (rA r + rC r * a) 1) - 1) = rA r + rC r * a := hl
    obtain rfl : q = 0 := by omega
    refine ⟨?_, by omega⟩
    show rA r + rC r * a + 1 * 0 = rA r + rC r * (a + 0 * c)
    rw [Int.zero_mul, Int.add_zero]; omega
  · have e : rgR r a b c = tr3 (rA r + rC r * a) (rA r + rC r * (a + (b - 1 - a) / c * c)) (rC r * c) := by unfold rgR; rw [if_neg (by omega), if_neg g]
    rw [e] at hl q1 ⊢
    have hl : rA r + rC r * a + rC r * c * (szR (tr3 (rA r + rC r * a) (rA r + rC r * (a + (b - 1 - a) / c * c)) (rC r * c)) - 1) = rA r + rC r * (a + (b - 1 - a) / c * c) := hl
    generalize szR (tr3 (rA r + rC r * a) (rA r + rC r * (a + (b - 1 - a) / c * c)) (rC r * c)) = z at *
    have p2 : 0 < rC r * c := Int.mul_pos (by omega) (by omega)
    have e2 : rC r * (a + (b - 1 - a) / c * c) = rC r * a + rC r * c * ((b - 1 - a) / c) := by
      rw [Int.mul_add, Int.mul_assoc, Int.mul_comm c]
    have e3 : rC r * c * (z - 1) = rC r * c * ((b - 1 - a) / c) := by omega
    have e4 := Int.eq_of_mul_eq_mul_left (by omega) e3
    refine ⟨?_, ?_⟩
    · show rA r + rC r * a + rC r * c * q = rA r + rC r * (a + q * c)
      rw [Int.mul_add, Int.mul_assoc, Int.mul_comm c]; omega
    · have q2 : (b - 1 - a) / c * c ≤ b - 1 - a := Int.ediv_mul_le _ (by omega)
      have q3 : q * c ≤ (b - 1 - a) / c * c := Int.mul_le_mul_of_nonneg_right (by omega) (by omega)
      omega
end Go.RX.Span

/- Domain maps: the indices of a block, as positions of the domain. -/
set_option linter.unusedVariables false
set_option linter.unusedSimpArgs false
set_option maxRecDepth 100000
namespace Go.RX.Span
open Go Go.RX
attribute [local irreducible] sx conB

theorem bk_0 {n : Nat} {f : Nat → R3} {k s h : Int} {rg : R3} : (bkD n f k s h rg).1.2 0 = rg := (U.cat_eq _ _ _ _).trans (if_pos (by omega))
theorem bk_1 {n : Nat} {f : Nat → R3} {k s h : Int} {rg : R3} : (bkD n f k s h rg).1.2 1 = f 1 := (U.cat_eq _ _ _ _).trans (if_neg (by omega))
theorem bk_ch {n : Nat} {f : Nat → R3} {k s h : Int} (hc : chD n f k s h = 0) {rg : R3} (hr : RR rg) : chD (bkD n f k s h rg).1.1 (bkD n f k s h rg).1.2 k s h = 0 ∧ (bkD n f k s h rg).1.1 = n := by
  obtain ⟨⟨hn, hf⟩, fit⟩ := chD_zero.1 hc
  have en : 1 + (n - 1) = n := by omega
  have e : (bkD n f k s h rg).1.1 = n := en
  refine ⟨?_, e⟩
  rw [e]
  exact chD_zero.2 ⟨⟨hn, fun i hi => by
    rcases (show i = 0 ∨ i = 1 by omega) with rfl | rfl
    · rw [bk_0]; exact hr
    · rw [bk_1]; exact hf 1 hi⟩, fit⟩
end Go.RX.Span

/- Domain maps: the indices of a block, as positions of the domain: each one. -/
set_option linter.unusedVariables false
set_option linter.unusedSimpArgs false
set_option maxRecDepth 100000
namespace Go.RX.Span
open Go Go.RX
attribute [local irreducible] sx conB

/-- As many rows. -/
theorem rg_size {r : R3} (hr : RR r) {a b c : Int} (h0 : 0 ≤ a) (hab : a < b) (hb : b ≤ szR r) (hc : 1 ≤ c) : szR (rgR r a b c) = (b - 1 - a) / c + 1 := by
  have hr2 := rr_rg hr h0 hab hb hc
  have hz := rg_sz hr h0 hab hb hc
  have hl := rr_last hr2 hz
  have hC := hr.2
  by_cases g : (b - 1 - a) / c = 0
  · have e : rgR r a b c = tr3 (rA r + rC r * a) (rA r + rC r * a) 1 := by unfold rgR; rw [if_neg (by omega), if_pos g]
    rw [e] at hl ⊢
    have hl : rA r + rC r * a + 1 * (szR (tr3 (rA r + rC r * a) (rA r + rC r * a) 1) - 1) = rA r + rC r * a := hl
    rw [g]; omega
  · have e : rgR r a b c = tr3 (rA r + rC r * a) (rA r + rC r * (a + (b - 1 - a) / c * c)) (rC r * c) := by unfold rgR; rw [if_neg (by omega), if_neg g]
    rw [e] at hl ⊢
    have hl : rA r + rC r * a + rC r * c * (szR (tr3 (rA r + rC r * a) (rA r + rC r * (a + (b - 1 - a) / c * c)) (rC r * c)) - 1) = rA r + rC r * (a + (b - 1 - a) / c * c) := hl
    generalize szR (tr3 (rA r + rC r * a) (rA r + rC r * (a + (b - 1 - a) / c * c)) (rC r * c)) = z at *
    have p2 : 0 < rC r * c := Int.mul_pos (by omega) (by omega)
    have e2 : rC r * (a + (b - 1 - a) / c * c) = rC r * a + rC r * c * ((b - 1 - a) / c) := by
      rw [Int.mul_add, Int.mul_assoc, Int.mul_comm c]
    have e3 : rC r * c * (z - 1) = rC r * c * ((b - 1 - a) / c) := by omega
    have e4 := Int.eq_of_mul_eq_mul_left (by omega) e3
    omega
theorem col_eq {n : Nat} {f : Nat → R3} (d1 : DR n f) : ((colN n f : Nat) : Int) = colD n f := by
  have hn := d1.1
  unfold colN colD
  by_cases h : n = 1
  · rw [if_pos h, if_pos h]; rfl
  · rw [if_neg h, if_neg h]; exact szN_R (d1.2 1 (by omega))
theorem num_rr {r : R3} (hr : RR r) {q : Nat} (hq : (q : Int) < szR r) : num r.1 r.2.1 r.2.2.1 q = rA r + rC r * q := by
  have e := szN_R hr
  rw [← rr_nth hr (Int.natCast_nonneg q) hq]
  exact (num_all hr (by omega)).1.symm
/-- The position of the t-th index of the rows a, a + c, ... -/
def psA (n : Nat) (f : Nat → R3) (a c : Int) (t : Nat) : Int := (a + ((t / colN n f : Nat) : Int) * c) * ((colN n f : Nat) : Int) + ((t % colN n f : Nat) : Int)
section
variable {n : Nat} {f g : Nat → R3} {k s h a b c : Int}
theorem gx_at (hc : chD n f k s h = 0) (hg : chD n g k s h = 0) (e0 : g 0 = rgR (f 0) a b c) (e1 : g 1 = f 1) (h0 : 0 ≤ a) (hab : a < b) (hb : b ≤ szR (f 0)) (c1 : 1 ≤ c) {t : Nat} (ht : t < szDn n g k s h) :
    dnE n g k s h t = 0 ∧ dnN n g k s h t = n ∧ hasD n f k s h n (dnF n g t) = true ∧ posD n f k s h n (dnF n g t) = psA n f a c t ∧ a + ((t / colN n f : Nat) : Int) * c < b := by
  obtain ⟨d1, fit⟩ := chD_zero.1 hc
  have hn := d1.1
  have r0 := d1.2 0 (by omega)
  obtain ⟨y1, y2⟩ := dn_zero hg ht
  obtain ⟨i1, _, _⟩ := ix_all hg ht
  have hgr := (chD_zero.1 hg).1.2 0 (by omega)
  rw [e0] at hgr
  have hsz := ht
  rw [szDn_right hg, e1, e0] at hsz
  have zc : (if n = 1 then 1 else szN (f 1).1 (f 1).2.1 (f 1).2.2.1) = colN n f := rfl
  rw [zc] at hsz
  have hq : t / colN n f < szN (rgR (f 0) a b c).1 (rgR (f 0) a b c).2.1 (rgR (f 0) a b c).2.2.1 := Nat.div_lt_of_lt_mul (by rw [Nat.mul_comm]; exact hsz)
  have nx0 : idX n g t = num (g 0).1 (g 0).2.1 (g 0).2.2.1 (t / colN n f) := by
    unfold idX colN
    by_cases h1 : n = 1
    · rw [if_pos h1, if_pos h1, Nat.div_one]
    · rw [if_neg h1, if_neg h1, e1]
  have e9 : psA n f a c t = (a + ((t / colN n f : Nat) : Int) * c) * ((colN n f : Nat) : Int) + ((t % colN n f : Nat) : Int) := rfl
  rw [e9]
  have d9 : n = 1 → t % colN n f = 0 := fun h1 => by
    have ec : colN n f = 1 := by unfold colN; rw [if_pos h1]
    rw [ec, Nat.mod_one]
  generalize t / colN n f = qq at *
  have hq2 := szN_R hgr
  have hq3 : (qq : Int) < szR (rgR (f 0) a b c) := by omega
  obtain ⟨w1, w2⟩ := rg_row r0 h0 hab hb c1 (Int.natCast_nonneg qq) hq3
  have wm : 0 ≤ (qq : Int) * c := Int.mul_nonneg (by omega) (by omega)
  obtain ⟨p1, p2⟩ := rr_pos r0 (q := a + (qq : Int) * c) (by omega) (by omega)
  have nx : idX n g t = rA (f 0) + rC (f 0) * (a + (qq : Int) * c) := by
    rw [nx0, e0, num_rr hgr hq3]; exact w1
  have n0 : (dnF n g t 0).1 = rA (f 0) + rC (f 0) * (a + (qq : Int) * c) := by
    rw [i1 0 (by omega), ixF0]; exact nx
  have yy : n = 2 → hasR (f 1) (dnF n g t 1).1 = true ∧ posR (f 1) (dnF n g t 1).1 = ((t % colN n f : Nat) : Int) := fun h2 => by
    have r1 := d1.2 1 (by omega)
    have ec : colN n f = szN (f 1).1 (f 1).2.1 (f 1).2.2.1 := by unfold colN; rw [if_neg (by omega)]
    have hpos : 0 < szN (f 1).1 (f 1).2.1 (f 1).2.2.1 := Nat.pos_of_ne_zero fun w => by
      rw [ec, w, Nat.mul_zero] at hsz; omega
    obtain ⟨_, m2, m3⟩ := num_all r1 (Nat.mod_lt t hpos)
    have ny : (dnF n g t 1).1 = num (f 1).1 (f 1).2.1 (f 1).2.2.1 (t % szN (f 1).1 (f 1).2.1 (f 1).2.2.1) := by
      rw [i1 1 (by omega), ixF1]
      show idY n g t = _
      unfold idY; rw [if_neg (by omega), e1]
    rw [ny, ec]; exact ⟨m2, m3⟩
  obtain ⟨q1, q2⟩ := hasD_t (n := n) (f := f) (k := k) (s := s) (h := h) (m := n) (e := dnF n g t) ⟨hc, rfl, by rw [n0]; exact p1, fun h2 => (yy h2).1⟩
  refine ⟨y1, y2, q1, ?_, w2⟩
  rw [q2, n0, p2]
  by_cases h1 : n = 1
  · have ec : colN n f = 1 := by unfold colN; rw [if_pos h1]
    rw [if_pos h1, d9 h1, ec]; simp
  · have h2 : n = 2 := by omega
    rw [if_neg h1, (yy h2).2, col_eq d1]
    unfold colD; rw [if_neg h1]
end
end Go.RX.Span

/- Domain maps: the positions of blocks, in order, as lists. -/
set_option linter.unusedVariables false
set_option linter.unusedSimpArgs false
set_option maxRecDepth 100000
namespace Go.RX.Span
open Go Go.RX
attribute [local irreducible] sx conB

/-- As many indices of a block, and the position of the t-th one. -/
noncomputable def szB (b : DE) : Nat := szDn b.1.1 b.1.2 b.2.1 b.2.2.1 b.2.2.2.1
noncomputable def psB (n : Nat) (f : Nat → R3) (k s h : Int) (b : DE) (t : Nat) : Nat := (posD n f k s h (dnN b.1.1 b.1.2 b.2.1 b.2.2.1 b.2.2.2.1 t) (dnF b.1.1 b.1.2 t)).toNat
noncomputable def pbL (n : Nat) (f : Nat → R3) (k s h : Int) (b : DE) : List Nat := (List.range (szB b)).map (psB n f k s h b)
/-- Of the first so many blocks. -/
noncomputable def sqL (n : Nat) (f : Nat → R3) (k s h : Int) (G : Nat → DE) : Nat → List Nat
  | 0 => []
  | j + 1 => sqL n f k s h G j ++ pbL n f k s h (G j)
section
variable {n : Nat} {f : Nat → R3} {k s h a b c : Int}
theorem sqL_congr {G G' : Nat → DE} : ∀ {j : Nat}, (∀ i, i < j → G i = G' i) → sqL n f k s h G j = sqL n f k s h G' j
  | 0, _ => rfl
  | j + 1, he => by
    show sqL n f k s h G j ++ pbL n f k s h (G j) = sqL n f k s h G' j ++ pbL n f k s h (G' j)
    rw [sqL_congr fun i hi => he i (by omega), he j (by omega)]
theorem sq_bk {F : Nat → R3} : ∀ m, sqL n f k s h (bkG n f k s h F m) (bkN n f k s h F m) = sqL n f k s h (fun i => bkD n f k s h (F i)) m
  | 0 => rfl
  | m + 1 => by
    by_cases g : 0 < szE (bkD n f k s h (F m))
    · obtain ⟨y1, y2⟩ := bkL_yes g
      rw [y1]
      show sqL n f k s h _ _ ++ pbL n f k s h _ = _ ++ _
      rw [← sq_bk m, y2]
      refine congr (congrArg _ (sqL_congr fun i hi => (U.cat_eq _ _ _ _).trans (if_pos hi))) (congrArg _ ((U.cat_eq _ _ _ _).trans (if_neg (by omega))))
    · obtain ⟨y1, y2⟩ := bkL_no g
      rw [y1, y2, sq_bk m]
      have ez : szB (bkD n f k s h (F m)) = 0 := by
        show (szE (bkD n f k s h (F m))).toNat = 0
        omega
      show _ = _ ++ pbL n f k s h (bkD n f k s h (F m))
      unfold pbL
      rw [ez]; simp
theorem bk_at (hc : chD n f k s h = 0) (h0 : 0 ≤ a) (hab : a < b) (hb : b ≤ szR (f 0)) (c1 : 1 ≤ c) {t : Nat} (ht : t < szB (bkD n f k s h (rgR (f 0) a b c))) :
    dnE (bkD n f k s h (rgR (f 0) a b c)).1.1 (bkD n f k s h (rgR (f 0) a b c)).1.2 k s h t = 0 ∧ dnN (bkD n f k s h (rgR (f 0) a b c)).1.1 (bkD n f k s h (rgR (f 0) a b c)).1.2 k s h t = n ∧
    hasD n f k s h n (dnF (bkD n f k s h (rgR (f 0) a b c)).1.1 (bkD n f k s h (rgR (f 0) a b c)).1.2 t) = true ∧ posD n f k s h n (dnF (bkD n f k s h (rgR (f 0) a b c)).1.1 (bkD n f k s h (rgR (f 0) a b c)).1.2 t) = psA n f a c t ∧ a + ((t / colN n f : Nat) : Int) * c < b ∧
    psB n f k s h (bkD n f k s h (rgR (f 0) a b c)) t = (psA n f a c t).toNat := by
  obtain ⟨d1, fit⟩ := chD_zero.1 hc
  have hn := d1.1
  have r0 := d1.2 0 (by omega)
  obtain ⟨hg, en⟩ := bk_ch hc (rr_rg r0 h0 hab hb c1)
  have ht' : t < szDn (bkD n f k s h (rgR (f 0) a b c)).1.1 (bkD n f k s h (rgR (f 0) a b c)).1.2 k s h := ht
  rw [en] at hg ht'
  obtain ⟨y1, y2, y3, y4, y5⟩ := gx_at hc hg bk_0 bk_1 h0 hab hb c1 ht'
  refine ⟨by rw [en]; exact y1, by rw [en]; exact y2, by rw [en]; exact y3, by rw [en]; exact y4, y5, ?_⟩
  show (posD n f k s h (dnN (bkD n f k s h (rgR (f 0) a b c)).1.1 (bkD n f k s h (rgR (f 0) a b c)).1.2 k s h t) (dnF (bkD n f k s h (rgR (f 0) a b c)).1.1 (bkD n f k s h (rgR (f 0) a b c)).1.2 t)).toNat = _
  rw [en, y2, y4]
theorem bk_count (hc : chD n f k s h = 0) (h0 : 0 ≤ a) (hab : a < b) (hb : b ≤ szR (f 0)) (c1 : 1 ≤ c) : ((szB (bkD n f k s h (rgR (f 0) a b c)) : Nat) : Int) = ((b - 1 - a) / c + 1) * ((colN n f : Nat) : Int) := by
  obtain ⟨d1, fit⟩ := chD_zero.1 hc
  have hn := d1.1
  have r0 := d1.2 0 (by omega)
  have e : ((szB (bkD n f k s h (rgR (f 0) a b c)) : Nat) : Int) = ((szE (bkD n f k s h (rgR (f 0) a b c))).toNat : Int) := rfl
  have cp := (dr_col d1).1
  have q0 : 0 ≤ (b - 1 - a) / c := Int.ediv_nonneg (by omega) (by omega)
  have hm : 0 ≤ ((b - 1 - a) / c + 1) * colD n f := Int.mul_nonneg (by omega) cp
  rw [e, bk_sz hc (rr_rg r0 h0 hab hb c1), rg_size r0 h0 hab hb c1, col_eq d1]
  omega
/-- Whether a position is that of an index of the block. -/
theorem mem_pb (hc : chD n f k s h = 0) (h0 : 0 ≤ a) (hb : b ≤ szR (f 0)) (c1 : 1 ≤ c) {p : Nat} :
    p ∈ pbL n f k s h (bkD n f k s h (rgR (f 0) a b c)) ↔ p < szDn n f k s h ∧ a ≤ ((p / colN n f : Nat) : Int) ∧ ((p / colN n f : Nat) : Int) < b ∧ (((p / colN n f : Nat) : Int) - a) % c = 0 := by
  obtain ⟨d1, fit⟩ := chD_zero.1 hc
  have hn := d1.1
  have r0 := d1.2 0 (by omega)
  rcases Int.lt_or_le a b with hab | hba
  rotate_left
  · have ez : szB (bkD n f k s h (rgR (f 0) a b c)) = 0 := by
      show (szE (bkD n f k s h (rgR (f 0) a b c))).toNat = 0
      rw [bk_zero hc hba]; rfl
    unfold pbL
    rw [ez]
    constructor
    · intro g; simp at g
    · intro g; omega
  have cnt := bk_count hc h0 hab hb c1
  have szd : szDn n f k s h = szN (f 0).1 (f 0).2.1 (f 0).2.2.1 * colN n f := szDn_right hc
  have sz0 := szN_R r0
  have q0 : 0 ≤ (b - 1 - a) / c := Int.ediv_nonneg (by omega) (by omega)
  unfold pbL
  rw [List.mem_map]
  constructor
  · rintro ⟨t, ht, rfl⟩
    have ht := List.mem_range.1 ht
    obtain ⟨_, _, _, _, y5, y6⟩ := bk_at hc h0 hab hb c1 ht
    have hcol : 0 < colN n f := Nat.pos_of_ne_zero fun w => by rw [w] at cnt; simp at cnt; omega
    have hm := Nat.mod_lt t hcol
    have wm : 0 ≤ ((t / colN n f : Nat) : Int) * c := Int.mul_nonneg (Int.natCast_nonneg _) (by omega)
    obtain ⟨R, hR⟩ : ∃ R : Nat, (R : Int) = a + ((t / colN n f : Nat) : Int) * c := ⟨(a + ((t / colN n f : Nat) : Int) * c).toNat, by omega⟩
    have e : psB n f k s h (bkD n f k s h (rgR (f 0) a b c)) t = colN n f * R + t % colN n f := by
      rw [y6]; unfold psA
      rw [← hR, ← Int.natCast_mul, ← Int.natCast_add, Int.toNat_natCast, Nat.mul_comm]
    have ed : psB n f k s h (bkD n f k s h (rgR (f 0) a b c)) t / colN n f = R := by
      rw [e, Nat.mul_add_div hcol, Nat.div_eq_of_lt hm]; omega
    rw [ed]
    refine ⟨?_, by omega, by omega, ?_⟩
    · rw [e, szd, Nat.mul_comm]
      have : (R + 1) * colN n f ≤ szN (f 0).1 (f 0).2.1 (f 0).2.2.1 * colN n f := Nat.mul_le_mul_right _ (by omega)
      rw [Nat.add_mul] at this
      omega
    · rw [hR, show a + ((t / colN n f : Nat) : Int) * c - a = ((t / colN n f : Nat) : Int) * c by omega]
      exact Int.mul_emod_left _ _
  · rintro ⟨hp, g1, g2, g3⟩
    have hcol : 0 < colN n f := Nat.pos_of_ne_zero fun w => by rw [szd, w, Nat.mul_zero] at hp; omega
    obtain ⟨q, hq⟩ : ∃ q : Nat, ((p / colN n f : Nat) : Int) = a + (q : Int) * c := by
      refine ⟨((((p / colN n f : Nat) : Int) - a) / c).toNat, ?_⟩
      have e1 : 0 ≤ (((p / colN n f : Nat) : Int) - a) / c := Int.ediv_nonneg (by omega) (by omega)
      have e2 := Int.mul_ediv_cancel_of_emod_eq_zero g3
      rw [Int.toNat_of_nonneg e1, Int.mul_comm]; omega
    have hm := Nat.mod_lt p hcol
    have hq2 : (q : Int) ≤ (b - 1 - a) / c := (Int.le_ediv_iff_mul_le (by omega)).2 (by omega)
    have ht : colN n f * q + p % colN n f < szB (bkD n f k s h (rgR (f 0) a b c)) := by
      obtain ⟨Q, hQ⟩ : ∃ Q : Nat, (Q : Int) = (b - 1 - a) / c := ⟨((b - 1 - a) / c).toNat, by omega⟩
      rw [← hQ] at cnt hq2
      have : ((szB (bkD n f k s h (rgR (f 0) a b c)) : Nat) : Int) = (((Q + 1) * colN n f : Nat) : Int) := by rw [cnt, Int.natCast_mul]; rfl
      have e3 : szB (bkD n f k s h (rgR (f 0) a b c)) = (Q + 1) * colN n f := by omega
      have e4 : (q + 1) * colN n f ≤ (Q + 1) * colN n f := Nat.mul_le_mul_right _ (by omega)
      rw [e3, Nat.mul_comm (colN n f) q]
      rw [Nat.add_mul] at e4
      omega
    refine ⟨colN n f * q + p % colN n f, List.mem_range.2 ht, ?_⟩
    obtain ⟨_, _, _, _, _, y6⟩ := bk_at hc h0 hab hb c1 ht
    rw [y6]; unfold psA
    have ed : (colN n f * q + p % colN n f) / colN n f = q := by rw [Nat.mul_add_div hcol, Nat.div_eq_of_lt hm]; omega
    have em : (colN n f * q + p % colN n f) % colN n f = p % colN n f := by rw [Nat.mul_add_mod, Nat.mod_mod]
    rw [ed, em, ← hq, ← Int.natCast_mul, ← Int.natCast_add, Int.toNat_natCast, Nat.mul_comm]
    exact Nat.div_add_mod p _
theorem psA_lt (h0 : 0 ≤ a) (c1 : 1 ≤ c) {t u : Nat} (hcol : 0 < colN n f) (h : t < u) : 0 ≤ psA n f a c t ∧ psA n f a c t < psA n f a c u := by
  unfold psA
  have hm := Nat.mod_lt t hcol
  have wm : 0 ≤ ((t / colN n f : Nat) : Int) * c := Int.mul_nonneg (Int.natCast_nonneg _) (by omega)
  have w0 : 0 ≤ (a + ((t / colN n f : Nat) : Int) * c) * ((colN n f : Nat) : Int) := Int.mul_nonneg (by omega) (by omega)
  refine ⟨by omega, ?_⟩
  have hle : t / colN n f ≤ u / colN n f := Nat.div_le_div_right (by omega)
  by_cases e : t / colN n f = u / colN n f
  · have d1 := Nat.div_add_mod t (colN n f)
    have d2 := Nat.div_add_mod u (colN n f)
    rw [e] at d1 ⊢
    omega
  · have w1 : ((t / colN n f : Nat) : Int) * c + 1 * c ≤ ((u / colN n f : Nat) : Int) * c := by
      rw [← Int.add_mul]; exact Int.mul_le_mul_of_nonneg_right (by omega) (by omega)
    have w2 : (a + ((t / colN n f : Nat) : Int) * c + 1) * ((colN n f : Nat) : Int) ≤ (a + ((u / colN n f : Nat) : Int) * c) * ((colN n f : Nat) : Int) := Int.mul_le_mul_of_nonneg_right (by omega) (by omega)
    rw [Int.add_mul _ 1] at w2
    omega
theorem pw_pb (hc : chD n f k s h = 0) (h0 : 0 ≤ a) (hb : b ≤ szR (f 0)) (c1 : 1 ≤ c) : (pbL n f k s h (bkD n f k s h (rgR (f 0) a b c))).Pairwise (· < ·) := by
  rcases Int.lt_or_le a b with hab | hba
  rotate_left
  · have ez : szB (bkD n f k s h (rgR (f 0) a b c)) = 0 := by
      show (szE (bkD n f k s h (rgR (f 0) a b c))).toNat = 0
      rw [bk_zero hc hba]; rfl
    unfold pbL
    rw [ez]
    exact List.Pairwise.nil
  have cnt := bk_count hc h0 hab hb c1
  rw [List.pairwise_iff_getElem]
  intro i j hi hj hij
  have ei : i < szB (bkD n f k s h (rgR (f 0) a b c)) := by simpa [pbL] using hi
  have ej : j < szB (bkD n f k s h (rgR (f 0) a b c)) := by simpa [pbL] using hj
  have hcol : 0 < colN n f := Nat.pos_of_ne_zero fun w => by rw [w] at cnt; simp at cnt; omega
  have yi := (bk_at hc h0 hab hb c1 ei).2.2.2.2.2
  have yj := (bk_at hc h0 hab hb c1 ej).2.2.2.2.2
  obtain ⟨z1, z2⟩ := psA_lt (n := n) (f := f) h0 c1 hcol hij
  simp only [pbL, List.getElem_map, List.getElem_range, yi, yj]
  omega
end
theorem sorted_eq : ∀ {l m : List Nat}, l.Pairwise (· < ·) → m.Pairwise (· < ·) → (∀ x, x ∈ l ↔ x ∈ m) → l = m
  | [], [], _, _, _ => rfl
  | [], y :: m, _, _, h => absurd ((h y).2 List.mem_cons_self) List.not_mem_nil
  | x :: l, [], _, _, h => absurd ((h x).1 List.mem_cons_self) List.not_mem_nil
  | x :: l, y :: m, hl, hm, h => by
    obtain ⟨l1, l2⟩ := List.pairwise_cons.1 hl
    obtain ⟨m1, m2⟩ := List.pairwise_cons.1 hm
    have e : x = y := by
      rcases List.mem_cons.1 ((h x).1 List.mem_cons_self) with e | e
      · exact e
      · rcases List.mem_cons.1 ((h y).2 List.mem_cons_self) with g | g
        · exact g.symm
        · have := l1 y g; have := m1 x e; omega
    subst e
    refine congrArg _ (sorted_eq l2 m2 fun z => ⟨fun hz => ?_, fun hz => ?_⟩)
    · rcases List.mem_cons.1 ((h z).1 (List.mem_cons_of_mem _ hz)) with e | e
      · have := l1 z hz; omega
      · exact e
    · rcases List.mem_cons.1 ((h z).2 (List.mem_cons_of_mem _ hz)) with e | e
      · have := m1 z hz; omega
      · exact e
end Go.RX.Span

/- Domain maps: the positions of the blocks of a locale are its part. -/
set_option linter.unusedVariables false
set_option linter.unusedSimpArgs false
set_option maxRecDepth 100000
namespace Go.RX.Span
open Go Go.RX
attribute [local irreducible] sx conB

def rwA (x L s l k : Int) (j : Nat) : Int := if k = 0 then 0 else if k = 1 then loB x L l else if k = 2 then l else l * s + j * (L * s)
def rwB (x L s l k : Int) (j : Nat) : Int := if k = 0 then x else if k = 1 then loB x L (l + 1) else if k = 2 then x else min (l * s + j * (L * s) + s) x
def rwC (L k : Int) : Int := if k = 2 then L else 1
section
variable {n : Nat} {f : Nat → R3} {k s h L l : Int}
theorem rw_abc (j : Nat) : rwF n f k s h L l j = rgR (f 0) (rwA (szR (f 0)) L s l k j) (rwB (szR (f 0)) L s l k j) (rwC L k) := by
  unfold rwF rwA rwB rwC
  by_cases h0 : k = 0
  · rw [if_pos h0, if_pos h0, if_pos h0, if_neg (by omega)]
  rw [if_neg h0, if_neg h0, if_neg h0]
  by_cases h1 : k = 1
  · rw [if_pos h1, if_pos h1, if_pos h1, if_neg (by omega)]
  rw [if_neg h1, if_neg h1, if_neg h1]
  by_cases h2 : k = 2
  · rw [if_pos h2, if_pos h2, if_pos h2, if_pos h2]
  rw [if_neg h2, if_neg h2, if_neg h2, if_neg h2]
  rfl
theorem rw_bnd (ra : RwAsk n f k s h L l) (j : Nat) : 0 ≤ rwA (szR (f 0)) L s l k j ∧ rwB (szR (f 0)) L s l k j ≤ szR (f 0) ∧ 1 ≤ rwC L k := by
  obtain ⟨hd, k4, l0, l1⟩ := ra
  obtain ⟨L1, L8, hc, hl⟩ := dmE_zero.1 hd
  obtain ⟨d1, fit⟩ := chD_zero.1 hc
  have hn := d1.1
  have r0 : RR (f 0) := d1.2 0 (by omega)
  obtain ⟨_, x0, x1⟩ := rr_size r0
  obtain ⟨b1, b2⟩ := loB_bnd (L := L) x0 l0 (by omega) L1
  obtain ⟨b3, b4⟩ := loB_bnd (L := L) (l := l + 1) x0 (by omega) (by omega) L1
  unfold rwA rwB rwC
  rcases fit_k fit with hk | hk | hk | ⟨hk, s1, s2⟩ | hk
  · rw [if_pos hk, if_pos hk, if_neg (by omega)]; omega
  · rw [if_neg (by omega), if_pos hk, if_neg (by omega), if_pos hk, if_neg (by omega)]; omega
  · rw [if_neg (by omega), if_neg (by omega), if_pos hk, if_neg (by omega), if_neg (by omega), if_pos hk, if_pos hk]; omega
  · have p1 : 0 ≤ l * s := Int.mul_nonneg l0 (by omega)
    have p2 : 0 ≤ (j : Int) * (L * s) := Int.mul_nonneg (by omega) (Int.mul_nonneg (by omega) (by omega))
    rw [if_neg (by omega), if_neg (by omega), if_neg (by omega), if_neg (by omega), if_neg (by omega), if_neg (by omega), if_neg (by omega)]; omega
  · omega
/-- Rows of a block stand ahead of those of the next ones. -/
theorem rw_next (ra : RwAsk n f k s h L l) {i j : Nat} (hij : i < j) (hj : j < rwN n f k s h L l) : rwB (szR (f 0)) L s l k i ≤ rwA (szR (f 0)) L s l k j := by
  obtain ⟨hd, k4, l0, l1⟩ := ra
  obtain ⟨L1, L8, hc, hl⟩ := dmE_zero.1 hd
  obtain ⟨d1, fit⟩ := chD_zero.1 hc
  unfold rwN at hj
  unfold rwA rwB
  rcases fit_k fit with hk | hk | hk | ⟨hk, s1, s2⟩ | hk
  · rw [if_pos hk] at hj; split at hj <;> omega
  · rw [if_neg (by omega), if_pos (.inl hk)] at hj; omega
  · rw [if_neg (by omega), if_pos (.inr hk)] at hj; omega
  · rw [if_neg (by omega), if_neg (by omega), if_neg (by omega), if_neg (by omega), if_neg (by omega), if_neg (by omega)]
    have p1 : ((i : Int) + 1) * (L * s) ≤ (j : Int) * (L * s) := Int.mul_le_mul_of_nonneg_right (by omega) (Int.mul_nonneg (by omega) (by omega))
    rw [Int.add_mul, Int.one_mul] at p1
    have p2 : 1 * s ≤ L * s := Int.mul_le_mul_of_nonneg_right L1 (by omega)
    omega
  · omega
theorem div_is {q w s : Int} (hs : 0 < s) : q / s = w ↔ w * s ≤ q ∧ q < w * s + s := by
  have a := Int.le_ediv_iff_mul_le (a := w) (b := q) hs
  have b := Int.ediv_lt_iff_lt_mul (a := q) (b := w + 1) hs
  rw [Int.add_mul, Int.one_mul] at b
  omega
/-- A row is of the locale if one of its blocks has it. -/
theorem ow_row (ra : RwAsk n f k s h L l) {q : Int} (q0 : 0 ≤ q) (q1 : q < szR (f 0)) (e : Nat → R1) :
    owQ n f k s h L q e = l ↔ ∃ j, j < rwN n f k s h L l ∧ rwA (szR (f 0)) L s l k j ≤ q ∧ q < rwB (szR (f 0)) L s l k j ∧ (q - rwA (szR (f 0)) L s l k j) % rwC L k = 0 := by
  obtain ⟨hd, k4, l0, l1⟩ := ra
  obtain ⟨L1, L8, hc, hl⟩ := dmE_zero.1 hd
  obtain ⟨d1, fit⟩ := chD_zero.1 hc
  have hn := d1.1
  have r0 : RR (f 0) := d1.2 0 (by omega)
  obtain ⟨_, x0, x1⟩ := rr_size r0
  rcases fit_k fit with hk | hk | hk | ⟨hk, s1, s2⟩ | hk
  · have eA : ∀ j, rwA (szR (f 0)) L s l k j = 0 := fun j => by unfold rwA; rw [if_pos hk]
    have eB : ∀ j, rwB (szR (f 0)) L s l k j = szR (f 0) := fun j => by unfold rwB; rw [if_pos hk]
    have eC : rwC L k = 1 := by unfold rwC; rw [if_neg (by omega)]
    rw [ow_0 hk]
    simp only [eA, eB, eC, Int.emod_one, and_true]
    unfold rwN
    rw [if_pos hk]
    constructor
    · intro g; exact ⟨0, by rw [if_pos g.symm]; omega, q0, q1⟩
    · rintro ⟨j, g, _⟩
      split at g
      · omega
      · omega
  · have eA : ∀ j, rwA (szR (f 0)) L s l k j = loB (szR (f 0)) L l := fun j => by unfold rwA; rw [if_neg (by omega), if_pos hk]
    have eB : ∀ j, rwB (szR (f 0)) L s l k j = loB (szR (f 0)) L (l + 1) := fun j => by unfold rwB; rw [if_neg (by omega), if_pos hk]
    have eC : rwC L k = 1 := by unfold rwC; rw [if_neg (by omega)]
    have hm : 0 ≤ q * L := Int.mul_nonneg q0 (by omega)
    have eo : owQ n f k s h L q e = q * L / szR (f 0) := by
      unfold owQ
      rw [if_neg (by omega), if_pos hk, Int.tdiv_eq_ediv_of_nonneg hm]
    have i1 := lo_iff (x := szR (f 0)) (L := L) (l := l) (i := q) (by omega) L1
    have i2 := lo_iff (x := szR (f 0)) (L := L) (l := l + 1) (i := q) (by omega) L1
    rw [eo]
    simp only [eA, eB, eC, Int.emod_one, and_true]
    have en : rwN n f k s h L l = 1 := by unfold rwN; rw [if_neg (by omega), if_pos (.inl hk)]
    rw [en]
    constructor
    · intro g; exact ⟨0, by omega, by omega, by omega⟩
    · rintro ⟨j, _, g1, g2⟩; omega
  · have eA : ∀ j, rwA (szR (f 0)) L s l k j = l := fun j => by unfold rwA; rw [if_neg (by omega), if_neg (by omega), if_pos hk]
    have eB : ∀ j, rwB (szR (f 0)) L s l k j = szR (f 0) := fun j => by unfold rwB; rw [if_neg (by omega), if_neg (by omega), if_pos hk]
    have eC : rwC L k = L := by unfold rwC; rw [if_pos hk]
    have eo : owQ n f k s h L q e = q % L := by
      unfold owQ
      rw [if_neg (by omega), if_neg (by omega), if_pos hk, Int.tmod_eq_emod_of_nonneg q0]
    rw [eo]
    simp only [eA, eB, eC]
    have en : rwN n f k s h L l = 1 := by unfold rwN; rw [if_neg (by omega), if_pos (.inr hk)]
    rw [en]
    constructor
    · intro g
      have e1 := Int.mul_ediv_add_emod q L
      have e2 : 0 ≤ L * (q / L) := Int.mul_nonneg (by omega) (Int.ediv_nonneg q0 (by omega))
      refine ⟨0, by omega, by omega, q1, ?_⟩
      rw [show q - l = L * (q / L) by omega]
      exact Int.mul_emod_right _ _
    · rintro ⟨j, _, g1, g2, g3⟩
      have e1 := Int.mul_ediv_cancel_of_emod_eq_zero g3
      rw [show q = l + L * ((q - l) / L) by omega, Int.add_mul_emod_self_left]
      exact Int.emod_eq_of_lt l0 l1
  · have eA : ∀ j, rwA (szR (f 0)) L s l k j = l * s + j * (L * s) := fun j => by unfold rwA; rw [if_neg (by omega), if_neg (by omega), if_neg (by omega)]
    have eB : ∀ j, rwB (szR (f 0)) L s l k j = min (l * s + j * (L * s) + s) (szR (f 0)) := fun j => by unfold rwB; rw [if_neg (by omega), if_neg (by omega), if_neg (by omega)]
    have eC : rwC L k = 1 := by unfold rwC; rw [if_neg (by omega)]
    have hw : 0 ≤ q / s := Int.ediv_nonneg q0 (by omega)
    have eo : owQ n f k s h L q e = q / s % L := by
      unfold owQ
      rw [if_neg (by omega), if_neg (by omega), if_neg (by omega), if_pos hk, Int.tdiv_eq_ediv_of_nonneg q0, Int.tmod_eq_emod_of_nonneg hw]
    rw [eo]
    simp only [eA, eB, eC, Int.emod_one, and_true]
    have en : rwN n f k s h L l = bcN (szR (f 0)) L s l := by unfold rwN; rw [if_neg (by omega), if_neg (by omega)]
    rw [en]
    have mid : ∀ j : Nat, (l + (j : Int) * L) * s = l * s + (j : Int) * (L * s) := fun j => by rw [Int.add_mul, Int.mul_assoc]
    constructor
    · intro g
      have e1 := Int.mul_ediv_add_emod (q / s) L
      have hj : 0 ≤ q / s / L := Int.ediv_nonneg hw (by omega)
      obtain ⟨j, ej⟩ : ∃ j : Nat, (j : Int) = q / s / L := ⟨(q / s / L).toNat, by omega⟩
      rw [← ej, Int.mul_comm] at e1
      have e2 := (div_is (q := q) (w := l + (j : Int) * L) (show 0 < s by omega)).1 (by omega)
      rw [mid j] at e2
      exact ⟨j, (bc_lt s1 L1).1 (by omega), e2.1, by omega⟩
    · rintro ⟨j, _, g1, g2⟩
      have e2 := (div_is (q := q) (w := l + (j : Int) * L) (show 0 < s by omega)).2 (by rw [mid j]; omega)
      rw [e2, Int.add_mul_emod_self_right]
      exact Int.emod_eq_of_lt l0 l1
  · omega
theorem owP_row (ra : RwAsk n f k s h L l) {p : Nat} (hp : p < szDn n f k s h) :
    owP n f k s h L p = l ↔ ∃ j, j < rwN n f k s h L l ∧ rwA (szR (f 0)) L s l k j ≤ ((p / colN n f : Nat) : Int) ∧ ((p / colN n f : Nat) : Int) < rwB (szR (f 0)) L s l k j ∧ (((p / colN n f : Nat) : Int) - rwA (szR (f 0)) L s l k j) % rwC L k = 0 :=
  ow_row ra (Int.natCast_nonneg _) (row_lt (dmE_zero.1 ra.1).2.2.1 hp).1 _
/-- The positions of the first so many blocks. -/
theorem mem_sq (ra : RwAsk n f k s h L l) {p : Nat} : ∀ m, p ∈ sqL n f k s h (fun i => bkD n f k s h (rwF n f k s h L l i)) m ↔
    p < szDn n f k s h ∧ ∃ j, j < m ∧ rwA (szR (f 0)) L s l k j ≤ ((p / colN n f : Nat) : Int) ∧ ((p / colN n f : Nat) : Int) < rwB (szR (f 0)) L s l k j ∧ (((p / colN n f : Nat) : Int) - rwA (szR (f 0)) L s l k j) % rwC L k = 0
  | 0 => ⟨fun g => absurd g List.not_mem_nil, fun ⟨_, j, g, _⟩ => absurd g (Nat.not_lt_zero _)⟩
  | m + 1 => by
    obtain ⟨b1, b2, b3⟩ := rw_bnd ra m
    have hc := (dmE_zero.1 ra.1).2.2.1
    have ih := mem_sq ra (p := p) m
    have hm := mem_pb hc b1 b2 b3 (p := p)
    rw [← rw_abc m] at hm
    show p ∈ _ ++ _ ↔ _
    rw [List.mem_append, ih, hm]
    constructor
    · rintro (⟨g1, j, g2, g3⟩ | ⟨g1, g2⟩)
      · exact ⟨g1, j, by omega, g3⟩
      · exact ⟨g1, m, by omega, g2⟩
    · rintro ⟨g1, j, g2, g3⟩
      by_cases e : j = m
      · subst e; exact .inr ⟨g1, g3⟩
      · exact .inl ⟨g1, j, by omega, g3⟩
theorem pw_sq (ra : RwAsk n f k s h L l) : ∀ m, m ≤ rwN n f k s h L l → (sqL n f k s h (fun i => bkD n f k s h (rwF n f k s h L l i)) m).Pairwise (· < ·)
  | 0, _ => List.Pairwise.nil
  | m + 1, hm => by
    obtain ⟨b1, b2, b3⟩ := rw_bnd ra m
    have hc := (dmE_zero.1 ra.1).2.2.1
    refine List.pairwise_append.2 ⟨pw_sq ra m (by omega), ?_, fun p hp q hq => ?_⟩
    · show (pbL n f k s h (bkD n f k s h (rwF n f k s h L l m))).Pairwise _
      rw [rw_abc m]; exact pw_pb hc b1 b2 b3
    · obtain ⟨p1, j, j1, j2, j3, _⟩ := (mem_sq ra m).1 hp
      have hq : q ∈ pbL n f k s h (bkD n f k s h (rwF n f k s h L l m)) := hq
      rw [rw_abc m] at hq
      obtain ⟨q1, q2, q3, _⟩ := (mem_pb hc b1 b2 b3).1 hq
      have := rw_next ra j1 (by omega)
      refine Classical.byContradiction fun w => ?_
      have := Nat.div_le_div_right (c := colN n f) (show q ≤ p by omega)
      omega
/-- The positions of the blocks, in order, are the part. -/
theorem sq_part (ra : RwAsk n f k s h L l) : sqL n f k s h (fun i => bkD n f k s h (rwF n f k s h L l i)) (rwN n f k s h L l) = partL n f k s h L l :=
  sorted_eq (pw_sq ra _ (Nat.le_refl _)) (partL_sorted l) fun p => by
    rw [mem_sq ra, mem_partL]
    constructor
    · rintro ⟨g1, g2⟩; exact ⟨g1, (owP_row ra g1).2 g2⟩
    · rintro ⟨g1, g2⟩; exact ⟨g1, (owP_row ra g1).1 g2⟩
theorem sq_all (ra : RwAsk n f k s h L l) : sqL n f k s h (blG n f k s h L l) (bkN n f k s h (rwF n f k s h L l) (rwN n f k s h L l)) = partL n f k s h L l := by
  rw [← sq_part ra]; exact sq_bk _
/-- Each block that is listed is rows of the domain. -/
theorem bk_is {F : Nat → R3} : ∀ {m j : Nat}, j < bkN n f k s h F m → ∃ i, i < m ∧ bkG n f k s h F m j = bkD n f k s h (F i) ∧ 0 < szE (bkD n f k s h (F i))
  | 0, j, hj => absurd hj (Nat.not_lt_zero _)
  | m + 1, j, hj => by
    by_cases g : 0 < szE (bkD n f k s h (F m))
    · obtain ⟨y1, y2⟩ := bkL_yes g
      rw [y1] at hj; rw [y2]
      by_cases e : j < bkN n f k s h F m
      · obtain ⟨i, i1, i2, i3⟩ := bk_is e
        exact ⟨i, by omega, ((U.cat_eq _ _ _ _).trans (if_pos e)).trans i2, i3⟩
      · exact ⟨m, by omega, (U.cat_eq _ _ _ _).trans (if_neg e), g⟩
    · obtain ⟨y1, y2⟩ := bkL_no g
      rw [y1] at hj; rw [y2]
      obtain ⟨i, i1, i2, i3⟩ := bk_is hj
      exact ⟨i, by omega, i2, i3⟩
theorem bl_is (ra : RwAsk n f k s h L l) {j : Nat} (hj : j < bkN n f k s h (rwF n f k s h L l) (rwN n f k s h L l)) : ∃ a b c, blG n f k s h L l j = bkD n f k s h (rgR (f 0) a b c) ∧ 0 ≤ a ∧ a < b ∧ b ≤ szR (f 0) ∧ 1 ≤ c ∧ 0 < szE (bkD n f k s h (rgR (f 0) a b c)) := by
  obtain ⟨i, i1, i2, i3⟩ := bk_is hj
  obtain ⟨b1, b2, b3⟩ := rw_bnd ra i
  have hc := (dmE_zero.1 ra.1).2.2.1
  rw [rw_abc i] at i2 i3
  refine ⟨_, _, _, i2, b1, ?_, b2, b3, i3⟩
  exact Classical.byContradiction fun w => by rw [bk_zero hc (by omega)] at i3; omega
end
end Go.RX.Span

/- Domain maps: the law of blocks: the loops' states. -/
set_option linter.unusedVariables false
set_option linter.unusedSimpArgs false
set_option maxRecDepth 100000
namespace Go.RX.Span
open Go Go.RX
attribute [local irreducible] sx conB

/-- A block: rows of the domain. -/
def IsBk (n : Nat) (f : Nat → R3) (k s h : Int) (B : DE) : Prop := ∃ a b c, B = bkD n f k s h (rgR (f 0) a b c) ∧ 0 ≤ a ∧ a < b ∧ b ≤ szR (f 0) ∧ 1 ≤ c
noncomputable def mkB (n : Nat) (f : Nat → R3) (k s h : Int) : DE := ((n, f), k, s, h, ())
noncomputable def psC (n : Nat) (f : Nat → R3) (k s h : Int) (B : DE) (N : Nat) (G : Nat → R1) : Nat → R1 := U.cat N G fun t => oneR ((psB n f k s h B t : Nat) : Int)
noncomputable def psM (B : DE) (N : Nat) : Nat := N + szB B
def PreBi (n0 n : Nat) (f : Nat → R3) (k s h : Int) (B : DE) (N : Nat) (c : Int) : Prop := n0 = 0 ∧ chD n f k s h = 0 ∧ IsBk n f k s h B ∧ c = ((szB B : Nat) : Int) ∧ N ≤ 300 ∧ szB B ≤ 300
noncomputable abbrev slBi (L l : Int) (bN : Nat) (bF : Nat → DE) (pN : Nat) (pF : Nat → R1) (u : Bool) (N : Nat) (c j i : Int) : List SV := [.lit (.int .i64 L), .ptr 0 0, .lit (.int .i64 l), .row ssD bN bF, .row [.int .i64] pN pF, .own u 1 N, .ptr 2 0, .lit (.int .i64 c), .lit (.int .i64 L), .lit (.int .i64 l), .row ssD bN bF, .lit (.int .i64 (bN : Int)), .lit (.int .i64 j), .lit (.int .i64 c), .lit (.int .i64 i)]
noncomputable abbrev memBi (n : Nat) (f : Nat → R3) (k s h : Int) (u : Bool) (N : Nat) (G : Nat → R1) (n' : Nat) (f' : Nat → R3) (k' s' h' : Int) : Mem := [boxD n f k s h, (0, some (.row u N [.int .i64] G 3)), boxD n' f' k' s' h']
noncomputable def gBi : Nat → Few → T (Ex × Few)
  | n0, ([.lit (.int .i64 L), .ptr 0 0, .lit (.int .i64 l), .row [.sl [.int .i64, .int .i64, .int .i64], .int .i64, .int .i64, .int .i64] bN bF, .row [.int .i64] pN pF, .own u b1 N, .ptr b2 0, .lit (.int .i64 c), .lit (.int .i64 L'), .lit (.int .i64 l'), .row [.sl [.int .i64, .int .i64, .int .i64], .int .i64, .int .i64, .int .i64] bN' bF', .lit (.int .i64 bN2), .lit (.int .i64 j), .lit (.int .i64 c'), .ki .i64 0],
      [(_, some (.cells [.row [.int .i64, .int .i64, .int .i64] n f, .lit (.int .i64 k), .lit (.int .i64 s), .lit (.int .i64 h)] t0)), (_, some (.row u' N' [.int .i64] G t1)), (_, some (.cells [.row [.int .i64, .int .i64, .int .i64] n' f', .lit (.int .i64 k'), .lit (.int .i64 s'), .lit (.int .i64 h')] t2))]) =>
    .ask (lk PreBi n0 n f k s h (lk mkB n' f' k' s' h') N c ∧ b1 = 1 ∧ b2 = 2 ∧ u = U.isz N ∧ L' = L ∧ l' = l ∧ bN' = bN ∧ bF' = bF ∧ bN2 = (bN : Int) ∧ c' = c ∧ u' = u ∧ N' = N ∧ t0 = 49 ∧ t1 = 3 ∧ t2 = 49)
      (.ret (.exit 4, (slBi L l bN bF pN pF (U.isz (lk psM (lk mkB n' f' k' s' h') N)) (lk psM (lk mkB n' f' k' s' h') N) c j c, memBi n f k s h (U.isz (lk psM (lk mkB n' f' k' s' h') N)) (lk psM (lk mkB n' f' k' s' h') N) (lk psC n f k s h (lk mkB n' f' k' s' h') N G) n' f' k' s' h')))
  | _, _ => .stuck 1
noncomputable abbrev LBi : Loops := [(18, .sum (few 124 [1,2,5,6,8,10,12,13,40,41,64,65,66,90,91] gBi))]
def PreBm (n0 n : Nat) (f : Nat → R3) (k s h L l : Int) (bN : Nat) (bF : Nat → DE) : Prop :=
  n0 = 0 ∧ RwAsk n f k s h L l ∧ szD n f k s h ≤ 300 ∧ bN = bkN n f k s h (rwF n f k s h L l) (rwN n f k s h L l) ∧ bF = blG n f k s h L l
noncomputable def plM (n : Nat) (f : Nat → R3) (k s h L l : Int) : Nat := (partL n f k s h L l).length
noncomputable def plF (n : Nat) (f : Nat → R3) (k s h L l : Int) : Nat → R1 := rowN (partL n f k s h L l)
noncomputable abbrev slBm (L l : Int) (bN : Nat) (bF : Nat → DE) (pN : Nat) (pF : Nat → R1) (u : Bool) (N : Nat) (j : Int) : List SV := [.lit (.int .i64 L), .ptr 0 0, .lit (.int .i64 l), .row ssD bN bF, .row [.int .i64] pN pF, .own u 1 N, .lit (.int .i64 L), .lit (.int .i64 l), .row ssD bN bF, .lit (.int .i64 (bN : Int)), .lit (.int .i64 j)]
noncomputable abbrev memBm (n : Nat) (f : Nat → R3) (k s h : Int) (u : Bool) (N : Nat) (G : Nat → R1) : Mem := [boxD n f k s h, (0, some (.row u N [.int .i64] G 3))]
noncomputable def gBm : Nat → Few → T (Ex × Few)
  | n0, ([.lit (.int .i64 L), .ptr 0 0, .lit (.int .i64 l), .row [.sl [.int .i64, .int .i64, .int .i64], .int .i64, .int .i64, .int .i64] bN bF, .row [.int .i64] pN pF, .lit (.slice none 0 0), .lit (.int .i64 L'), .lit (.int .i64 l'), .row [.sl [.int .i64, .int .i64, .int .i64], .int .i64, .int .i64, .int .i64] bN' bF', .lit (.int .i64 bN2), .ki .i64 0],
      [(_, some (.cells [.row [.int .i64, .int .i64, .int .i64] n f, .lit (.int .i64 k), .lit (.int .i64 s), .lit (.int .i64 h)] t0))]) =>
    .ask (lk PreBm n0 n f k s h L l bN bF ∧ L' = L ∧ l' = l ∧ bN' = bN ∧ bF' = bF ∧ bN2 = (bN : Int) ∧ t0 = 49)
      (.ret (.exit 2, (slBm L l bN bF pN pF (U.isz (lk plM n f k s h L l)) (lk plM n f k s h L l) (bN : Int), memBm n f k s h (U.isz (lk plM n f k s h L l)) (lk plM n f k s h L l) (lk plF n f k s h L l))))
  | _, _ => .stuck 1
noncomputable abbrev LBm : Loops := [(18, .sum (few 124 [1,2,5,6,8,10,12,13,40,41,64,65,66,90,91] gBi)), (12, .sum (few 124 [1,2,5,6,8,10,40,41,64,65,66] gBm))]
def PreBo (n0 n : Nat) (f : Nat → R3) (k s h L : Int) : Prop := n0 = 0 ∧ dmE n f k s h L = 0 ∧ szD n f k s h ≤ 300 ∧ k ≠ 4
noncomputable abbrev slBo (L i : Int) : List SV := [.lit (.int .i64 L), .ptr 0 0, .lit (.int .i64 L), .lit (.int .i64 i)]
noncomputable def gBo : Nat → Few → T (Ex × Few)
  | n0, ([.lit (.int .i64 L), .ptr 0 0, .lit (.int .i64 L'), .ki .i64 0],
      [(_, some (.cells [.row [.int .i64, .int .i64, .int .i64] n f, .lit (.int .i64 k), .lit (.int .i64 s), .lit (.int .i64 h)] t0))]) =>
    .ask (lk PreBo n0 n f k s h L ∧ L' = L ∧ t0 = 49) (.ret (.exit 0, (slBo L L, [boxD n f k s h])))
  | _, _ => .stuck 1
noncomputable abbrev EBb : Env := ⟨P, conOf kLb, scall P (conOf kLb) noLoops 10⟩
noncomputable abbrev lBb : List (Nat × Loops) := [(12, [(18, .sum (few 124 [1,2,5,6,8,10,12,13,40,41,64,65,66,90,91] gBi)), (12, .sum (few 124 [1,2,5,6,8,10,40,41,64,65,66] gBm)), (4, .sum (few 124 [1,2,40,41] gBo))])] --%K
theorem kLb_ok : ∀ p ∈ kLb, ConOK P p.1 p.2 := by
  intro p hp
  simp only [kLb, List.mem_cons, List.not_mem_nil, or_false] at hp
  rcases hp with rfl | rfl | rfl | rfl | rfl | rfl | rfl | rfl | rfl | rfl
  · exact Few_ok
  · exact dmCheck_ok
  · exact DSize_ok
  · exact awake5_ok
  · exact Blocks_ok
  · exact Part_ok
  · exact Equal_ok
  · exact DCheck_ok
  · exact DNth_ok
  · exact DPosition_ok
theorem EBb_ok : EnvOK EBb := envOK (allOK mixed kLb_ok) 10
end Go.RX.Span

/- Domain maps: the law of blocks: the walks. -/
set_option linter.unusedVariables false
set_option linter.unusedSimpArgs false
set_option maxRecDepth 100000
namespace Go.RX.Span
open Go Go.RX
attribute [local irreducible] sx conB

--%R j < ↑bN => j < ((bN : Nat) : Int)
--%R ↑bN = ↑bN => ((bN : Nat) : Int) = ((bN : Nat) : Int)
--%R ↑\(lk blN n\s+f k s h L i\) = ↑\(lk blN n\s+f k s h L\s+i\) => ((lk blN n f k s h L i : Nat) : Int) = ((lk blN n f k s h L i : Nat) : Int)
set_option maxRecDepth 100000 in
theorem t_Bi (n : Nat) (f : Nat → R3) (k s h L l : Int) (bN : Nat) (bF : Nat → DE) (pN : Nat) (pF : Nat → R1) (u : Bool) (N : Nat) (G : Nat → R1) (n' : Nat) (f' : Nat → R3) (k' s' h' : Int) (c j i : Int) : (sx EBb [] 0 (loopOf P 12 18) (mkS 124 [1,2,5,6,8,10,12,13,40,41,64,65,66,90,91] (slBi L l bN bF pN pF u N c j i), memBi n f k s h u N G n' f' k' s' h')).bind (proj 124 [1,2,5,6,8,10,12,13,40,41,64,65,66,90,91]) =
    T.br (U.lt i c) (.ask (Row64 n' f' ∧ I64 i) (.ask (Row64 n f) (.br (U.ne (lk dnE n' f' k' s' h' i) (0 : Int)) (.ret (Ex.ret, [.lit (.int .i64 L), SV.ptr (nat_lit 0) (nat_lit 0),
      .lit (.int .i64 l), .row [.sl [.int .i64, .int .i64, .int .i64], .int .i64, .int .i64, .int .i64] bN bF, .row [.int .i64] pN pF, SV.own u (nat_lit 1) N, SV.ptr (nat_lit 2) (nat_lit
      0), .lit (.int .i64 c), .lit (.int .i64 L), .lit (.int .i64 l), .row [.sl [.int .i64, .int .i64, .int .i64], .int .i64, .int .i64, .int .i64] bN bF, .lit (.int .i64 (Int.ofNat bN)),
      .lit (.int .i64 j), .lit (.int .i64 c), .lit (.int .i64 i)], [(nat_lit 0, some (Blk.cells [.row [.int .i64, .int .i64, .int .i64] n f, .lit (.int .i64 k), .lit (.int .i64 s), .lit
      (.int .i64 h)] (nat_lit 49))), (nat_lit 0, some (Blk.row u N [.int .i64] G (nat_lit 3))), (nat_lit 0, some (Blk.cells [.row [.int .i64, .int .i64, .int .i64] n' f', .lit (.int .i64
      k'), .lit (.int .i64 s'), .lit (.int .i64 h')] (nat_lit 49)))])) (.br (U.not (lk hasD n f k s h (lk dnN n' f' k' s' h' i) (lk dnF n' f' i))) (.ret (Ex.ret, [.lit (.int .i64 L),
      SV.ptr (nat_lit 0) (nat_lit 0), .lit (.int .i64 l), .row [.sl [.int .i64, .int .i64, .int .i64], .int .i64, .int .i64, .int .i64] bN bF, .row [.int .i64] pN pF, SV.own u (nat_lit 1)
      N, SV.ptr (nat_lit 2) (nat_lit 0), .lit (.int .i64 c), .lit (.int .i64 L), .lit (.int .i64 l), .row [.sl [.int .i64, .int .i64, .int .i64], .int .i64, .int .i64, .int .i64] bN bF,
      .lit (.int .i64 (Int.ofNat bN)), .lit (.int .i64 j), .lit (.int .i64 c), .lit (.int .i64 i)], [(nat_lit 0, some (Blk.cells [.row [.int .i64, .int .i64, .int .i64] n f, .lit (.int
      .i64 k), .lit (.int .i64 s), .lit (.int .i64 h)] (nat_lit 49))), (nat_lit 0, some (Blk.row u N [.int .i64] G (nat_lit 3))), (nat_lit 0, some (Blk.cells [.row [.int .i64, .int .i64,
      .int .i64] n' f', .lit (.int .i64 k'), .lit (.int .i64 s'), .lit (.int .i64 h')] (nat_lit 49)))])) (.ask ((N + (1 : Nat)) * nat_lit 8 ≤ nat_lit 140737488351232) (.ret (Ex.normal,
      [.lit (.int .i64 L), SV.ptr (nat_lit 0) (nat_lit 0), .lit (.int .i64 l), .row [.sl [.int .i64, .int .i64, .int .i64], .int .i64, .int .i64, .int .i64] bN bF, .row [.int .i64] pN pF,
      SV.own false (nat_lit 4) (N.add (nat_lit 1)), SV.ptr (nat_lit 2) (nat_lit 0), .lit (.int .i64 c), .lit (.int .i64 L), .lit (.int .i64 l), .row [.sl [.int .i64, .int .i64, .int
      .i64], .int .i64, .int .i64, .int .i64] bN bF, .lit (.int .i64 (Int.ofNat bN)), .lit (.int .i64 j), .lit (.int .i64 c), .lit (.int .i64 (U.add .i64 i (1 : Int)))], [(nat_lit 0, some
      (Blk.cells [.row [.int .i64, .int .i64, .int .i64] n f, .lit (.int .i64 k), .lit (.int .i64 s), .lit (.int .i64 h)] (nat_lit 49))), (nat_lit 1, none), (nat_lit 0, some (Blk.cells
      [.row [.int .i64, .int .i64, .int .i64] n' f', .lit (.int .i64 k'), .lit (.int .i64 s'), .lit (.int .i64 h')] (nat_lit 49))), (nat_lit 0, some (Blk.cells [.lit (.int .i64 (lk posD n
      f k s h (lk dnN n' f' k' s' h' i) (lk dnF n' f' i)))] (nat_lit 3))), (nat_lit 0, some (Blk.row false (N.add (nat_lit 1)) [.int .i64] (U.cat N G fun x => (lk posD n f k s h (lk dnN
      n' f' k' s' h' i) (lk dnF n' f' i), PUnit.unit)) (nat_lit 3)))]))))))) (.ret (Ex.exit (nat_lit 4), [.lit (.int .i64 L), SV.ptr (nat_lit 0) (nat_lit 0), .lit (.int .i64 l), .row [.sl
      [.int .i64, .int .i64, .int .i64], .int .i64, .int .i64, .int .i64] bN bF, .row [.int .i64] pN pF, SV.own u (nat_lit 1) N, SV.ptr (nat_lit 2) (nat_lit 0), .lit (.int .i64 c), .lit
      (.int .i64 L), .lit (.int .i64 l), .row [.sl [.int .i64, .int .i64, .int .i64], .int .i64, .int .i64, .int .i64] bN bF, .lit (.int .i64 (Int.ofNat bN)), .lit (.int .i64 j), .lit
      (.int .i64 c), .lit (.int .i64 i)], [(nat_lit 0, some (Blk.cells [.row [.int .i64, .int .i64, .int .i64] n f, .lit (.int .i64 k), .lit (.int .i64 s), .lit (.int .i64 h)] (nat_lit
      49))), (nat_lit 0, some (Blk.row u N [.int .i64] G (nat_lit 3))), (nat_lit 0, some (Blk.cells [.row [.int .i64, .int .i64, .int .i64] n' f', .lit (.int .i64 k'), .lit (.int .i64
      s'), .lit (.int .i64 h')] (nat_lit 49)))])) := by kernel_rfl
set_option maxRecDepth 100000 in
theorem t_Bm (n : Nat) (f : Nat → R3) (k s h L l : Int) (bN : Nat) (bF : Nat → DE) (pN : Nat) (pF : Nat → R1) (u : Bool) (N : Nat) (G : Nat → R1) (j : Int) : (sx EBb LBi 0 (loopOf P 12 12) (mkS 124 [1,2,5,6,8,10,40,41,64,65,66] (slBm L l bN bF pN pF u N j), memBm n f k s h u N G)).bind (proj 124 [1,2,5,6,8,10,40,41,64,65,66]) =
    T.br (U.lt j (Int.ofNat bN)) (.ask ((0 : Int) ≤ j ∧ j < ((bN : Nat) : Int)) (.ask (Row64 (bF (U.toNat j)).fst.1 (bF (U.toNat j)).fst.snd) (.ask (Row64 (bF (U.toNat j)).fst.1 (bF
      (U.toNat j)).fst.snd) (.br (U.ne (lk chD (bF (U.toNat j)).fst.1 (bF (U.toNat j)).fst.2 (bF (U.toNat j)).2.1 (bF (U.toNat j)).2.2.1 (bF (U.toNat j)).2.2.2.1) (0 : Int)) (.ret
      (Ex.ret, [.lit (.int .i64 L), SV.ptr (nat_lit 0) (nat_lit 0), .lit (.int .i64 l), .row [.sl [.int .i64, .int .i64, .int .i64], .int .i64, .int .i64, .int .i64] bN bF, .row [.int
      .i64] pN pF, SV.own u (nat_lit 1) N, .lit (.int .i64 L), .lit (.int .i64 l), .row [.sl [.int .i64, .int .i64, .int .i64], .int .i64, .int .i64, .int .i64] bN bF, .lit (.int .i64
      (Int.ofNat bN)), .lit (.int .i64 j)], [(nat_lit 0, some (Blk.cells [.row [.int .i64, .int .i64, .int .i64] n f, .lit (.int .i64 k), .lit (.int .i64 s), .lit (.int .i64 h)] (nat_lit
      49))), (nat_lit 0, some (Blk.row u N [.int .i64] G (nat_lit 3))), (nat_lit 1, some (Blk.cells [.row [.int .i64, .int .i64, .int .i64] (bF (U.toNat j)).fst.1 (bF (U.toNat j)).fst.2,
      .lit (.int .i64 (bF (U.toNat j)).2.1), .lit (.int .i64 (bF (U.toNat j)).2.2.1), .lit (.int .i64 (bF (U.toNat j)).2.2.2.1)] (nat_lit 49)))])) (.br (U.eq (lk szD (bF (U.toNat
      j)).fst.1 (bF (U.toNat j)).fst.2 (bF (U.toNat j)).2.1 (bF (U.toNat j)).2.2.1 (bF (U.toNat j)).2.2.2.1) (0 : Int)) (.ret (Ex.ret, [.lit (.int .i64 L), SV.ptr (nat_lit 0) (nat_lit 0),
      .lit (.int .i64 l), .row [.sl [.int .i64, .int .i64, .int .i64], .int .i64, .int .i64, .int .i64] bN bF, .row [.int .i64] pN pF, SV.own u (nat_lit 1) N, .lit (.int .i64 L), .lit
      (.int .i64 l), .row [.sl [.int .i64, .int .i64, .int .i64], .int .i64, .int .i64, .int .i64] bN bF, .lit (.int .i64 (Int.ofNat bN)), .lit (.int .i64 j)], [(nat_lit 0, some
      (Blk.cells [.row [.int .i64, .int .i64, .int .i64] n f, .lit (.int .i64 k), .lit (.int .i64 s), .lit (.int .i64 h)] (nat_lit 49))), (nat_lit 0, some (Blk.row u N [.int .i64] G
      (nat_lit 3))), (nat_lit 1, some (Blk.cells [.row [.int .i64, .int .i64, .int .i64] (bF (U.toNat j)).fst.1 (bF (U.toNat j)).fst.2, .lit (.int .i64 (bF (U.toNat j)).2.1), .lit (.int
      .i64 (bF (U.toNat j)).2.2.1), .lit (.int .i64 (bF (U.toNat j)).2.2.2.1)] (nat_lit 49)))])) (.br (U.gt (lk szD (bF (U.toNat j)).fst.1 (bF (U.toNat j)).fst.2 (bF (U.toNat j)).2.1 (bF
      (U.toNat j)).2.2.1 (bF (U.toNat j)).2.2.2.1) (300 : Int)) (.ret (Ex.ret, [.lit (.int .i64 L), SV.ptr (nat_lit 0) (nat_lit 0), .lit (.int .i64 l), .row [.sl [.int .i64, .int .i64,
      .int .i64], .int .i64, .int .i64, .int .i64] bN bF, .row [.int .i64] pN pF, SV.own u (nat_lit 1) N, .lit (.int .i64 L), .lit (.int .i64 l), .row [.sl [.int .i64, .int .i64, .int
      .i64], .int .i64, .int .i64, .int .i64] bN bF, .lit (.int .i64 (Int.ofNat bN)), .lit (.int .i64 j)], [(nat_lit 0, some (Blk.cells [.row [.int .i64, .int .i64, .int .i64] n f, .lit
      (.int .i64 k), .lit (.int .i64 s), .lit (.int .i64 h)] (nat_lit 49))), (nat_lit 0, some (Blk.row u N [.int .i64] G (nat_lit 3))), (nat_lit 1, some (Blk.cells [.row [.int .i64, .int
      .i64, .int .i64] (bF (U.toNat j)).fst.1 (bF (U.toNat j)).fst.2, .lit (.int .i64 (bF (U.toNat j)).2.1), .lit (.int .i64 (bF (U.toNat j)).2.2.1), .lit (.int .i64 (bF (U.toNat
      j)).2.2.2.1)] (nat_lit 49)))])) (.br (U.not (U.andb (U.eq (bF (U.toNat j)).2.1 k) (U.andb (U.eq (bF (U.toNat j)).2.2.1 s) (U.eq (bF (U.toNat j)).2.2.2.1 h)))) (.ret (Ex.ret, [.lit
      (.int .i64 L), SV.ptr (nat_lit 0) (nat_lit 0), .lit (.int .i64 l), .row [.sl [.int .i64, .int .i64, .int .i64], .int .i64, .int .i64, .int .i64] bN bF, .row [.int .i64] pN pF,
      SV.own u (nat_lit 1) N, .lit (.int .i64 L), .lit (.int .i64 l), .row [.sl [.int .i64, .int .i64, .int .i64], .int .i64, .int .i64, .int .i64] bN bF, .lit (.int .i64 (Int.ofNat bN)),
      .lit (.int .i64 j)], [(nat_lit 0, some (Blk.cells [.row [.int .i64, .int .i64, .int .i64] n f, .lit (.int .i64 k), .lit (.int .i64 s), .lit (.int .i64 h)] (nat_lit 49))), (nat_lit
      0, some (Blk.row u N [.int .i64] G (nat_lit 3))), (nat_lit 1, some (Blk.cells [.row [.int .i64, .int .i64, .int .i64] (bF (U.toNat j)).fst.1 (bF (U.toNat j)).fst.2, .lit (.int .i64
      (bF (U.toNat j)).2.1), .lit (.int .i64 (bF (U.toNat j)).2.2.1), .lit (.int .i64 (bF (U.toNat j)).2.2.2.1)] (nat_lit 49)))])) (.ask (lk PreBi (0 : Nat) n f k s h (lk mkB (bF (U.toNat
      j)).fst.1 (bF (U.toNat j)).fst.snd (bF (U.toNat j)).2.1 (bF (U.toNat j)).2.2.1 (bF (U.toNat j)).2.2.2.1) N (lk szD (bF (U.toNat j)).fst.1 (bF (U.toNat j)).fst.2 (bF (U.toNat j)).2.1
      (bF (U.toNat j)).2.2.1 (bF (U.toNat j)).2.2.2.1) ∧ (1 : Nat) = (1 : Nat) ∧ (2 : Nat) = (2 : Nat) ∧ u = U.isz N ∧ L = L ∧ l = l ∧ bN = bN ∧ bF = bF ∧ ((bN : Nat) : Int) = ((bN : Nat)
      : Int) ∧ lk szD (bF (U.toNat j)).fst.1 (bF (U.toNat j)).fst.2 (bF (U.toNat j)).2.1 (bF (U.toNat j)).2.2.1 (bF (U.toNat j)).2.2.2.1 = lk szD (bF (U.toNat j)).fst.1 (bF (U.toNat
      j)).fst.2 (bF (U.toNat j)).2.1 (bF (U.toNat j)).2.2.1 (bF (U.toNat j)).2.2.2.1 ∧ u = u ∧ N = N ∧ (49 : TypeId) = (49 : TypeId) ∧ (3 : TypeId) = (3 : TypeId) ∧ (49 : Nat) = (49 :
      TypeId)) (.ret (Ex.normal, [.lit (.int .i64 L), SV.ptr (nat_lit 0) (nat_lit 0), .lit (.int .i64 l), .row [.sl [.int .i64, .int .i64, .int .i64], .int .i64, .int .i64, .int .i64] bN
      bF, .row [.int .i64] pN pF, SV.own (U.isz (lk psM (lk mkB (bF (U.toNat j)).fst.1 (bF (U.toNat j)).fst.2 (bF (U.toNat j)).2.1 (bF (U.toNat j)).2.2.1 (bF (U.toNat j)).2.2.2.1) N))
      (nat_lit 1) (lk psM (lk mkB (bF (U.toNat j)).fst.1 (bF (U.toNat j)).fst.2 (bF (U.toNat j)).2.1 (bF (U.toNat j)).2.2.1 (bF (U.toNat j)).2.2.2.1) N), .lit (.int .i64 L), .lit (.int
      .i64 l), .row [.sl [.int .i64, .int .i64, .int .i64], .int .i64, .int .i64, .int .i64] bN bF, .lit (.int .i64 (Int.ofNat bN)), .lit (.int .i64 (U.add .i64 j (1 : Int)))], [(nat_lit
      1, some (Blk.cells [.row [.int .i64, .int .i64, .int .i64] n f, .lit (.int .i64 k), .lit (.int .i64 s), .lit (.int .i64 h)] (nat_lit 49))), (nat_lit 1, some (Blk.row (U.isz (lk psM
      (lk mkB (bF (U.toNat j)).fst.1 (bF (U.toNat j)).fst.2 (bF (U.toNat j)).2.1 (bF (U.toNat j)).2.2.1 (bF (U.toNat j)).2.2.2.1) N)) (lk psM (lk mkB (bF (U.toNat j)).fst.1 (bF (U.toNat
      j)).fst.2 (bF (U.toNat j)).2.1 (bF (U.toNat j)).2.2.1 (bF (U.toNat j)).2.2.2.1) N) [.int .i64] (lk psC n f k s h (lk mkB (bF (U.toNat j)).fst.1 (bF (U.toNat j)).fst.2 (bF (U.toNat
      j)).2.1 (bF (U.toNat j)).2.2.1 (bF (U.toNat j)).2.2.2.1) N G) (nat_lit 3))), (nat_lit 2, some (Blk.cells [.row [.int .i64, .int .i64, .int .i64] (bF (U.toNat j)).fst.1 (bF (U.toNat
      j)).fst.2, .lit (.int .i64 (bF (U.toNat j)).2.1), .lit (.int .i64 (bF (U.toNat j)).2.2.1), .lit (.int .i64 (bF (U.toNat j)).2.2.2.1)] (nat_lit 49)))])))))))))) (.ret (Ex.exit
      (nat_lit 2), [.lit (.int .i64 L), SV.ptr (nat_lit 0) (nat_lit 0), .lit (.int .i64 l), .row [.sl [.int .i64, .int .i64, .int .i64], .int .i64, .int .i64, .int .i64] bN bF, .row [.int
      .i64] pN pF, SV.own u (nat_lit 1) N, .lit (.int .i64 L), .lit (.int .i64 l), .row [.sl [.int .i64, .int .i64, .int .i64], .int .i64, .int .i64, .int .i64] bN bF, .lit (.int .i64
      (Int.ofNat bN)), .lit (.int .i64 j)], [(nat_lit 0, some (Blk.cells [.row [.int .i64, .int .i64, .int .i64] n f, .lit (.int .i64 k), .lit (.int .i64 s), .lit (.int .i64 h)] (nat_lit
      49))), (nat_lit 0, some (Blk.row u N [.int .i64] G (nat_lit 3)))])) := by kernel_rfl
set_option maxRecDepth 100000 in
theorem t_Bo (n : Nat) (f : Nat → R3) (k s h L : Int) (i : Int) : (sx EBb LBm 0 (loopOf P 12 4) (mkS 124 [1,2,40,41] (slBo L i), [boxD n f k s h])).bind (proj 124 [1,2,40,41]) =
    T.br (U.lt i L) (.ask (Row64 n f) (.ask (Row64 n f) (.br (U.ne (lk blE n f k s h L i) (0 : Int)) (.ret (Ex.ret, [.lit (.int .i64 L), SV.ptr (nat_lit 0) (nat_lit 0), .lit (.int .i64
      L), .lit (.int .i64 i)], [(nat_lit 0, some (Blk.cells [.row [.int .i64, .int .i64, .int .i64] n f, .lit (.int .i64 k), .lit (.int .i64 s), .lit (.int .i64 h)] (nat_lit 49)))])) (.br
      (U.ne (lk ptE n f k s h L i) (0 : Int)) (.ret (Ex.ret, [.lit (.int .i64 L), SV.ptr (nat_lit 0) (nat_lit 0), .lit (.int .i64 L), .lit (.int .i64 i)], [(nat_lit 0, some (Blk.cells
      [.row [.int .i64, .int .i64, .int .i64] n f, .lit (.int .i64 k), .lit (.int .i64 s), .lit (.int .i64 h)] (nat_lit 49)))])) (.ask (lk PreBm (0 : Nat) n f k s h L i (lk blN n f k s h
      L i) (lk blG n f k s h L i) ∧ L = L ∧ i = i ∧ lk blN n f k s h L i = lk blN n f k s h L i ∧ lk blG n f k s h L i = lk blG n f k s h L i ∧ ((lk blN n f k s h L i : Nat) : Int) = ((lk
      blN n f k s h L i : Nat) : Int) ∧ (49 : TypeId) = (49 : TypeId)) (.ask (lk plM n f k s h L i ≤ nat_lit 9223372036854775807) (.br (U.not (lk eqR (lk plM n f k s h L i) (lk plF n f k
      s h L i) (lk ptN n f k s h L i) (lk ptF n f k s h L i))) (.ret (Ex.ret, [.lit (.int .i64 L), SV.ptr (nat_lit 0) (nat_lit 0), .lit (.int .i64 L), .lit (.int .i64 i)], [(nat_lit 1,
      some (Blk.cells [.row [.int .i64, .int .i64, .int .i64] n f, .lit (.int .i64 k), .lit (.int .i64 s), .lit (.int .i64 h)] (nat_lit 49))), (nat_lit 0, some (Blk.row (U.isz (lk plM n f
      k s h L i)) (lk plM n f k s h L i) [.int .i64] (lk plF n f k s h L i) (nat_lit 3)))])) (.ret (Ex.normal, [.lit (.int .i64 L), SV.ptr (nat_lit 0) (nat_lit 0), .lit (.int .i64 L),
      .lit (.int .i64 (U.add .i64 i (1 : Int)))], [(nat_lit 1, some (Blk.cells [.row [.int .i64, .int .i64, .int .i64] n f, .lit (.int .i64 k), .lit (.int .i64 s), .lit (.int .i64 h)]
      (nat_lit 49))), (nat_lit 0, some (Blk.row (U.isz (lk plM n f k s h L i)) (lk plM n f k s h L i) [.int .i64] (lk plF n f k s h L i) (nat_lit 3)))]))))))))) (.ret (Ex.exit (nat_lit
      0), [.lit (.int .i64 L), SV.ptr (nat_lit 0) (nat_lit 0), .lit (.int .i64 L), .lit (.int .i64 i)], [(nat_lit 0, some (Blk.cells [.row [.int .i64, .int .i64, .int .i64] n f, .lit
      (.int .i64 k), .lit (.int .i64 s), .lit (.int .i64 h)] (nat_lit 49)))])) := by kernel_rfl
end Go.RX.Span

/- Domain maps: the law of blocks: the innermost loop. -/
set_option linter.unusedVariables false
set_option linter.unusedSimpArgs false
set_option maxRecDepth 100000
namespace Go.RX.Span
open Go Go.RX
attribute [local irreducible] sx conB

section
variable {n : Nat} {f : Nat → R3} {k s h : Int} {B : DE}
theorem blk_facts (hb : IsBk n f k s h B) (hc : chD n f k s h = 0) : chD B.1.1 B.1.2 B.2.1 B.2.2.1 B.2.2.2.1 = 0 ∧ Row64 B.1.1 B.1.2 ∧ B.2.1 = k ∧ B.2.2.1 = s ∧ B.2.2.2.1 = h := by
  obtain ⟨a, b, c, rfl, h0, hab, hbs, c1⟩ := hb
  obtain ⟨d1, fit⟩ := chD_zero.1 hc
  have hn := d1.1
  have r0 := d1.2 0 (by omega)
  obtain ⟨e1, _⟩ := bk_ch hc (rr_rg r0 h0 hab hbs c1)
  exact ⟨e1, dr_64 (chD_zero.1 e1).1, rfl, rfl, rfl⟩
theorem blk_at (hb : IsBk n f k s h B) (hc : chD n f k s h = 0) {t : Nat} (ht : t < szB B) : dnE B.1.1 B.1.2 B.2.1 B.2.2.1 B.2.2.2.1 t = 0 ∧ dnN B.1.1 B.1.2 B.2.1 B.2.2.1 B.2.2.2.1 t = n ∧ hasD n f k s h n (dnF B.1.1 B.1.2 t) = true ∧ posD n f k s h n (dnF B.1.1 B.1.2 t) = ((psB n f k s h B t : Nat) : Int) := by
  obtain ⟨a, b, c, rfl, h0, hab, hbs, c1⟩ := hb
  obtain ⟨y1, y2, y3, y4, _, y6⟩ := bk_at hc h0 hab hbs c1 ht
  refine ⟨y1, y2, y3, ?_⟩
  rw [y4, y6]
  have nn : 0 ≤ psA n f a c t := by
    unfold psA
    exact Int.add_nonneg (Int.mul_nonneg (Int.add_nonneg h0 (Int.mul_nonneg (Int.natCast_nonneg _) (by omega))) (Int.natCast_nonneg _)) (Int.natCast_nonneg _)
  omega
end
structure XBi where
  (n : Nat) (f : Nat → R3) (k s h L l : Int) (bN : Nat) (bF : Nat → DE) (pN : Nat) (pF : Nat → R1) (N : Nat) (G : Nat → R1) (n' : Nat) (f' : Nat → R3) (k' s' h' : Int) (j : Int) (t : Nat)
noncomputable abbrev XBi.B (q : XBi) : DE := mkB q.n' q.f' q.k' q.s' q.h'
noncomputable abbrev VBx (n : Nat) (f : Nat → R3) (k s h L l : Int) (bN : Nat) (bF : Nat → DE) (pN : Nat) (pF : Nat → R1) (M : Nat) (G : Nat → R1) (n' : Nat) (f' : Nat → R3) (k' s' h' : Int) (j c i : Int) : Few :=
  (slBi L l bN bF pN pF (U.isz M) M c j i, memBi n f k s h (U.isz M) M G n' f' k' s' h')
noncomputable abbrev VBi (q : XBi) : Few := VBx q.n q.f q.k q.s q.h q.L q.l q.bN q.bF q.pN q.pF (q.N + q.t) (psC q.n q.f q.k q.s q.h q.B q.N q.G) q.n' q.f' q.k' q.s' q.h' q.j ((szB q.B : Nat) : Int) (q.t : Int)
noncomputable def OBi (q : XBi) : Ex × Few := (.exit 4, VBx q.n q.f q.k q.s q.h q.L q.l q.bN q.bF q.pN q.pF (q.N + szB q.B) (psC q.n q.f q.k q.s q.h q.B q.N q.G) q.n' q.f' q.k' q.s' q.h' q.j ((szB q.B : Nat) : Int) ((szB q.B : Nat) : Int))
def PhiBi (n0 : Nat) (q : XBi) : Prop := n0 = 0 ∧ chD q.n q.f q.k q.s q.h = 0 ∧ IsBk q.n q.f q.k q.s q.h q.B ∧ q.N ≤ 300 ∧ szB q.B ≤ 300 ∧ q.t ≤ szB q.B
theorem slBi_rl {ρ : Ren} {b b' : Nat} {L l : Int} {bN : Nat} {bF : Nat → DE} {pN : Nat} {pF : Nat → R1} {u u' : Bool} {N N' : Nat} {c j i i' : Int} (h0 : ρ.of 0 = some 0) (h1 : u = u' ∧ N = N' ∧ ρ.of b' = some b) (h2 : ρ.of 2 = some 2) (hi : i = i') :
    RlL ρ [.lit (.int .i64 L), .ptr 0 0, .lit (.int .i64 l), .row ssD bN bF, .row [.int .i64] pN pF, .own u b N, .ptr 2 0, .lit (.int .i64 c), .lit (.int .i64 L), .lit (.int .i64 l), .row ssD bN bF, .lit (.int .i64 (bN : Int)), .lit (.int .i64 j), .lit (.int .i64 c), .lit (.int .i64 i)]
      [.lit (.int .i64 L), .ptr 0 0, .lit (.int .i64 l), .row ssD bN bF, .row [.int .i64] pN pF, .own u' b' N', .ptr 2 0, .lit (.int .i64 c), .lit (.int .i64 L), .lit (.int .i64 l), .row ssD bN bF, .lit (.int .i64 (bN : Int)), .lit (.int .i64 j), .lit (.int .i64 c), .lit (.int .i64 i')] := by
  subst hi
  exact ⟨rfl, ⟨h0, rfl⟩, rfl, ⟨rfl, ⟨eqShs_refl _, fun _ _ => rfl⟩⟩, ⟨rfl, row1H fun _ _ => rfl⟩, h1, ⟨h2, rfl⟩, rfl, rfl, rfl, ⟨rfl, ⟨eqShs_refl _, fun _ _ => rfl⟩⟩, rfl, rfl, rfl, rfl, trivial⟩
theorem roundBi (n0 : Nat) (q : XBi) (hq : PhiBi n0 q) : ((sx EBb [] n0 (loopOf P 12 18) (mkS 124 [1,2,5,6,8,10,12,13,40,41,64,65,66,90,91] (VBi q).1, (VBi q).2)).bind (proj 124 [1,2,5,6,8,10,12,13,40,41,64,65,66,90,91])).All fun r => match r.1 with
      | .normal => ∃ q', PhiBi n0 q' ∧ szB q'.B - q'.t < szB q.B - q.t ∧ Wk 124 [1,2,5,6,8,10,12,13,40,41,64,65,66,90,91] n0 r.2 (VBi q') ∧ ∀ o, o = OBi q' → o = OBi q
      | e => ∃ s, (e, s) = OBi q ∧ Wk 124 [1,2,5,6,8,10,12,13,40,41,64,65,66,90,91] n0 r.2 s := by
  obtain ⟨n, f, k, s, h, L, l, bN, bF, pN, pF, N, G, n', f', k', s', h', j, t⟩ := q
  obtain ⟨h0, hc, hb, hN, hz, ht⟩ := hq
  have ht : t ≤ szB (mkB n' f' k' s' h') := ht
  have hN : N ≤ 300 := hN
  have hz : szB (mkB n' f' k' s' h') ≤ 300 := hz
  have hc : chD n f k s h = 0 := hc
  have hb : IsBk n f k s h (mkB n' f' k' s' h') := hb
  have h0 : n0 = 0 := h0
  subst h0
  obtain ⟨b1, b2, _⟩ := blk_facts hb hc
  have b2 : Row64 n' f' := b2
  refine T.all_of_eq (t_Bi n f k s h L l bN bF pN pF (U.isz (N + t)) (N + t) (psC n f k s h (mkB n' f' k' s' h') N G) n' f' k' s' h' ((szB (mkB n' f' k' s' h') : Nat) : Int) j (t : Int)) ?_
  have e2 := add1q (j := t) (by omega)
  by_cases hlt : t < szB (mkB n' f' k' s' h')
  · obtain ⟨y1, y2, y3, y4⟩ := blk_at hb hc hlt
    have y1 : dnE n' f' k' s' h' t = 0 := y1
    have y2 : dnN n' f' k' s' h' t = n := y2
    have y3 : hasD n f k s h n (dnF n' f' t) = true := y3
    have y4 : posD n f k s h n (dnF n' f' t) = ((psB n f k s h (mkB n' f' k' s' h') t : Nat) : Int) := y4
    have iz : U.isz (N + (t + 1)) = false := by rw [U.isz_eq]; exact decide_eq_false (by omega)
    simp only [e2, lk_eq, y1, y2, y3, y4]
    refine ⟨fun _ => ⟨⟨b2, by unfold I64; omega⟩, dr_64 (chD_zero.1 hc).1, fun g => absurd rfl (U.ne_t.mp g), fun _ => ⟨fun g => absurd (U.not_t.mp g) (by decide), fun _ => ⟨?_, ?_⟩⟩⟩, fun g => absurd (U.lt_f.mp g) (by omega)⟩
    · show (N + t + 1) * 8 ≤ 140737488351232
      omega
    · refine ⟨⟨n, f, k, s, h, L, l, bN, bF, pN, pF, N, G, n', f', k', s', h', j, t + 1⟩, ⟨rfl, hc, hb, hN, hz, hlt⟩, (show szB (mkB n' f' k' s' h') - (t + 1) < szB (mkB n' f' k' s' h') - t by omega), ?_, fun o ho => ho⟩
      refine wk_of [some 0, some 4, some 2] rfl (Nat.zero_le _) (ren1z _) (slBi_rl rfl ⟨iz.symm, rfl, rfl⟩ rfl rfl) ⟨⟨rfl, ⟨rfl, sameR fun _ _ => rfl⟩, rfl, rfl, rfl, trivial⟩, ⟨rfl, iz.symm, rfl, row1H fun x hx => ?_⟩, ⟨rfl, ⟨rfl, sameR fun _ _ => rfl⟩, rfl, rfl, rfl, trivial⟩, trivial⟩
      have hx : x < N + (t + 1) := hx
      refine (U.cat_eq _ _ _ _).trans ?_
      by_cases hx' : x < N + t
      · exact if_pos hx'
      · obtain rfl : x = N + t := by omega
        refine (if_neg hx').trans ?_
        have nlt : ¬ N + t < N := by omega
        refine Eq.trans ?_ ((U.cat_eq _ _ _ _).trans (if_neg nlt)).symm
        show _ = oneR ((psB n f k s h (mkB n' f' k' s' h') (N + t - N) : Nat) : Int)
        rw [Nat.add_sub_cancel_left]; rfl
  · obtain rfl : t = szB (mkB n' f' k' s' h') := by omega
    refine ⟨fun g => absurd (U.lt_t.mp g) (by omega), fun _ => ⟨_, rfl, ?_⟩⟩
    exact wk_of [some 0, some 1, some 2] rfl (Nat.zero_le _) (ren1z _) (slBi_rl rfl ⟨rfl, rfl, rfl⟩ rfl rfl) ⟨⟨rfl, ⟨rfl, sameR fun _ _ => rfl⟩, rfl, rfl, rfl, trivial⟩, ⟨rfl, rfl, rfl, row1H fun x hx => rfl⟩, ⟨rfl, ⟨rfl, sameR fun _ _ => rfl⟩, rfl, rfl, rfl, trivial⟩, trivial⟩
theorem loopBi : LoopOK P (loopOf P 12 18) (few 124 [1,2,5,6,8,10,12,13,40,41,64,65,66,90,91] gBi) :=
  loop_few (E := EBb) mixed EBb_ok loopsOK_none 124 [1,2,5,6,8,10,12,13,40,41,64,65,66,90,91] (X := XBi) gBi (fun _ x => VBi x) PhiBi (fun q => szB q.B - q.t) (fun _ x o => o = OBi x)
    (fun n0 st r hh => by
      unfold gBi at hh
      split at hh
      · rename_i n0 L l bN bF pN pF u b1 N b2 c L' l' bN' bF' bN2 j c' e0 n f k s h t0 e1 u' N' G t1 e2 n' f' k' s' h' t2
        obtain ⟨hp, rfl, rfl, hu, rfl, rfl, rfl, rfl, rfl, rfl, rfl, rfl, rfl, rfl, rfl⟩ := (T.is_ask hh).1
        obtain rfl := T.is_ret (T.is_ask hh).2
        simp only [lk_eq] at hp
        obtain ⟨h0, hc, hb, hcc, hN, hz⟩ := hp
        subst h0 hcc hu
        have hb' : IsBk n f k s h (mkB n' f' k' s' h') := hb
        refine ⟨⟨n, f, k, s, h, L', l', bN', bF', pN, pF, N', G, n', f', k', s', h', j, 0⟩, ⟨rfl, hc, hb, hN, hz, Nat.zero_le _⟩, wk_of [some 0, some 1, some 2] rfl (Nat.zero_le _) (ren1z _) (slBi_rl rfl ⟨rfl, rfl, rfl⟩ rfl rfl) ⟨⟨rfl, ⟨rfl, sameR fun _ _ => rfl⟩, rfl, rfl, rfl, trivial⟩, ⟨rfl, rfl, rfl, row1H fun x hx => ?_⟩, ⟨rfl, ⟨rfl, sameR fun _ _ => rfl⟩, rfl, rfl, rfl, trivial⟩, trivial⟩, fun o ho => ?_⟩
        · exact ((U.cat_eq _ _ _ _).trans (if_pos hx)).symm
        · rw [ho]
          simp only [lk_eq]; rfl
      · exact hh.elim)
    roundBi
end Go.RX.Span

/- Domain maps: the law of blocks: the loops over blocks and locales. -/
set_option linter.unusedVariables false
set_option linter.unusedSimpArgs false
set_option maxRecDepth 100000
namespace Go.RX.Span
open Go Go.RX
attribute [local irreducible] sx conB

theorem rowN_cat {l m : List Nat} {g : Nat → Nat} (hg : ∀ t (h : t < m.length), m[t] = g t) : ∀ i, i < l.length + m.length → U.cat l.length (rowN l) (fun t => oneR ((g t : Nat) : Int)) i = rowN (l ++ m) i := fun i hi => by
  refine (U.cat_eq _ _ _ _).trans ?_
  by_cases h : i < l.length
  · refine (if_pos h).trans (Prod.ext ?_ rfl)
    show ((l.getD i 0 : Nat) : Int) = (((l ++ m).getD i 0 : Nat) : Int)
    rw [List.getD_eq_getElem?_getD, List.getD_eq_getElem?_getD, List.getElem?_append_left h]
  · refine (if_neg h).trans (Prod.ext ?_ rfl)
    show ((g (i - l.length) : Nat) : Int) = (((l ++ m).getD i 0 : Nat) : Int)
    rw [List.getD_eq_getElem?_getD, List.getElem?_append_right (by omega), List.getElem?_eq_getElem (by omega), hg]; rfl
section
variable {n : Nat} {f : Nat → R3} {k s h L l : Int} {G : Nat → DE}
theorem pb_len (B : DE) : (pbL n f k s h B).length = szB B := by unfold pbL; simp
theorem pb_get (B : DE) : ∀ t (ht : t < (pbL n f k s h B).length), (pbL n f k s h B)[t] = psB n f k s h B t := fun t ht => by
  simp only [pbL, List.getElem_map, List.getElem_range]
theorem sq_succ (j : Nat) : sqL n f k s h G (j + 1) = sqL n f k s h G j ++ pbL n f k s h (G j) := rfl
theorem sq_len (j : Nat) : (sqL n f k s h G (j + 1)).length = (sqL n f k s h G j).length + szB (G j) := by rw [sq_succ, List.length_append, pb_len]
theorem sq_le {i : Nat} : ∀ {j : Nat}, i ≤ j → (sqL n f k s h G i).length ≤ (sqL n f k s h G j).length
  | 0, hi => by obtain rfl : i = 0 := by omega
                exact Nat.le_refl _
  | j + 1, hi => by
    by_cases e : i = j + 1
    · subst e; exact Nat.le_refl _
    · have := sq_le (i := i) (j := j) (by omega)
      rw [sq_len]; omega
theorem sq_row (j : Nat) : ∀ i, i < (sqL n f k s h G (j + 1)).length → psC n f k s h (G j) (sqL n f k s h G j).length (rowN (sqL n f k s h G j)) i = rowN (sqL n f k s h G (j + 1)) i := fun i hi => by
  rw [sq_len, ← pb_len (n := n) (f := f) (k := k) (s := s) (h := h) (G j)] at hi
  exact rowN_cat (pb_get (G j)) i hi
end
structure XBm where
  (n : Nat) (f : Nat → R3) (k s h L l : Int) (pN : Nat) (pF : Nat → R1) (j : Nat)
noncomputable abbrev bnX (n : Nat) (f : Nat → R3) (k s h L l : Int) : Nat := bkN n f k s h (rwF n f k s h L l) (rwN n f k s h L l)
noncomputable abbrev sqX (n : Nat) (f : Nat → R3) (k s h L l : Int) (j : Nat) : List Nat := sqL n f k s h (blG n f k s h L l) j
noncomputable abbrev VBy (n : Nat) (f : Nat → R3) (k s h L l : Int) (pN : Nat) (pF : Nat → R1) (M : Nat) (G : Nat → R1) (j : Int) : Few :=
  (slBm L l (bnX n f k s h L l) (blG n f k s h L l) pN pF (U.isz M) M j, memBm n f k s h (U.isz M) M G)
noncomputable abbrev VBm (q : XBm) : Few := VBy q.n q.f q.k q.s q.h q.L q.l q.pN q.pF (sqX q.n q.f q.k q.s q.h q.L q.l q.j).length (rowN (sqX q.n q.f q.k q.s q.h q.L q.l q.j)) (q.j : Int)
noncomputable def OBm (q : XBm) : Ex × Few := (.exit 2, VBy q.n q.f q.k q.s q.h q.L q.l q.pN q.pF (plM q.n q.f q.k q.s q.h q.L q.l) (plF q.n q.f q.k q.s q.h q.L q.l) ((bnX q.n q.f q.k q.s q.h q.L q.l : Nat) : Int))
def PhiBm (n0 : Nat) (q : XBm) : Prop := n0 = 0 ∧ RwAsk q.n q.f q.k q.s q.h q.L q.l ∧ szD q.n q.f q.k q.s q.h ≤ 300 ∧ q.j ≤ bnX q.n q.f q.k q.s q.h q.L q.l
theorem slBm_rl {ρ : Ren} {b b' : Nat} {L l : Int} {bN : Nat} {bF : Nat → DE} {pN : Nat} {pF : Nat → R1} {u u' : Bool} {N N' : Nat} {i i' : Int} (h0 : ρ.of 0 = some 0) (h1 : u = u' ∧ N = N' ∧ ρ.of b' = some b) (hi : i = i') :
    RlL ρ [.lit (.int .i64 L), .ptr 0 0, .lit (.int .i64 l), .row ssD bN bF, .row [.int .i64] pN pF, .own u b N, .lit (.int .i64 L), .lit (.int .i64 l), .row ssD bN bF, .lit (.int .i64 (bN : Int)), .lit (.int .i64 i)]
      [.lit (.int .i64 L), .ptr 0 0, .lit (.int .i64 l), .row ssD bN bF, .row [.int .i64] pN pF, .own u' b' N', .lit (.int .i64 L), .lit (.int .i64 l), .row ssD bN bF, .lit (.int .i64 (bN : Int)), .lit (.int .i64 i')] := by
  subst hi
  exact ⟨rfl, ⟨h0, rfl⟩, rfl, ⟨rfl, ⟨eqShs_refl _, fun _ _ => rfl⟩⟩, ⟨rfl, row1H fun _ _ => rfl⟩, h1, rfl, rfl, ⟨rfl, ⟨eqShs_refl _, fun _ _ => rfl⟩⟩, rfl, rfl, trivial⟩
theorem bm_bnd {n : Nat} {f : Nat → R3} {k s h L l : Int} (ra : RwAsk n f k s h L l) (h3 : szD n f k s h ≤ 300) {j : Nat} (hj : j ≤ bnX n f k s h L l) : (sqX n f k s h L l j).length ≤ 300 := by
  have e1 := sq_le (n := n) (f := f) (k := k) (s := s) (h := h) (G := blG n f k s h L l) hj
  have e2 : sqL n f k s h (blG n f k s h L l) (bnX n f k s h L l) = partL n f k s h L l := sq_all ra
  have e3 := partL_len (n := n) (f := f) (k := k) (s := s) (h := h) (L := L) l
  have e4 := szD_nn (dmE_zero.1 ra.1).2.2.1
  rw [e2] at e1
  show (sqL n f k s h (blG n f k s h L l) j).length ≤ 300
  omega
theorem LBi_ok : LoopsOK P LBi (bodyOf P 12) := loopsOK_of (by kernel_rfl) fun k g hk => by
  simp only [List.mem_singleton, Prod.mk.injEq, LoopC.sum.injEq] at hk
  obtain ⟨rfl, rfl⟩ := hk
  exact loopBi
theorem LBi_sub : LoopsOK P LBi (loopOf P 12 12) := LBi_ok.sub (fun l hl => by
  rw [show loopsIn (bodyOf P 12) = loopOf P 12 4 :: loopOf P 12 12 :: loopsIn (loopOf P 12 12) by kernel_rfl]
  exact List.mem_cons_of_mem _ (List.mem_cons_of_mem _ hl)) fun l hl => by
  rw [show rangesIn (loopOf P 12 12) = [] by kernel_rfl] at hl; cases hl
theorem roundBm (n0 : Nat) (q : XBm) (hq : PhiBm n0 q) : ((sx EBb LBi n0 (loopOf P 12 12) (mkS 124 [1,2,5,6,8,10,40,41,64,65,66] (VBm q).1, (VBm q).2)).bind (proj 124 [1,2,5,6,8,10,40,41,64,65,66])).All fun r => match r.1 with
      | .normal => ∃ q', PhiBm n0 q' ∧ bnX q'.n q'.f q'.k q'.s q'.h q'.L q'.l - q'.j < bnX q.n q.f q.k q.s q.h q.L q.l - q.j ∧ Wk 124 [1,2,5,6,8,10,40,41,64,65,66] n0 r.2 (VBm q') ∧ ∀ o, o = OBm q' → o = OBm q
      | e => ∃ s, (e, s) = OBm q ∧ Wk 124 [1,2,5,6,8,10,40,41,64,65,66] n0 r.2 s := by
  obtain ⟨n, f, k, s, h, L, l, pN, pF, j⟩ := q
  obtain ⟨h0, ra, h3, hj⟩ := hq
  have hj : j ≤ bnX n f k s h L l := hj
  have ra : RwAsk n f k s h L l := ra
  have h3 : szD n f k s h ≤ 300 := h3
  have h0 : n0 = 0 := h0
  subst h0
  have hc := (dmE_zero.1 ra.1).2.2.1
  have mb := bm_bnd ra h3 hj
  have nb : bnX n f k s h L l ≤ 3000000 := Nat.le_trans (bkN_le _ _ _ _ _ _ _) (rw_ok ra).1
  refine T.all_of_eq (t_Bm n f k s h L l (bnX n f k s h L l) (blG n f k s h L l) pN pF (U.isz (sqX n f k s h L l j).length) (sqX n f k s h L l j).length (rowN (sqX n f k s h L l j)) (j : Int)) ?_
  have e2 := add1q (j := j) (by omega)
  by_cases hlt : j < bnX n f k s h L l
  · obtain ⟨a, b, c, hB, a0, hab, hbs, c1, hp⟩ := bl_is ra hlt
    have hb : IsBk n f k s h (blG n f k s h L l j) := ⟨a, b, c, hB, a0, hab, hbs, c1⟩
    have mb2 := bm_bnd ra h3 (j := j + 1) hlt
    have sl : (sqX n f k s h L l (j + 1)).length = (sqX n f k s h L l j).length + szB (blG n f k s h L l j) := sq_len (n := n) (f := f) (k := k) (s := s) (h := h) (G := blG n f k s h L l) j
    have sr := sq_row (n := n) (f := f) (k := k) (s := s) (h := h) (G := blG n f k s h L l) j
    have hp : 0 < szE (blG n f k s h L l j) := by rw [hB]; exact hp
    obtain ⟨f1, f2, f3, f4, f5⟩ := blk_facts hb hc
    have zz : ((szB (blG n f k s h L l j) : Nat) : Int) = szE (blG n f k s h L l j) := by
      show (((szE (blG n f k s h L l j)).toNat : Nat) : Int) = _
      omega
    simp only [e2, lk_eq, tnH]
    generalize blG n f k s h L l j = B at *
    have hz : szD B.1.1 B.1.2 B.2.1 B.2.2.1 B.2.2.2.1 = ((szB B : Nat) : Int) := zz.symm
    have eM : psM (mkB B.1.1 B.1.2 B.2.1 B.2.2.1 B.2.2.2.1) (sqX n f k s h L l j).length = (sqX n f k s h L l (j + 1)).length := sl.symm
    refine ⟨fun _ => ⟨⟨by omega, by omega⟩, f2, f2, fun g => absurd f1 (U.ne_t.mp g), fun _ => ⟨fun g => ?_, fun _ => ⟨fun g => ?_, fun _ => ⟨fun g => ?_, fun _ => ⟨⟨⟨rfl, hc, hb, hz, mb, ?_⟩, trivial, trivial, trivial, trivial, trivial, trivial, trivial, trivial, trivial, trivial, trivial, trivial, trivial, trivial⟩, ?_⟩⟩⟩⟩⟩, fun g => absurd (U.lt_f.mp g) (by simp only [Int.ofNat_eq_natCast]; omega)⟩
    · have := U.eq_t.mp g; omega
    · have := U.gt_t.mp g; omega
    · rw [f3, f4, f5] at g
      have := U.not_t.mp g
      simp [U.andb_eq, U.eq_eq] at this
    · show szB B ≤ 300
      omega
    · refine ⟨⟨n, f, k, s, h, L, l, pN, pF, j + 1⟩, ⟨rfl, ra, h3, hlt⟩, (show bnX n f k s h L l - (j + 1) < bnX n f k s h L l - j by omega), ?_, fun o ho => ho⟩
      exact wk_of [some 0, some 1] rfl (Nat.zero_le _) (ren1z _) (slBm_rl rfl ⟨congrArg U.isz eM, eM, rfl⟩ rfl) ⟨⟨rfl, ⟨rfl, sameR fun _ _ => rfl⟩, rfl, rfl, rfl, trivial⟩, ⟨rfl, congrArg U.isz eM, eM, row1H fun x hx => sr x hx⟩, trivial⟩
  · obtain rfl : j = bnX n f k s h L l := by omega
    have e3 : sqX n f k s h L l (bnX n f k s h L l) = partL n f k s h L l := sq_all ra
    have eM : (sqX n f k s h L l (bnX n f k s h L l)).length = plM n f k s h L l := by rw [e3]; rfl
    refine ⟨fun g => absurd (U.lt_t.mp g) (by simp only [Int.ofNat_eq_natCast]; omega), fun _ => ⟨_, rfl, ?_⟩⟩
    exact wk_of [some 0, some 1] rfl (Nat.zero_le _) (ren1z _) (slBm_rl rfl ⟨congrArg U.isz eM, eM, rfl⟩ rfl) ⟨⟨rfl, ⟨rfl, sameR fun _ _ => rfl⟩, rfl, rfl, rfl, trivial⟩, ⟨rfl, congrArg U.isz eM, eM, row1H fun x hx => by rw [e3]; rfl⟩, trivial⟩
end Go.RX.Span

/- Domain maps: the law of blocks returns true. -/
set_option linter.unusedVariables false
set_option linter.unusedSimpArgs false
set_option maxRecDepth 100000
namespace Go.RX.Span
open Go Go.RX
attribute [local irreducible] sx conB

theorem loopBm : LoopOK P (loopOf P 12 12) (few 124 [1,2,5,6,8,10,40,41,64,65,66] gBm) :=
  loop_few (E := EBb) mixed EBb_ok LBi_sub 124 [1,2,5,6,8,10,40,41,64,65,66] (X := XBm) gBm (fun _ x => VBm x) PhiBm (fun q => bnX q.n q.f q.k q.s q.h q.L q.l - q.j) (fun _ x o => o = OBm x)
    (fun n0 st r hh => by
      unfold gBm at hh
      split at hh
      · rename_i n0 L l bN bF pN pF L' l' bN' bF' bN2 e0 n f k s h t0
        obtain ⟨hp, rfl, rfl, rfl, rfl, rfl, rfl⟩ := (T.is_ask hh).1
        obtain rfl := T.is_ret (T.is_ask hh).2
        simp only [lk_eq] at hp
        obtain ⟨h0, ra, h3, hN, hF⟩ := hp
        subst h0 hN hF
        have zi : U.isz 0 = true := by rw [U.isz_eq]; rfl
        refine ⟨⟨n, f, k, s, h, L', l', pN, pF, 0⟩, ⟨rfl, ra, h3, Nat.zero_le _⟩, wk_of [some 0, none] rfl (Nat.zero_le _) (ren1z _) ⟨rfl, ⟨rfl, rfl⟩, rfl, ⟨rfl, ⟨eqShs_refl _, fun _ _ => rfl⟩⟩, ⟨rfl, row1H fun _ _ => rfl⟩, ⟨rfl, zi, rfl⟩, rfl, rfl, ⟨rfl, ⟨eqShs_refl _, fun _ _ => rfl⟩⟩, rfl, rfl, trivial⟩ ⟨⟨rfl, ⟨rfl, sameR fun _ _ => rfl⟩, rfl, rfl, rfl, trivial⟩, ⟨zi, rfl⟩, trivial⟩, fun o ho => ?_⟩
        rw [ho]
        simp only [lk_eq]; rfl
      · exact hh.elim)
    roundBm
theorem LBm_ok : LoopsOK P LBm (bodyOf P 12) := loopsOK_of (by kernel_rfl) fun k g hk => by
  simp only [List.mem_cons, List.not_mem_nil, or_false, Prod.mk.injEq, LoopC.sum.injEq] at hk
  rcases hk with ⟨rfl, rfl⟩ | ⟨rfl, rfl⟩
  · exact loopBi
  · exact loopBm
theorem LBm_sub : LoopsOK P LBm (loopOf P 12 4) := LBm_ok.sub (fun l hl => by
  rw [show loopsIn (bodyOf P 12) = loopOf P 12 4 :: loopsIn (loopOf P 12 4) by kernel_rfl]
  exact List.mem_cons_of_mem _ hl) fun l hl => by
  rw [show rangesIn (loopOf P 12 4) = [] by kernel_rfl] at hl; cases hl
structure XBo where
  (n : Nat) (f : Nat → R3) (k s h L : Int) (j : Nat)
noncomputable abbrev VBo (q : XBo) : Few := (slBo q.L (q.j : Int), [boxD q.n q.f q.k q.s q.h])
noncomputable def OBo (q : XBo) : Ex × Few := (.exit 0, (slBo q.L q.L, [boxD q.n q.f q.k q.s q.h]))
def PhiBo (n0 : Nat) (q : XBo) : Prop := PreBo n0 q.n q.f q.k q.s q.h q.L ∧ (q.j : Int) ≤ q.L
theorem slBo_rl {ρ : Ren} {L i i' : Int} (h0 : ρ.of 0 = some 0) (hi : i = i') : RlL ρ (slBo L i) (slBo L i') := by
  subst hi
  exact ⟨rfl, ⟨h0, rfl⟩, rfl, rfl, trivial⟩
theorem roundBo (n0 : Nat) (q : XBo) (hq : PhiBo n0 q) : ((sx EBb LBm n0 (loopOf P 12 4) (mkS 124 [1,2,40,41] (VBo q).1, (VBo q).2)).bind (proj 124 [1,2,40,41])).All fun r => match r.1 with
      | .normal => ∃ q', PhiBo n0 q' ∧ q'.L.toNat - q'.j < q.L.toNat - q.j ∧ Wk 124 [1,2,40,41] n0 r.2 (VBo q') ∧ ∀ o, o = OBo q' → o = OBo q
      | e => ∃ s, (e, s) = OBo q ∧ Wk 124 [1,2,40,41] n0 r.2 s := by
  obtain ⟨n, f, k, s, h, L, j⟩ := q
  obtain ⟨⟨h0, hd, h3, k4⟩, hj⟩ := hq
  have hj : (j : Int) ≤ L := hj
  have hd : dmE n f k s h L = 0 := hd
  have h3 : szD n f k s h ≤ 300 := h3
  have k4 : k ≠ 4 := k4
  have h0 : n0 = 0 := h0
  subst h0
  have d := dr_64 (chD_zero.1 (dmE_zero.1 hd).2.2.1).1
  have hL := (dmE_zero.1 hd).2.1
  have lp := partL_len (n := n) (f := f) (k := k) (s := s) (h := h) (L := L) j
  have hz := szD_nn (dmE_zero.1 hd).2.2.1
  refine T.all_of_eq (t_Bo n f k s h L (j : Int)) ?_
  have e2 := add1q (j := j) (by omega)
  by_cases hlt : (j : Int) < L
  · have z1 : lcE n f k s h L (j : Int) = 0 := lcE_zero.2 ⟨ls_of hd h3, by omega, hlt⟩
    have z0 : blE n f k s h L (j : Int) = 0 := by unfold blE; rw [if_neg (by simp [z1]), if_neg k4]
    have z2 : ptE n f k s h L (j : Int) = 0 := z1
    have z3 : ptN n f k s h L (j : Int) = (partL n f k s h L (j : Int)).length := by unfold ptN; rw [if_neg (by simp [z1])]
    have zb : blN n f k s h L (j : Int) = bnX n f k s h L (j : Int) := by unfold blN; rw [if_neg (by simp [z0])]
    have zm : plM n f k s h L (j : Int) = (partL n f k s h L (j : Int)).length := rfl
    have zf : plF n f k s h L (j : Int) = ptF n f k s h L (j : Int) := rfl
    simp only [e2, lk_eq, z0, z2, z3, zm, zf]
    refine ⟨fun _ => ⟨d, d, fun g => absurd rfl (U.ne_t.mp g), fun _ => ⟨fun g => absurd rfl (U.ne_t.mp g), fun _ => ⟨⟨⟨rfl, ⟨hd, k4, by omega, hlt⟩, h3, zb, rfl⟩, trivial, trivial, trivial, trivial, trivial, trivial⟩, ?_, fun g => absurd (U.not_t.mp g) (by rw [eqR_self]; decide), fun _ => ?_⟩⟩⟩, fun g => absurd (U.lt_f.mp g) (by omega)⟩
    · show (partL n f k s h L (j : Int)).length ≤ 9223372036854775807
      omega
    · refine ⟨⟨n, f, k, s, h, L, j + 1⟩, ⟨⟨rfl, hd, h3, k4⟩, (show ((j + 1 : Nat) : Int) ≤ L by omega)⟩, (show L.toNat - (j + 1) < L.toNat - j by omega), ?_, fun o ho => ho⟩
      exact wk_of [some 0] rfl (Nat.zero_le _) (ren1z _) (slBo_rl rfl rfl) ⟨⟨rfl, ⟨rfl, sameR fun _ _ => rfl⟩, rfl, rfl, rfl, trivial⟩, trivial⟩
  · have ej : (j : Int) = L := by omega
    refine ⟨fun g => absurd (U.lt_t.mp g) (by omega), fun _ => ⟨_, rfl, ?_⟩⟩
    exact wk_of [some 0] rfl (Nat.zero_le _) (ren1z _) (slBo_rl rfl ej) ⟨⟨rfl, ⟨rfl, sameR fun _ _ => rfl⟩, rfl, rfl, rfl, trivial⟩, trivial⟩
theorem loopBo : LoopOK P (loopOf P 12 4) (few 124 [1,2,40,41] gBo) :=
  loop_few (E := EBb) mixed EBb_ok LBm_sub 124 [1,2,40,41] (X := XBo) gBo (fun _ x => VBo x) PhiBo (fun q => q.L.toNat - q.j) (fun _ x o => o = OBo x)
    (fun n0 st r hh => by
      unfold gBo at hh
      split at hh
      · rename_i n0 L L' e0 n f k s h t0
        obtain ⟨hp, rfl, rfl⟩ := (T.is_ask hh).1
        obtain rfl := T.is_ret (T.is_ask hh).2
        rw [lk_eq] at hp
        obtain ⟨h0, hd, h3, k4⟩ := hp
        subst h0
        have l0 := (dmE_zero.1 hd).1
        exact ⟨⟨n, f, k, s, h, L', 0⟩, ⟨⟨rfl, hd, h3, k4⟩, (show ((0 : Nat) : Int) ≤ L' by omega)⟩, wk_of [some 0] rfl (Nat.zero_le _) (ren1z _) (slBo_rl rfl rfl) ⟨⟨rfl, ⟨rfl, sameR fun _ _ => rfl⟩, rfl, rfl, rfl, trivial⟩, trivial⟩, fun o ho => ho⟩
      · exact hh.elim)
    roundBo
theorem lBb_ok : ∀ p ∈ lBb, LoopsOK P p.2 (bodyOf P p.1) := by
  intro p hp
  simp only [lBb, List.mem_singleton] at hp
  subst hp
  refine loopsOK_of (by kernel_rfl) fun k g hk => ?_
  simp only [List.mem_cons, List.not_mem_nil, or_false, Prod.mk.injEq, LoopC.sum.injEq] at hk
  rcases hk with ⟨rfl, rfl⟩ | ⟨rfl, rfl⟩ | ⟨rfl, rfl⟩
  · exact loopBi
  · exact loopBm
  · exact loopBo
section
variable (n : Nat) (f : Nat → R3) (k s h L : Int)
noncomputable def wBb (l : List Bool) : T SV := (conB P (conOf kLb) (loopsOf lBb) 10 12 [.agg [.row [.int .i64, .int .i64, .int .i64] n f, .lit (.int .i64 k), .lit (.int .i64 s), .lit (.int .i64 h)], .lit (.int .i64 L)]).force l
theorem t_Bb1 : wBb n f k s h L [true] = .ask (Row64 n f) (.ask (U.not (lk fewB n f k s h 300) = true) (.ret (.lit (.bool true)))) := by kernel_rfl
theorem t_Bb2 : wBb n f k s h L [false, true] = .ask (Row64 n f) (.ask (U.not (lk fewB n f k s h 300) = false) (.ask (Row64 n f) (.ask (U.ne (lk dmE n f k s h L) 0 = true) (.ret (.lit (.bool true)))))) := by kernel_rfl
theorem t_Bb3 : wBb n f k s h L [false, false, true] = .ask (Row64 n f) (.ask (U.not (lk fewB n f k s h 300) = false) (.ask (Row64 n f) (.ask (U.ne (lk dmE n f k s h L) 0 = false) (.ask (Row64 n f) (.ask (U.gt (lk szD n f k s h) 300 = true) (.ret (.lit (.bool true)))))))) := by kernel_rfl
theorem t_Bb4 : wBb n f k s h L [false, false, false, true] = .ask (Row64 n f) (.ask (U.not (lk fewB n f k s h 300) = false) (.ask (Row64 n f) (.ask (U.ne (lk dmE n f k s h L) 0 = false) (.ask (Row64 n f) (.ask (U.gt (lk szD n f k s h) 300 = false)
    (.ask (U.eq k 4 = true) (.ret (.lit (.bool true))))))))) := by kernel_rfl
theorem t_Bb5 : wBb n f k s h L [false, false, false, false] = .ask (Row64 n f) (.ask (U.not (lk fewB n f k s h 300) = false) (.ask (Row64 n f) (.ask (U.ne (lk dmE n f k s h L) 0 = false) (.ask (Row64 n f) (.ask (U.gt (lk szD n f k s h) 300 = false)
    (.ask (U.eq k 4 = false) (.ask (lk PreBo 0 n f k s h L ∧ L = L ∧ (49 : Nat) = 49) (.ret (.lit (.bool true)))))))))) := by kernel_rfl
end
noncomputable def c_DmapBlocks : Con := fun args => match args with
  | [.agg [.row [.int .i64, .int .i64, .int .i64] n f, .lit (.int .i64 k), .lit (.int .i64 s), .lit (.int .i64 h)], .lit (.int .i64 L)] => .ask (Row64 n f) (.ret (.lit (.bool true)))
  | _ => .stuck 1
theorem DmapBlocks_ok : ConOK P 12 c_DmapBlocks := con_force (allOKL mixed kLb_ok lBb_ok) 10 12 fun args r hh => by
  unfold c_DmapBlocks at hh
  split at hh
  · rename_i n f k s h L
    have d := (T.is_ask hh).1
    obtain rfl := T.is_ret (T.is_ask hh).2
    show ∃ l, (wBb n f k s h L l).All fun v => Cl v (.lit (.bool true))
    by_cases h1 : fewB n f k s h 300 = true
    rotate_left
    · exact ⟨_, by rw [t_Bb1]; simp only [lk_eq]; exact ⟨d, U.not_t.mpr (by simpa using h1), .inl rfl⟩⟩
    by_cases hd : dmE n f k s h L = 0
    rotate_left
    · exact ⟨_, by rw [t_Bb2]; simp only [lk_eq]; exact ⟨d, U.not_f.mpr h1, d, U.ne_t.mpr hd, .inl rfl⟩⟩
    by_cases h3 : szD n f k s h ≤ 300
    rotate_left
    · exact ⟨_, by rw [t_Bb3]; simp only [lk_eq]; exact ⟨d, U.not_f.mpr h1, d, U.ne_f.mpr hd, d, U.gt_t.mpr (by omega), .inl rfl⟩⟩
    by_cases k4 : k = 4
    · exact ⟨_, by rw [t_Bb4]; simp only [lk_eq]; exact ⟨d, U.not_f.mpr h1, d, U.ne_f.mpr hd, d, U.gt_f.mpr h3, U.eq_t.mpr k4, .inl rfl⟩⟩
    exact ⟨_, by rw [t_Bb5]; simp only [lk_eq]; exact ⟨d, U.not_f.mpr h1, d, U.ne_f.mpr hd, d, U.gt_f.mpr h3, U.eq_f.mpr k4, ⟨⟨rfl, hd, h3, k4⟩, trivial, trivial⟩, .inl rfl⟩⟩
  · exact hh.elim
end Go.RX.Span

