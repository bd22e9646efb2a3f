/- The hash of an index: the walks. -/
import Derived.Test.YtoncmmlgpecklaaNQg
import Derived.Test.YtoncmmlgpecklaaNQb
set_option linter.unusedVariables false
set_option linter.unusedSimpArgs false
set_option maxRecDepth 100000
namespace Go.RX.Span
open Go Go.RX
attribute [local irreducible] sx conB

set_option maxRecDepth 100000 in
theorem t_dmod (a b : Int) : conB Go.Proofs.Try.prog (conOf []) noLoops 10 138 [.lit (.int .i64 a), .lit (.int .i64 b)] =
    T.ask (b ≠ (0 : Int)) (.br (U.lt (U.rem a b) (0 : Int)) (.ret (.lit (.int .i64 (U.add .i64 (U.rem a b) b)))) (.ret (.lit (.int .i64 (U.rem a b))))) := by kernel_rfl
set_option maxRecDepth 100000 in
theorem t_Hp (n0 : Nat) (n : Nat) (e : Nat → R1) (h i : Int) : (sx EHm [] n0 (loopOf P 53 3) (mkS 20 [3,6,7,8] [.lit (.int .i64 h), .row [.int .i64] n e, .lit (.int .i64 (n : Int)), .lit (.int .i64 i)], [])).bind (proj 20 [3,6,7,8]) =
    T.br (U.lt i (Int.ofNat n)) (.ask ((0 : Int) ≤ i ∧ i < ↑n) (.ask ((0 : Int) < (1000003 : Int) ∧ (1000003 : Int) ≤ (4000000 : Int) ∧ I64 (e (U.toNat i)).1) (.ask ((1000003 : Int) ≠
      (0 : Int)) (.ret (Ex.normal, [.lit (.int .i64 (U.rem (U.add .i64 (U.mul .i64 31 h) (lk emd (e (U.toNat i)).1 (1000003 : Int))) (1000003 : Int))), .row [.int .i64] n e, .lit (.int
      .i64 (Int.ofNat n)), .lit (.int .i64 (U.add .i64 i (1 : Int)))], []))))) (.ret (Ex.exit (nat_lit 0), [.lit (.int .i64 h), .row [.int .i64] n e, .lit (.int .i64 (Int.ofNat n)), .lit
      (.int .i64 i)], [])) := by kernel_rfl
set_option maxRecDepth 100000 in
theorem t_Hr (n0 : Nat) (n : Nat) (e : Nat → R1) (h i : Int) : (sx E0 [] n0 (loopOf P 54 3) (mkS 27 [0,3,4] [.row [.int .i64] n e, .lit (.int .i64 h), .lit (.int .i64 i)], [])).bind (proj 27 [0,3,4]) =
    T.br (U.lt i (Int.ofNat n)) (.ask ((0 : Int) ≤ i ∧ i < ↑n) (.ask ((1000003 : Int) ≠ (0 : Int)) (.br (U.lt (U.rem (e (U.toNat i)).1 (1000003 : Int)) (0 : Int)) (.ask ((1000003 : Int)
      ≠ (0 : Int)) (.ret (Ex.normal, [.row [.int .i64] n e, .lit (.int .i64 (U.rem (U.add .i64 (U.mul .i64 31 h) (U.add .i64 (U.rem (e (U.toNat i)).1 (1000003 : Int)) (1000003 : Int)))
      (1000003 : Int))), .lit (.int .i64 (U.add .i64 i (1 : Int)))], []))) (.ask ((1000003 : Int) ≠ (0 : Int)) (.ret (Ex.normal, [.row [.int .i64] n e, .lit (.int .i64 (U.rem (U.add .i64
      (U.mul .i64 31 h) (U.rem (e (U.toNat i)).1 (1000003 : Int))) (1000003 : Int))), .lit (.int .i64 (U.add .i64 i (1 : Int)))], [])))))) (.ret (Ex.exit (nat_lit 0), [.row [.int .i64] n
      e, .lit (.int .i64 h), .lit (.int .i64 i)], [])) := by kernel_rfl
end Go.RX.Span

/- The hash of an index: the contracts. -/
set_option linter.unusedVariables false
set_option linter.unusedSimpArgs false
set_option maxRecDepth 100000
namespace Go.RX.Span
open Go Go.RX
attribute [local irreducible] sx conB

theorem tm_em {a b : Int} (hb : 0 < b) : (a.tmod b < 0 → a.tmod b + b = emd a b) ∧ (¬ a.tmod b < 0 → a.tmod b = emd a b) ∧ -b < a.tmod b ∧ a.tmod b < b := by
  have h1 := Int.tmod_add_mul_tdiv a b
  have h2 : a.tmod b < b := Int.tmod_lt_of_pos _ hb
  have h3 : -b < a.tmod b := by
    have := Int.lt_tmod_of_pos a hb
    omega
  refine ⟨fun h => ?_, fun h => ?_, h3, h2⟩
  · have e : a = (a.tmod b + b) + b * (a.tdiv b - 1) := by rw [Int.mul_sub, Int.mul_one]; omega
    unfold emd
    conv => rhs; rw [e]
    rw [Int.add_mul_emod_self_left, Int.emod_eq_of_lt (by omega) (by omega)]
  · unfold emd
    conv => rhs; rw [← h1]
    rw [Int.add_mul_emod_self_left, Int.emod_eq_of_lt (by omega) h2]
theorem dmod_ok : ConOK P 138 c_dmod := con_of (allOK mixed none_ok) 10 138 fun args r h => by
  unfold c_dmod at h
  split at h
  · rename_i a b
    obtain ⟨h0, h1, h2⟩ := (T.is_ask h).1
    obtain rfl := T.is_ret (T.is_ask h).2
    obtain ⟨m1, m2, m3, m4⟩ := tm_em (a := a) h0
    rw [t_dmod]
    simp only [U.rem_eq, lk_eq]
    refine ⟨by omega, fun hn => ?_, fun hn => ?_⟩
    · have hn := U.lt_t.mp hn
      show SV.lit (.int .i64 (U.add .i64 (a.tmod b) b)) = _
      rw [U.add64 (by unfold I64; omega), m1 hn]
    · have hn := U.lt_f.mp hn
      show SV.lit (.int .i64 (a.tmod b)) = _
      rw [m2 (by omega)]
  · exact h.elim
theorem kHm_ok : ∀ p ∈ kHm, ConOK P p.1 p.2 := by
  intro p hp
  simp only [kHm, List.mem_singleton] at hp
  subst hp
  exact dmod_ok
theorem EHm_ok : EnvOK EHm := envOK (allOK mixed kHm_ok) 10
theorem hash_step (e : Nat → R1) (j : Nat) : U.rem (U.add .i64 (U.mul .i64 31 (hashN e j)) (emd (nv e j) 1000003)) 1000003 = hashN e (j + 1) := by
  have hb := hashN_bnd e j
  have e1 := Int.emod_nonneg (nv e j) (show (1000003 : Int) ≠ 0 by decide)
  have e2 := Int.emod_lt_of_pos (nv e j) (show (0 : Int) < 1000003 by decide)
  have em : emd (nv e j) 1000003 = nv e j % 1000003 := rfl
  rw [em, U.rem_eq, U.mul64 (by unfold I64; omega), U.add64 (by unfold I64; omega), Int.tmod_eq_emod_of_nonneg (by omega)]
  rfl
structure XH where
  (n : Nat) (e : Nat → R1) (j : Nat)
noncomputable abbrev VHp (q : XH) : Few := ([.lit (.int .i64 (hashN q.e q.j)), .row [.int .i64] q.n q.e, .lit (.int .i64 (q.n : Int)), .lit (.int .i64 (q.j : Int))], [])
noncomputable abbrev VHr (q : XH) : Few := ([.row [.int .i64] q.n q.e, .lit (.int .i64 (hashN q.e q.j)), .lit (.int .i64 (q.j : Int))], [])
noncomputable def OHp (q : XH) : Ex × Few := (.exit 0, VHp { q with j := q.n })
noncomputable def OHr (q : XH) : Ex × Few := (.exit 0, VHr { q with j := q.n })
def PhiH (n0 : Nat) (q : XH) : Prop := PreH n0 q.n q.e ∧ q.j ≤ q.n
theorem row1H {n : Nat} {f g : Nat → R1} (h : ∀ i, i < n → f i = g i) : sameRow n f g := ⟨eqShs_refl _, fun i hi => h i hi⟩
theorem tnH (j : Nat) : U.toNat (j : Int) = j := tn j
theorem roundHp (n0 : Nat) (q : XH) (hq : PhiH n0 q) : ((sx EHm [] n0 (loopOf P 53 3) (mkS 20 [3,6,7,8] (VHp q).1, (VHp q).2)).bind (proj 20 [3,6,7,8])).All fun r => match r.1 with
      | .normal => ∃ q', PhiH n0 q' ∧ q'.n - q'.j < q.n - q.j ∧ Wk 20 [3,6,7,8] n0 r.2 (VHp q') ∧ ∀ o, o = OHp q' → o = OHp q
      | e => ∃ s, (e, s) = OHp q ∧ Wk 20 [3,6,7,8] n0 r.2 s := by
  obtain ⟨n, e, j⟩ := q
  obtain ⟨⟨h0, hn, he⟩, hj⟩ := hq
  simp only [] at h0 hn he hj
  subst h0
  refine T.all_of_eq (t_Hp 0 n e (hashN e j) (j : Int)) ?_
  have e2 : U.add .i64 (j : Int) 1 = ((j + 1 : Nat) : Int) := by rw [U.add64 (by unfold I64; omega)]; omega
  simp only [tnH, e2, lk_eq]
  have w0 : ∀ {vs vs' : List SV}, RlL (idR 0) vs vs' → Wk 20 [3,6,7,8] 0 (vs, []) (vs', []) := fun h => wk_of (idR 0) rfl (Nat.zero_le _) (fun b hb => by omega) h trivial
  by_cases hlt : j < n
  · refine ⟨fun _ => ⟨⟨by omega, by omega⟩, ⟨by decide, by decide, he j hlt⟩, by decide, ⟨n, e, j + 1⟩, ⟨⟨rfl, hn, he⟩, by simp only []; omega⟩, by simp only []; omega, w0 ⟨?_, ⟨rfl, row1H fun _ _ => rfl⟩, rfl, rfl, trivial⟩, fun o ho => ho⟩, fun h => absurd (U.lt_f.mp h) (by simp only [Int.ofNat_eq_natCast]; omega)⟩
    show Value.int .i64 _ = Value.int .i64 _
    exact congrArg _ (hash_step e j)
  · obtain rfl : j = n := by omega
    exact ⟨fun h => absurd (U.lt_t.mp h) (by simp only [Int.ofNat_eq_natCast]; omega), fun _ => ⟨_, rfl, w0 ⟨rfl, ⟨rfl, row1H fun _ _ => rfl⟩, rfl, rfl, trivial⟩⟩⟩
theorem roundHr (n0 : Nat) (q : XH) (hq : PhiH n0 q) : ((sx E0 [] n0 (loopOf P 54 3) (mkS 27 [0,3,4] (VHr q).1, (VHr q).2)).bind (proj 27 [0,3,4])).All fun r => match r.1 with
      | .normal => ∃ q', PhiH n0 q' ∧ q'.n - q'.j < q.n - q.j ∧ Wk 27 [0,3,4] n0 r.2 (VHr q') ∧ ∀ o, o = OHr q' → o = OHr q
      | e => ∃ s, (e, s) = OHr q ∧ Wk 27 [0,3,4] n0 r.2 s := by
  obtain ⟨n, e, j⟩ := q
  obtain ⟨⟨h0, hn, he⟩, hj⟩ := hq
  simp only [] at h0 hn he hj
  subst h0
  refine T.all_of_eq (t_Hr 0 n e (hashN e j) (j : Int)) ?_
  have e2 : U.add .i64 (j : Int) 1 = ((j + 1 : Nat) : Int) := by rw [U.add64 (by unfold I64; omega)]; omega
  simp only [tnH, e2, lk_eq]
  have w0 : ∀ {vs vs' : List SV}, RlL (idR 0) vs vs' → Wk 27 [0,3,4] 0 (vs, []) (vs', []) := fun h => wk_of (idR 0) rfl (Nat.zero_le _) (fun b hb => by omega) h trivial
  by_cases hlt : j < n
  · obtain ⟨m1, m2, m3, m4⟩ := tm_em (a := nv e j) (b := 1000003) (by decide)
    have key : ∀ x, x = emd (nv e j) 1000003 → ∃ q' : XH, PhiH 0 q' ∧ q'.n - q'.j < n - j ∧ Wk 27 [0,3,4] 0 ([.row [.int .i64] n e, .lit (.int .i64 (U.rem (U.add .i64 (U.mul .i64 31 (hashN e j)) x) 1000003)), .lit (.int .i64 ((j + 1 : Nat) : Int))], []) (VHr q') ∧ ∀ o, o = OHr q' → o = OHr ⟨n, e, j⟩ := fun x hx => by
      subst hx
      refine ⟨⟨n, e, j + 1⟩, ⟨⟨rfl, hn, he⟩, by simp only []; omega⟩, by simp only []; omega, w0 ⟨⟨rfl, row1H fun _ _ => rfl⟩, ?_, rfl, trivial⟩, fun o ho => ho⟩
      show Value.int .i64 _ = Value.int .i64 _
      exact congrArg _ (hash_step e j)
    refine ⟨fun _ => ⟨⟨by omega, by omega⟩, by decide, fun hh => ⟨by decide, ?_⟩, fun hh => ⟨by decide, ?_⟩⟩, fun h => absurd (U.lt_f.mp h) (by simp only [Int.ofNat_eq_natCast]; omega)⟩
    · refine key _ ?_
      have hh : U.rem (nv e j) 1000003 < 0 := U.lt_t.mp hh
      rw [U.rem_eq] at hh
      show U.add .i64 (U.rem (nv e j) 1000003) 1000003 = _
      rw [U.rem_eq, U.add64 (by unfold I64; omega), m1 hh]
    · refine key _ ?_
      have hh : 0 ≤ U.rem (nv e j) 1000003 := U.lt_f.mp hh
      rw [U.rem_eq] at hh
      show U.rem (nv e j) 1000003 = _
      rw [U.rem_eq, m2 (by omega)]
  · obtain rfl : j = n := by omega
    exact ⟨fun h => absurd (U.lt_t.mp h) (by simp only [Int.ofNat_eq_natCast]; omega), fun _ => ⟨_, rfl, w0 ⟨⟨rfl, row1H fun _ _ => rfl⟩, rfl, rfl, trivial⟩⟩⟩
theorem loopHp : LoopOK P (loopOf P 53 3) (few 20 [3,6,7,8] gHp) :=
  loop_few (E := EHm) mixed EHm_ok loopsOK_none 20 [3,6,7,8] (X := XH) gHp (fun _ x => VHp x) PhiH (fun q => q.n - q.j) (fun _ x o => o = OHp x)
    (fun n0 st r h => by
      unfold gHp at h
      split at h
      · rename_i n0 n e N'
        obtain ⟨hp, rfl⟩ := (T.is_ask h).1
        obtain rfl := T.is_ret (T.is_ask h).2
        rw [lk_eq] at hp
        have h0 := hp.1
        subst h0
        exact ⟨⟨n, e, 0⟩, ⟨hp, Nat.zero_le _⟩, wk_of (idR 0) rfl (Nat.zero_le _) (fun b hb => by omega) ⟨rfl, ⟨rfl, row1H fun _ _ => rfl⟩, rfl, rfl, trivial⟩ trivial, fun o ho => by rw [ho]; simp only [lk_eq]; rfl⟩
      · exact h.elim)
    roundHp
theorem loopHr : LoopOK P (loopOf P 54 3) (few 27 [0,3,4] gHr) :=
  loop_few (E := E0) mixed E0_ok loopsOK_none 27 [0,3,4] (X := XH) gHr (fun _ x => VHr x) PhiH (fun q => q.n - q.j) (fun _ x o => o = OHr x)
    (fun n0 st r h => by
      unfold gHr at h
      split at h
      · rename_i n0 n e
        have hp := (T.is_ask h).1
        obtain rfl := T.is_ret (T.is_ask h).2
        rw [lk_eq] at hp
        have h0 := hp.1
        subst h0
        exact ⟨⟨n, e, 0⟩, ⟨hp, Nat.zero_le _⟩, wk_of (idR 0) rfl (Nat.zero_le _) (fun b hb => by omega) ⟨⟨rfl, row1H fun _ _ => rfl⟩, rfl, rfl, trivial⟩ trivial, fun o ho => by rw [ho]; simp only [lk_eq]; rfl⟩
      · exact h.elim)
    roundHr
theorem lHp_ok : ∀ p ∈ lHp, LoopsOK P p.2 (bodyOf P p.1) := by
  intro p hp
  simp only [lHp, List.mem_singleton] at hp
  subst hp
  refine loopsOK_of (by kernel_rfl) fun k g hk => ?_
  simp only [List.mem_singleton, Prod.mk.injEq, LoopC.sum.injEq] at hk
  obtain ⟨rfl, rfl⟩ := hk
  exact loopHp
theorem lHr_ok : ∀ p ∈ lHr, LoopsOK P p.2 (bodyOf P p.1) := by
  intro p hp
  simp only [lHr, List.mem_singleton] at hp
  subst hp
  refine loopsOK_of (by kernel_rfl) fun k g hk => ?_
  simp only [List.mem_singleton, Prod.mk.injEq, LoopC.sum.injEq] at hk
  obtain ⟨rfl, rfl⟩ := hk
  exact loopHr
end Go.RX.Span

/- The hash of an index: the functions. -/
set_option linter.unusedVariables false
set_option linter.unusedSimpArgs false
set_option maxRecDepth 100000
namespace Go.RX.Span
open Go Go.RX
attribute [local irreducible] sx conB

--%R ↑n = ↑n => ((n : Nat) : Int) = ((n : Nat) : Int)
set_option maxRecDepth 100000 in
theorem t_Hash (n : Nat) (e : Nat → R1) : conB Go.Proofs.Try.prog (conOf kHm) (loopsOf lHp) 10 53 [.row [.int .i64] n e] =
    T.ask (lk PreH (nat_lit 0) n e ∧ ((n : Nat) : Int) = ((n : Nat) : Int)) (.ret (.lit (.int .i64 (lk hashN e n)))) := by kernel_rfl
set_option maxRecDepth 100000 in
theorem t_qHash (n : Nat) (e : Nat → R1) : conB Go.Proofs.Try.prog (conOf []) (loopsOf lHr) 10 54 [.row [.int .i64] n e] =
    T.ask (lk PreH (nat_lit 0) n e) (.ret (.lit (.int .i64 (lk hashN e n)))) := by kernel_rfl
theorem Hash_ok : ConOK P 53 c_Hash := con_of (allOKL mixed kHm_ok lHp_ok) 10 53 fun args r h => by
  unfold c_Hash at h
  split at h
  · rename_i n e
    obtain ⟨h1, h2⟩ := (T.is_ask h).1
    obtain rfl := T.is_ret (T.is_ask h).2
    rw [t_Hash]
    simp only [lk_eq]
    exact ⟨⟨⟨rfl, h1, h2⟩, trivial⟩, rfl⟩
  · exact h.elim
theorem qHash_ok : ConOK P 54 c_Hash := con_of (allOKL mixed none_ok lHr_ok) 10 54 fun args r h => by
  unfold c_Hash at h
  split at h
  · rename_i n e
    obtain ⟨h1, h2⟩ := (T.is_ask h).1
    obtain rfl := T.is_ret (T.is_ask h).2
    rw [t_qHash]
    simp only [lk_eq]
    exact ⟨⟨rfl, h1, h2⟩, rfl⟩
  · exact h.elim
end Go.RX.Span

/- Domain maps: contracts of the small functions. -/
set_option linter.unusedVariables false
set_option linter.unusedSimpArgs false
set_option maxRecDepth 100000
namespace Go.RX.Span
open Go Go.RX
attribute [local irreducible] sx conB

noncomputable abbrev kU0 : List (Nat × Con) := [(63, c_DCheck), (41, c_DSize), (88, c_DHas), (68, c_DNth), (120, c_Position), (28, c_Size), (53, c_Hash), (172, c_DAll)] --%K
theorem kU0_ok : ∀ p ∈ kU0, ConOK P p.1 p.2 := by
  intro p hp
  simp only [kU0, List.mem_cons, List.not_mem_nil, or_false] at hp
  rcases hp with rfl | rfl | rfl | rfl | rfl | rfl | rfl | rfl
  · exact DCheck_ok
  · exact DSize_ok
  · exact DHas_ok
  · exact DNth_ok
  · exact Position_ok
  · exact Size_ok
  · exact Hash_ok
  · exact DAll_ok
noncomputable abbrev kQ0 : List (Nat × Con) := [(86, c_DCheck), (87, c_DSize), (89, c_DHas), (84, c_DNth), (166, c_Position), (143, c_Size), (54, c_Hash)] --%K
theorem kQ0_ok : ∀ p ∈ kQ0, ConOK P p.1 p.2 := by
  intro p hp
  simp only [kQ0, List.mem_cons, List.not_mem_nil, or_false] at hp
  rcases hp with rfl | rfl | rfl | rfl | rfl | rfl | rfl
  · exact qCheck_ok
  · exact qSize_ok
  · exact qHas_ok
  · exact qNth_ok
  · exact rPosition_ok
  · exact rSize_ok
  · exact qHash_ok
noncomputable def c_dmCheck : Con := fun args => match args with
  | [.agg [.row [.int .i64, .int .i64, .int .i64] n f, .lit (.int .i64 k), .lit (.int .i64 s), .lit (.int .i64 h)], .lit (.int .i64 L)] => .ask (Row64 n f) (.ret (.lit (.int .i64 (lk dmE n f k s h L))))
  | _ => .stuck 1
/-- The error where a list is made. -/
def lsE (n : Nat) (f : Nat → R3) (k s h L : Int) : Int := if dmE n f k s h L ≠ 0 then dmE n f k s h L else if 5000 < szD n f k s h then 7 else 0
/-- The same, with a locale. -/
def lcE (n : Nat) (f : Nat → R3) (k s h L l : Int) : Int := if lsE n f k s h L ≠ 0 then lsE n f k s h L else if l < 0 ∨ L ≤ l then 4 else 0
noncomputable def c_listed : Con := fun args => match args with
  | [.agg [.row [.int .i64, .int .i64, .int .i64] n f, .lit (.int .i64 k), .lit (.int .i64 s), .lit (.int .i64 h)], .lit (.int .i64 L)] => .ask (Row64 n f) (.ret (.lit (.int .i64 (lk lsE n f k s h L))))
  | _ => .stuck 1
noncomputable def c_located : Con := fun args => match args with
  | [.agg [.row [.int .i64, .int .i64, .int .i64] n f, .lit (.int .i64 k), .lit (.int .i64 s), .lit (.int .i64 h)], .lit (.int .i64 L), .lit (.int .i64 l)] => .ask (Row64 n f) (.ret (.lit (.int .i64 (lk lcE n f k s h L l))))
  | _ => .stuck 1
/-- The second number of an index, or 0. -/
def prY (n : Nat) (e : Nat → R1) : Int := if n = 1 then 0 else nv e 1
noncomputable def c_pair : Con := fun args => match args with
  | [.row [.int .i64] n e] => .ask (n = 1 ∨ n = 2) (.ret (.agg [.lit (.int .i64 (lk nv e 0)), .lit (.int .i64 (lk prY n e))]))
  | _ => .stuck 1
def OwAsk (n : Nat) (f : Nat → R3) (k s h L x y : Int) : Prop := dmE n f k s h L = 0 ∧ hasR (f 0) x = true ∧ I64 y
def QwAsk (n : Nat) (f : Nat → R3) (k s h L : Int) (m : Nat) (e : Nat → R1) : Prop := dmE n f k s h L = 0 ∧ m = n ∧ hasR (f 0) (nv e 0) = true ∧ I64s n e
noncomputable def c_owner : Con := fun args => match args with
  | [.agg [.row [.int .i64, .int .i64, .int .i64] n f, .lit (.int .i64 k), .lit (.int .i64 s), .lit (.int .i64 h)], .lit (.int .i64 L), .agg [.lit (.int .i64 x), .lit (.int .i64 y)]] =>
    .ask (lk OwAsk n f k s h L x y) (.ret (.lit (.int .i64 (lk owX n f k s h L (lk ixF x y)))))
  | _ => .stuck 1
noncomputable def c_qowner : Con := fun args => match args with
  | [.agg [.row [.int .i64, .int .i64, .int .i64] n f, .lit (.int .i64 k), .lit (.int .i64 s), .lit (.int .i64 h)], .lit (.int .i64 L), .row [.int .i64] m e] =>
    .ask (lk QwAsk n f k s h L m e) (.ret (.lit (.int .i64 (lk owX n f k s h L e))))
  | _ => .stuck 1
end Go.RX.Span

/- Domain maps: the small functions. -/
set_option linter.unusedVariables false
set_option linter.unusedSimpArgs false
set_option maxRecDepth 100000
namespace Go.RX.Span
open Go Go.RX
attribute [local irreducible] sx conB

--%R ofList\s+\[\((\S+),\s+\(\)\) => ofList (ss := [.int .i64]) [(\1, ())
--%R ↑\((2) : Nat\) => ((\1 : Nat) : Int)
--%R ↑\(\(0 : Nat\) \+ n \+ \(1 : Nat\)\) => (((0 : Nat) + n + (1 : Nat) : Nat) : Int)
set_option maxRecDepth 100000 in
theorem t_dmCheck (n : Nat) (f : Nat → R3) (k s h L : Int) : conB Go.Proofs.Try.prog (conOf kU0) noLoops 10 40 [.agg [.row [.int .i64, .int .i64, .int .i64] n f, .lit (.int .i64 k), .lit (.int .i64 s), .lit (.int .i64 h)], .lit (.int .i64 L)] =
    T.br (U.lt L (1 : Int)) (.ret (.lit (.int .i64 4))) (.br (U.gt L (8 : Int)) (.ret (.lit (.int .i64 4))) (.ask (Row64 n f) (.br (U.ne (lk chD n f k s h) (0 : Int)) (.ret (.lit (.int
      .i64 (lk chD n f k s h)))) (.br (U.eq k (0 : Int)) (.br (U.ge h L) (.ret (.lit (.int .i64 70))) (.ret (.lit (.int .i64 0)))) (.ret (.lit (.int .i64 0))))))) := by kernel_rfl
set_option maxRecDepth 100000 in
theorem t_listed (n : Nat) (f : Nat → R3) (k s h L : Int) : conB Go.Proofs.Try.prog (conOf ((40, c_dmCheck) :: kU0)) noLoops 10 129 [.agg [.row [.int .i64, .int .i64, .int .i64] n f, .lit (.int .i64 k), .lit (.int .i64 s), .lit (.int .i64 h)], .lit (.int .i64 L)] =
    T.ask (Row64 n f) (.br (U.ne (lk dmE n f k s h L) (0 : Int)) (.ret (.lit (.int .i64 (lk dmE n f k s h L)))) (.ask (Row64 n f) (.br (U.gt (lk szD n f k s h) (5000 : Int)) (.ret (.lit
      (.int .i64 7))) (.ret (.lit (.int .i64 0)))))) := by kernel_rfl
set_option maxRecDepth 100000 in
theorem t_located (n : Nat) (f : Nat → R3) (k s h L l : Int) : conB Go.Proofs.Try.prog (conOf [(129, c_listed)]) noLoops 10 134 [.agg [.row [.int .i64, .int .i64, .int .i64] n f, .lit (.int .i64 k), .lit (.int .i64 s), .lit (.int .i64 h)], .lit (.int .i64 L), .lit (.int .i64 l)] =
    T.ask (Row64 n f) (.br (U.ne (lk lsE n f k s h L) (0 : Int)) (.ret (.lit (.int .i64 (lk lsE n f k s h L)))) (.br (U.lt l (0 : Int)) (.ret (.lit (.int .i64 4))) (.br (U.ge l L) (.ret
      (.lit (.int .i64 4))) (.ret (.lit (.int .i64 0)))))) := by kernel_rfl
set_option maxRecDepth 100000 in
theorem t_owner (n : Nat) (f : Nat → R3) (k s h L x y : Int) : conB Go.Proofs.Try.prog (conOf kU0) noLoops 10 135 [.agg [.row [.int .i64, .int .i64, .int .i64] n f, .lit (.int .i64 k), .lit (.int .i64 s), .lit (.int .i64 h)], .lit (.int .i64 L), .agg [.lit (.int .i64 x), .lit (.int .i64 y)]] =
    T.ask ((0 : Int) ≤ (0 : Int) ∧ (0 : Int) < ↑n) (.ask (I64 (f (U.toNat (0 : Int))).1 ∧ I64 (f (U.toNat (0 : Int))).2.1 ∧ I64 (f (U.toNat (0 : Int))).2.2.1) (.br (U.eq k (0 : Int))
      (.ret (.lit (.int .i64 h))) (.br (U.eq k (1 : Int)) (.ask ((0 : Int) ≤ (0 : Int) ∧ (0 : Int) < ↑n) (.ask (I64 (f (U.toNat (0 : Int))).1 ∧ I64 (f (U.toNat (0 : Int))).2.1 ∧ I64 (f
      (U.toNat (0 : Int))).2.2.1) (.ask (lk size (f (U.toNat (0 : Int))).1 (f (U.toNat (0 : Int))).2.1 (f (U.toNat (0 : Int))).2.2.1 ≠ (0 : Int)) (.ret (.lit (.int .i64 (U.quo .i64 (U.mul
      .i64 (lk pos (f (U.toNat (0 : Int))).1 (f (U.toNat (0 : Int))).2.1 (f (U.toNat (0 : Int))).2.2.1 x) L) (lk size (f (U.toNat (0 : Int))).1 (f (U.toNat (0 : Int))).2.1 (f (U.toNat (0
      : Int))).2.2.1)))))))) (.br (U.eq k (2 : Int)) (.ask (L ≠ (0 : Int)) (.ret (.lit (.int .i64 (U.rem (lk pos (f (U.toNat (0 : Int))).1 (f (U.toNat (0 : Int))).2.1 (f (U.toNat (0 :
      Int))).2.2.1 x) L))))) (.br (U.eq k (3 : Int)) (.ask (s ≠ (0 : Int)) (.ask (L ≠ (0 : Int)) (.ret (.lit (.int .i64 (U.rem (U.quo .i64 (lk pos (f (U.toNat (0 : Int))).1 (f (U.toNat (0
      : Int))).2.1 (f (U.toNat (0 : Int))).2.2.1 x) s) L)))))) (.br (U.eq k (4 : Int)) (.ask ((0 : Int) ≤ Int.ofNat n ∧ Int.ofNat n ≤ ((2 : Nat) : Int)) (.ask (U.toNat (Int.ofNat n) ≤
      (1000000 : Nat) ∧ I64s (U.toNat (Int.ofNat n)) (ofList (ss := [.int .i64]) [(y, ()), (x, ())].reverse)) (.ask (L ≠ (0 : Int)) (.ret (.lit (.int .i64 (U.rem (lk hashN (ofList (ss :=
      [.int .i64]) [(y, ()), (x, ())].reverse) (U.toNat (Int.ofNat n))) L))))))) (.stuck (nat_lit 41)))))))) := by kernel_rfl
set_option maxRecDepth 100000 in
theorem t_pair (n : Nat) (e : Nat → R1) : conB Go.Proofs.Try.prog (conOf []) noLoops 10 136 [.row [.int .i64] n e] =
    T.ask ((0 : Nat) < n) (.ask (((0 : Nat) + n) * nat_lit 8 ≤ nat_lit 140737488351232) (.ask (((0 : Nat) + n + (1 : Nat)) * nat_lit 8 ≤ nat_lit 140737488351232) (.ask ((0 : Int) ≤ (0 :
      Int) ∧ (0 : Int) ≤ (2 : Int) ∧ (2 : Int) ≤ (((0 : Nat) + n + (1 : Nat) : Nat) : Int)) (.ask (nat_lit 1 + (1 : Nat) ≤ U.toNat (2 : Int)) (.ret (.agg [.lit (.int .i64 (cutF none
      (U.cat ((0 : Nat) + n) (U.cat (0 : Nat) (fun x => zeroEs [.int .i64]) (castEls rfl e)) (ofList [((0 : Int), ())].reverse)) (0 : Int) (0 : Nat)).1), .lit (.int .i64 (cutF none (U.cat
      ((0 : Nat) + n) (U.cat (0 : Nat) (fun x => zeroEs [.int .i64]) (castEls rfl e)) (ofList [((0 : Int), ())].reverse)) (0 : Int) ((0 : Nat) + (1 : Nat))).1)])))))) := by kernel_rfl
theorem tnO0 : U.toNat (0 : Int) = 0 := tn 0
theorem tnOf (n : Nat) : U.toNat (Int.ofNat n) = n := tn n
theorem dmCheck_ok : ConOK P 40 c_dmCheck := con_of (allOK mixed kU0_ok) 10 40 fun args r h => by
  unfold c_dmCheck at h
  split at h
  · rename_i n f k s h' L
    have d := (T.is_ask h).1
    obtain rfl := T.is_ret (T.is_ask h).2
    rw [t_dmCheck]
    simp only [lk_eq]
    have key : ∀ x, x = dmE n f k s h' L → (SV.lit (.int .i64 x)) = SV.lit (.int .i64 (dmE n f k s h' L)) := fun x hx => by rw [hx]
    refine ⟨fun g => key _ ?_, fun g => ⟨fun g2 => key _ ?_, fun g2 => ⟨d, fun g3 => key _ ?_, fun g3 => ⟨fun g4 => ⟨fun g5 => key _ ?_, fun g5 => key _ ?_⟩, fun g4 => key _ ?_⟩⟩⟩⟩
    all_goals unfold dmE
    · have := U.lt_t.mp g; rw [if_pos (by omega)]
    · have := U.gt_t.mp g2; rw [if_pos (by omega)]
    · have a := U.lt_f.mp g; have b := U.gt_f.mp g2; have c := U.ne_t.mp g3
      rw [if_neg (by omega), if_pos c]
    · have a := U.lt_f.mp g; have b := U.gt_f.mp g2; have c := U.ne_f.mp g3
      have e := U.eq_t.mp g4; have e2 := U.ge_t.mp g5
      rw [if_neg (by omega), if_neg (by simp [c]), if_pos (by omega)]
    · have a := U.lt_f.mp g; have b := U.gt_f.mp g2; have c := U.ne_f.mp g3
      have e := U.eq_t.mp g4; have e2 := U.ge_f.mp g5
      rw [if_neg (by omega), if_neg (by simp [c]), if_neg (by omega)]
    · have a := U.lt_f.mp g; have b := U.gt_f.mp g2; have c := U.ne_f.mp g3
      have e := U.eq_f.mp g4
      rw [if_neg (by omega), if_neg (by simp [c]), if_neg (fun w => e w.1)]
  · exact h.elim
noncomputable abbrev kU1 : List (Nat × Con) := (40, c_dmCheck) :: kU0 --%K
theorem kU1_ok : ∀ p ∈ kU1, ConOK P p.1 p.2 := by
  intro p hp
  simp only [kU1, List.mem_cons] at hp
  rcases hp with rfl | hp
  · exact dmCheck_ok
  · exact kU0_ok p (by simpa [kU0] using hp)
theorem listed_ok : ConOK P 129 c_listed := con_of (allOK mixed kU1_ok) 10 129 fun args r h => by
  unfold c_listed at h
  split at h
  · rename_i n f k s h' L
    have d := (T.is_ask h).1
    obtain rfl := T.is_ret (T.is_ask h).2
    refine T.all_of_eq (t_listed n f k s h' L) ?_
    simp only [lk_eq]
    have key : ∀ x, x = lsE n f k s h' L → (SV.lit (.int .i64 x)) = SV.lit (.int .i64 (lsE n f k s h' L)) := fun x hx => by rw [hx]
    refine ⟨d, fun g => key _ ?_, fun g => ⟨d, fun g2 => key _ ?_, fun g2 => key _ ?_⟩⟩
    all_goals unfold lsE
    · have a := U.ne_t.mp g; rw [if_pos a]
    · have a := U.ne_f.mp g; have b := U.gt_t.mp g2; rw [if_neg (by simp [a]), if_pos b]
    · have a := U.ne_f.mp g; have b := U.gt_f.mp g2; rw [if_neg (by simp [a]), if_neg (by omega)]
  · exact h.elim
theorem kL1_ok : ∀ p ∈ [(129, c_listed)], ConOK P p.1 p.2 := by
  intro p hp
  simp only [List.mem_singleton] at hp
  subst hp
  exact listed_ok
theorem located_ok : ConOK P 134 c_located := con_of (allOK mixed kL1_ok) 10 134 fun args r h => by
  unfold c_located at h
  split at h
  · rename_i n f k s h' L l
    have d := (T.is_ask h).1
    obtain rfl := T.is_ret (T.is_ask h).2
    rw [t_located]
    simp only [lk_eq]
    have key : ∀ x, x = lcE n f k s h' L l → (SV.lit (.int .i64 x)) = SV.lit (.int .i64 (lcE n f k s h' L l)) := fun x hx => by rw [hx]
    refine ⟨d, fun g => key _ ?_, fun g => ⟨fun g2 => key _ ?_, fun g2 => ⟨fun g3 => key _ ?_, fun g3 => key _ ?_⟩⟩⟩
    all_goals unfold lcE
    · have a := U.ne_t.mp g; rw [if_pos a]
    · have a := U.ne_f.mp g; have b := U.lt_t.mp g2; rw [if_neg (by simp [a]), if_pos (by omega)]
    · have a := U.ne_f.mp g; have b := U.lt_f.mp g2; have c := U.ge_t.mp g3; rw [if_neg (by simp [a]), if_pos (by omega)]
    · have a := U.ne_f.mp g; have b := U.lt_f.mp g2; have c := U.ge_f.mp g3; rw [if_neg (by simp [a]), if_neg (by omega)]
  · exact h.elim
end Go.RX.Span

/- Domain maps: the owner of an index. -/
set_option linter.unusedVariables false
set_option linter.unusedSimpArgs false
set_option maxRecDepth 100000
namespace Go.RX.Span
open Go Go.RX
attribute [local irreducible] sx conB

section
variable {e z g : Nat → R1} {n : Nat}
theorem pr_0 (h : 0 < n) : nv (U.cat (0 + n) (U.cat 0 z e) g) 0 = nv e 0 := by
  show (U.cat (0 + n) (U.cat 0 z e) g 0).1 = _
  rw [U.cat_eq, if_pos (by omega), U.cat_eq, if_neg (by omega)]; rfl
theorem pr_1 (h : 1 < n) : nv (U.cat (0 + n) (U.cat 0 z e) g) (0 + 1) = nv e 1 := by
  show (U.cat (0 + n) (U.cat 0 z e) g (0 + 1)).1 = _
  rw [U.cat_eq, if_pos (by omega), U.cat_eq, if_neg (by omega)]; rfl
theorem pr_2 (h : n = 1) : nv (U.cat (0 + n) (U.cat 0 z e) g) (0 + 1) = nv g 0 := by
  subst h
  show (U.cat (0 + 1) (U.cat 0 z e) g (0 + 1)).1 = _
  rw [U.cat_eq, if_neg (by omega)]; rfl
end
theorem pair_ok : ConOK P 136 c_pair := con_of (allOK mixed none_ok) 10 136 fun args r h => by
  unfold c_pair at h
  split at h
  · rename_i n e
    have hn := (T.is_ask h).1
    obtain rfl := T.is_ret (T.is_ask h).2
    rw [t_pair]
    simp only [lk_eq]
    have key : ∀ x y, x = nv e 0 → y = prY n e → SV.agg [.lit (.int .i64 x), .lit (.int .i64 y)] = SV.agg [.lit (.int .i64 (nv e 0)), .lit (.int .i64 (prY n e))] := fun x y h1 h2 => by rw [h1, h2]
    refine ⟨by omega, by omega, by omega, ⟨by omega, by omega, by omega⟩, by rw [show U.toNat (2 : Int) = 2 from tn 2]; exact Nat.le_refl _, key _ _ ?_ ?_⟩
    · exact pr_0 (by omega)
    · unfold prY
      rcases hn with rfl | rfl
      · rw [if_pos rfl]; exact pr_2 rfl
      · rw [if_neg (by omega)]; exact pr_1 (by omega)
  · exact h.elim
/-- The k of a right map. -/
theorem fit_k {k s h : Int} (hf : fitB k s h = true) : k = 0 ∨ k = 1 ∨ k = 2 ∨ (k = 3 ∧ 1 ≤ s ∧ s ≤ 1000) ∨ k = 4 := by
  have := of_decide_eq_true hf
  omega
theorem posR_lt {r : R3} (h : RR r) {v : Int} (hv : hasR r v = true) : 0 ≤ posR r v ∧ posR r v < szR r := by
  have e : posR r v = (v - rA r) / rC r := by
    show pos (rA r) (rB r) (rC r) v = _
    unfold pos
    rw [if_pos hv, if_neg (by have := h.2; omega)]
  obtain ⟨_, h1, h2, _⟩ := (of_decide_eq_true hv : chk (rA r) (rB r) (rC r) = 0 ∧ rA r ≤ v ∧ v ≤ rB r ∧ (v - rA r) % rC r = 0)
  have h2' := h.2
  rw [(rr_size h).1, e]
  unfold ofC
  rw [if_neg (by omega), if_neg (by omega)]
  have := Int.ediv_le_ediv h2' (show v - rA r ≤ rB r - rA r by omega)
  exact ⟨Int.ediv_nonneg (by omega) (by omega), by omega⟩
theorem ixF_congr (n : Nat) (e : Nat → R1) (hn : n = 1 ∨ n = 2) : ∀ i, i < n → nv (ixF (nv e 0) (prY n e)) i = nv e i := fun i hi => by
  rcases (show i = 0 ∨ i = 1 by omega) with rfl | rfl
  · rfl
  · show prY n e = _
    unfold prY; rw [if_neg (by omega)]
section
variable {n : Nat} {f : Nat → R3} {k s h L : Int}
theorem mul_small {q : Int} (h0 : 0 ≤ q) (h1 : q ≤ 5000000) (l0 : 0 ≤ L) (l8 : L ≤ 8) : I64 (q * L) := by
  have a := Int.mul_nonneg h0 l0
  have b := Int.mul_le_mul h1 l8 l0 (by omega)
  unfold I64; omega
theorem quo_pos {a b : Int} (ha : 0 ≤ a) (hb : 0 < b) (hl : a ≤ 9223372036854775807) : U.quo .i64 a b = a.tdiv b := by
  rw [U.quo_eq]
  have e := Int.tdiv_eq_ediv_of_nonneg ha (b := b)
  have h1 := Int.ediv_nonneg ha (show 0 ≤ b by omega)
  have h2 := Int.ediv_le_self b ha
  rw [e]
  have := U.add64 (a := a / b) (b := 0) (by unfold I64; omega)
  rw [U.add_eq, Int.add_zero] at this
  exact this
/-- What the five functions return. -/
theorem ow_0 (hk : k = 0) (q : Int) (e : Nat → R1) : owQ n f k s h L q e = h := by unfold owQ; rw [if_pos hk]
theorem ow_1 (hk : k = 1) (q : Int) (e : Nat → R1) (l1 : 0 ≤ L) (l8 : L ≤ 8) (h0 : 0 ≤ q) (h1 : q ≤ 5000000) (hs : 0 < szR (f 0)) : U.quo .i64 (U.mul .i64 q L) (szR (f 0)) = owQ n f k s h L q e := by
  have m := mul_small h0 h1 l1 l8
  unfold owQ
  rw [if_neg (by omega), if_pos hk, U.mul64 m, quo_pos (Int.mul_nonneg h0 l1) hs (by unfold I64 at m; omega)]
theorem ow_2 (hk : k = 2) (q : Int) (e : Nat → R1) : U.rem q L = owQ n f k s h L q e := by
  unfold owQ
  rw [if_neg (by omega), if_neg (by omega), if_pos hk, U.rem_eq]
theorem ow_3 (hk : k = 3) (q : Int) (e : Nat → R1) (h0 : 0 ≤ q) (h1 : q ≤ 5000000) (hs : 0 < s) : U.rem (U.quo .i64 q s) L = owQ n f k s h L q e := by
  unfold owQ
  rw [if_neg (by omega), if_neg (by omega), if_neg (by omega), if_pos hk, U.rem_eq, quo_pos h0 hs (by omega)]
theorem ow_4 (hk : k = 4) (q : Int) (e : Nat → R1) : U.rem (hashN e n) L = owQ n f k s h L q e := by
  unfold owQ
  rw [if_neg (by omega), if_neg (by omega), if_neg (by omega), if_neg (by omega), U.rem_eq]
end
theorem owner_ok : ConOK P 135 c_owner := con_of (allOK mixed kU0_ok) 10 135 fun args r h => by
  unfold c_owner at h
  split at h
  · rename_i n f k s h' L x y
    obtain ⟨hd, hx, iy⟩ := (lk_eq OwAsk ▸ (T.is_ask h).1 : OwAsk n f k s h' L x y)
    obtain rfl := T.is_ret (T.is_ask h).2
    obtain ⟨l1, l8, hc, hl⟩ := dmE_zero.1 hd
    obtain ⟨d1, fit⟩ := chD_zero.1 hc
    have hn := d1.1
    have r0 := d1.2 0 (by omega)
    have i0 := rr_64 r0
    obtain ⟨q0, q1⟩ := posR_lt r0 hx
    have hsz := rr_size r0
    have q5 : posR (f 0) x ≤ 5000000 := by omega
    have s0 : 0 < szR (f 0) := by omega
    have ix : I64 x := by
      obtain ⟨_, h1, h2, _⟩ := (of_decide_eq_true hx : chk (rA (f 0)) (rB (f 0)) (rC (f 0)) = 0 ∧ rA (f 0) ≤ x ∧ x ≤ rB (f 0) ∧ (x - rA (f 0)) % rC (f 0) = 0)
      obtain ⟨a1, a2, _⟩ := i0
      unfold I64 at *; omega
    refine T.all_of_eq (t_owner n f k s h' L x y) ?_
    simp only [lk_eq, tnO0, tnOf]
    have key : ∀ v, v = owQ n f k s h' L (posR (f 0) x) (ixF x y) → SV.lit (.int .i64 v) = SV.lit (.int .i64 (owX n f k s h' L (ixF x y))) := fun v hv => by rw [hv]; rfl
    refine ⟨⟨by omega, by omega⟩, i0, fun g => key _ (ow_0 (U.eq_t.mp g) _ _).symm, fun g0 => ⟨fun g => ⟨⟨by omega, by omega⟩, i0, ?_, key _ (ow_1 (U.eq_t.mp g) _ _ (by omega) l8 q0 q5 s0)⟩,
      fun g1 => ⟨fun g => ⟨by omega, key _ (ow_2 (U.eq_t.mp g) _ _)⟩, fun g2 => ⟨fun g => ⟨?_, by omega, key _ (ow_3 (U.eq_t.mp g) _ _ q0 q5 ?_)⟩,
      fun g3 => ⟨fun g => ⟨⟨Int.natCast_nonneg n, ?_⟩, ⟨by omega, ?_⟩, by omega, key _ (ow_4 (U.eq_t.mp g) _ _)⟩, fun g4 => ?_⟩⟩⟩⟩⟩
    · show szR (f 0) ≠ 0
      omega
    · have := fit_k fit; have e := U.eq_t.mp g; omega
    · have := fit_k fit; have e := U.eq_t.mp g; omega
    · simp only [Int.ofNat_eq_natCast]; omega
    · intro i hi
      rcases (show i = 0 ∨ i = 1 by omega) with rfl | rfl
      · exact ix
      · exact iy
    · have := fit_k fit
      have a0 := U.eq_f.mp g0; have a1 := U.eq_f.mp g1; have a2 := U.eq_f.mp g2; have a3 := U.eq_f.mp g3; have a4 := U.eq_f.mp g4
      omega
  · exact h.elim
end Go.RX.Span

/- Domain maps: Owner and OwnerAt, of the program and of the reference. -/
set_option linter.unusedVariables false
set_option linter.unusedSimpArgs false
set_option maxRecDepth 100000
namespace Go.RX.Span
open Go Go.RX
attribute [local irreducible] sx conB

section
variable (n : Nat) (f : Nat → R3) (k s h L : Int) (m : Nat) (e : Nat → R1) (p : Int)
noncomputable def oaE : Int := if dmE n f k s h L ≠ 0 then dmE n f k s h L else if dnE n f k s h p ≠ 0 then 22 else 0
noncomputable def oaV : Int := if oaE n f k s h L p ≠ 0 then 0 else owX n f k s h L (dnF n f p)
end
noncomputable def c_OwnerAt : Con := fun args => match args with
  | [.agg [.row [.int .i64, .int .i64, .int .i64] n f, .lit (.int .i64 k), .lit (.int .i64 s), .lit (.int .i64 h)], .lit (.int .i64 L), .lit (.int .i64 p)] =>
    .ask (Row64 n f ∧ I64 p) (.ret (.tup [.lit (.int .i64 (lk oaV n f k s h L p)), .lit (.int .i64 (lk oaE n f k s h L p))]))
  | _ => .stuck 1
noncomputable abbrev kU2 : List (Nat × Con) := (135, c_owner) :: (136, c_pair) :: kU1 --%K
theorem kU2_ok : ∀ p ∈ kU2, ConOK P p.1 p.2 := by
  intro p hp
  simp only [kU2, List.mem_cons] at hp
  rcases hp with rfl | rfl | hp
  · exact owner_ok
  · exact pair_ok
  · exact kU1_ok p (by simpa [kU1, kU0] using hp)
set_option maxRecDepth 100000 in
theorem t_OwnerAt (n : Nat) (f : Nat → R3) (k s h L p : Int) : conB Go.Proofs.Try.prog (conOf kU2) noLoops 10 50 [.agg [.row [.int .i64, .int .i64, .int .i64] n f, .lit (.int .i64 k), .lit (.int .i64 s), .lit (.int .i64 h)], .lit (.int .i64 L), .lit (.int .i64 p)] =
    T.ask (Row64 n f) (.br (U.ne (lk dmE n f k s h L) (0 : Int)) (.ret (.tup [.lit (.int .i64 0), .lit (.int .i64 (lk dmE n f k s h L))])) (.ask (Row64 n f ∧ I64 p) (.br (U.ne (lk dnE n
      f k s h p) (0 : Int)) (.ret (.tup [.lit (.int .i64 0), .lit (.int .i64 22)])) (.ask (lk dnN n f k s h p = (1 : Nat) ∨ lk dnN n f k s h p = (2 : Nat)) (.ask (lk OwAsk n f k s h L (lk
      nv (lk dnF n f p) (nat_lit 0)) (lk prY (lk dnN n f k s h p) (lk dnF n f p))) (.ret (.tup [.lit (.int .i64 (lk owX n f k s h L (lk ixF (lk nv (lk dnF n f p) (nat_lit 0)) (lk prY (lk
      dnN n f k s h p) (lk dnF n f p))))), .lit (.int .i64 0)]))))))) := by kernel_rfl
theorem has_64 {r : R3} (h : RR r) {v : Int} (hv : hasR r v = true) : I64 v := by
  obtain ⟨a1, a2, _⟩ := rr_64 h
  obtain ⟨_, h1, h2, _⟩ := (of_decide_eq_true hv : chk (rA r) (rB r) (rC r) = 0 ∧ rA r ≤ v ∧ v ≤ rB r ∧ (v - rA r) % rC r = 0)
  unfold I64 at *; omega
section
variable {n : Nat} {f : Nat → R3} {k s h L : Int} {m : Nat} {e : Nat → R1} {p : Int}
theorem hasD_has (hh : hasD n f k s h m e = true) : chD n f k s h = 0 ∧ m = n ∧ hasR (f 0) (nv e 0) = true ∧ (n = 2 → hasR (f 1) (nv e 1) = true) := of_decide_eq_true hh
theorem ask_of (hd : dmE n f k s h L = 0) (hh : hasD n f k s h m e = true) : (m = 1 ∨ m = 2) ∧ OwAsk n f k s h L (nv e 0) (prY m e) ∧ owX n f k s h L (ixF (nv e 0) (prY m e)) = owX n f k s h L e := by
  obtain ⟨hc, rfl, h1, h2⟩ := hasD_has hh
  obtain ⟨d1, _⟩ := chD_zero.1 hc
  have hn := d1.1
  refine ⟨hn, ⟨hd, h1, ?_⟩, owX_congr (by omega) (ixF_congr m e hn)⟩
  unfold prY
  split
  · unfold I64; omega
  · exact has_64 (d1.2 1 (by omega)) (h2 (by omega))
/-- What Nth finds. -/
theorem dn_has (hc : chD n f k s h = 0) (he : dnE n f k s h p = 0) : dnN n f k s h p = n ∧ hasD n f k s h n (dnF n f p) = true ∧ ∃ i : Nat, p = (i : Int) ∧ i < szDn n f k s h := by
  have hz := (dr_prod (chD_zero.1 hc).1).1
  have hi : ¬ (p < 0 ∨ szR (f 0) * colD n f ≤ p) := fun w => by
    unfold dnE at he
    rw [if_neg (by simp [hc]), if_pos (by rw [szD_right hc]; exact w)] at he; omega
  have hlt : p.toNat < szDn n f k s h := by unfold szDn; rw [szD_right hc]; omega
  have ep : p = (p.toNat : Int) := by omega
  obtain ⟨i1, i2, i3⟩ := ix_all hc hlt
  obtain ⟨z1, z2⟩ := dn_zero hc hlt
  rw [← ep] at z2
  refine ⟨z2, ?_, p.toNat, ep, hlt⟩
  obtain ⟨_, _, g1, g2⟩ := hasD_has i2
  have hn := (chD_zero.1 hc).1.1
  have e0 := i1 0 (by omega)
  rw [← ep] at e0 i1
  refine decide_eq_true ⟨hc, rfl, ?_, fun h2 => ?_⟩
  · rw [e0]; exact g1
  · rw [i1 1 (by omega)]; exact g2 h2
theorem oa_at (hd : dmE n f k s h L = 0) {i : Nat} (hi : i < szDn n f k s h) : oaE n f k s h L i = 0 ∧ oaV n f k s h L i = owP n f k s h L i := by
  have hc := (dmE_zero.1 hd).2.2.1
  obtain ⟨z1, z2⟩ := dn_zero hc hi
  have e0 : oaE n f k s h L i = 0 := by unfold oaE; rw [if_neg (by simp [hd]), if_neg (by simp [z1])]
  refine ⟨e0, ?_⟩
  unfold oaV
  rw [if_neg (by simp [e0]), ← owX_eq hc hi]
  have hn := (chD_zero.1 hc).1.1
  exact owX_congr (by omega) fun j hj => by
    show (dnF n f i j).1 = _
    rw [(ix_all hc hi).1 j hj]; rfl
end
theorem OwnerAt_ok : ConOK P 50 c_OwnerAt := con_of (allOK mixed kU2_ok) 10 50 fun args r hh => by
  unfold c_OwnerAt at hh
  split at hh
  · rename_i n f k s h L p
    obtain ⟨d, ip⟩ := (T.is_ask hh).1
    obtain rfl := T.is_ret (T.is_ask hh).2
    refine T.all_of_eq (t_OwnerAt n f k s h L p) ?_
    simp only [lk_eq]
    have key : ∀ v x, v = oaV n f k s h L p → x = oaE n f k s h L p → SV.tup [.lit (.int .i64 v), .lit (.int .i64 x)] = SV.tup [.lit (.int .i64 (oaV n f k s h L p)), .lit (.int .i64 (oaE n f k s h L p))] := fun v x h1 h2 => by rw [h1, h2]
    have eV : oaE n f k s h L p ≠ 0 → 0 = oaV n f k s h L p := fun w => by unfold oaV; rw [if_pos w]
    refine ⟨d, fun g => ?_, fun g => ⟨⟨d, ip⟩, fun g2 => ?_, fun g2 => ?_⟩⟩
    · have g := U.ne_t.mp g
      have e1 : dmE n f k s h L = oaE n f k s h L p := by unfold oaE; rw [if_pos g]
      exact key _ _ (eV (by rw [← e1]; exact g)) e1
    · have g := U.ne_f.mp g
      have g2 := U.ne_t.mp g2
      have e1 : 22 = oaE n f k s h L p := by unfold oaE; rw [if_neg (by simp [g]), if_pos g2]
      exact key _ _ (eV (by omega)) e1
    · have g := U.ne_f.mp g
      have g2 := U.ne_f.mp g2
      obtain ⟨b1, b2, _⟩ := dn_has (dmE_zero.1 g).2.2.1 g2
      obtain ⟨a1, a2, a3⟩ := ask_of (L := L) g b2
      have e1 : oaE n f k s h L p = 0 := by unfold oaE; rw [if_neg (by simp [g]), if_neg (by simp [g2])]
      rw [b1]
      exact ⟨a1, a2, key _ _ (by rw [a3]; unfold oaV; rw [if_neg (by simp [e1])]) e1.symm⟩
  · exact hh.elim
end Go.RX.Span

/- Domain maps: the reference's Check, Owner, OwnerAt. -/
set_option linter.unusedVariables false
set_option linter.unusedSimpArgs false
set_option maxRecDepth 100000
namespace Go.RX.Span
open Go Go.RX
attribute [local irreducible] sx conB

set_option maxRecDepth 100000 in
theorem t_qdmCheck (n : Nat) (f : Nat → R3) (k s h L : Int) : conB Go.Proofs.Try.prog (conOf kQ0) noLoops 10 52 [.agg [.row [.int .i64, .int .i64, .int .i64] n f, .lit (.int .i64 k), .lit (.int .i64 s), .lit (.int .i64 h)], .lit (.int .i64 L)] =
    T.br (U.lt L (1 : Int)) (.ret (.lit (.int .i64 4))) (.br (U.gt L (8 : Int)) (.ret (.lit (.int .i64 4))) (.ask (Row64 n f) (.br (U.ne (lk chD n f k s h) (0 : Int)) (.ret (.lit (.int
      .i64 (lk chD n f k s h)))) (.br (U.eq k (0 : Int)) (.br (U.ge h L) (.ret (.lit (.int .i64 70))) (.ret (.lit (.int .i64 0)))) (.ret (.lit (.int .i64 0))))))) := by kernel_rfl
set_option maxRecDepth 100000 in
theorem t_qowner (n : Nat) (f : Nat → R3) (k s h L : Int) (m : Nat) (e : Nat → R1) : conB Go.Proofs.Try.prog (conOf kQ0) noLoops 10 137 [.agg [.row [.int .i64, .int .i64, .int .i64] n f, .lit (.int .i64 k), .lit (.int .i64 s), .lit (.int .i64 h)], .lit (.int .i64 L), .row [.int .i64] m e] =
    T.ask ((0 : Int) ≤ (0 : Int) ∧ (0 : Int) < ↑n) (.ask ((0 : Int) ≤ (0 : Int) ∧ (0 : Int) < ↑m) (.ask (I64 (f (U.toNat (0 : Int))).1 ∧ I64 (f (U.toNat (0 : Int))).2.1 ∧ I64 (f
      (U.toNat (0 : Int))).2.2.1) (.br (U.eq k (0 : Int)) (.ret (.lit (.int .i64 h))) (.br (U.eq k (1 : Int)) (.ask ((0 : Int) ≤ (0 : Int) ∧ (0 : Int) < ↑n) (.ask (I64 (f (U.toNat (0 :
      Int))).1 ∧ I64 (f (U.toNat (0 : Int))).2.1 ∧ I64 (f (U.toNat (0 : Int))).2.2.1) (.ask (lk size (f (U.toNat (0 : Int))).1 (f (U.toNat (0 : Int))).2.1 (f (U.toNat (0 : Int))).2.2.1 ≠
      (0 : Int)) (.ret (.lit (.int .i64 (U.quo .i64 (U.mul .i64 (lk pos (f (U.toNat (0 : Int))).1 (f (U.toNat (0 : Int))).2.1 (f (U.toNat (0 : Int))).2.2.1 (e (U.toNat (0 : Int))).1) L)
      (lk size (f (U.toNat (0 : Int))).1 (f (U.toNat (0 : Int))).2.1 (f (U.toNat (0 : Int))).2.2.1)))))))) (.br (U.eq k (2 : Int)) (.ask (L ≠ (0 : Int)) (.ret (.lit (.int .i64 (U.rem (lk
      pos (f (U.toNat (0 : Int))).1 (f (U.toNat (0 : Int))).2.1 (f (U.toNat (0 : Int))).2.2.1 (e (U.toNat (0 : Int))).1) L))))) (.br (U.eq k (3 : Int)) (.ask (s ≠ (0 : Int)) (.ask (L ≠ (0
      : Int)) (.ret (.lit (.int .i64 (U.rem (U.quo .i64 (lk pos (f (U.toNat (0 : Int))).1 (f (U.toNat (0 : Int))).2.1 (f (U.toNat (0 : Int))).2.2.1 (e (U.toNat (0 : Int))).1) s) L))))))
      (.ask (m ≤ (1000000 : Nat) ∧ I64s m e) (.ask (L ≠ (0 : Int)) (.ret (.lit (.int .i64 (U.rem (lk hashN e m) L)))))))))))) := by kernel_rfl
theorem qdmCheck_ok : ConOK P 52 c_dmCheck := con_of (allOK mixed kQ0_ok) 10 52 fun args r h => by
  unfold c_dmCheck at h
  split at h
  · rename_i n f k s h' L
    have d := (T.is_ask h).1
    obtain rfl := T.is_ret (T.is_ask h).2
    rw [t_qdmCheck]
    simp only [lk_eq]
    have key : ∀ x, x = dmE n f k s h' L → (SV.lit (.int .i64 x)) = SV.lit (.int .i64 (dmE n f k s h' L)) := fun x hx => by rw [hx]
    refine ⟨fun g => key _ ?_, fun g => ⟨fun g2 => key _ ?_, fun g2 => ⟨d, fun g3 => key _ ?_, fun g3 => ⟨fun g4 => ⟨fun g5 => key _ ?_, fun g5 => key _ ?_⟩, fun g4 => key _ ?_⟩⟩⟩⟩
    all_goals unfold dmE
    · have := U.lt_t.mp g; rw [if_pos (by omega)]
    · have := U.gt_t.mp g2; rw [if_pos (by omega)]
    · have a := U.lt_f.mp g; have b := U.gt_f.mp g2; have c := U.ne_t.mp g3
      rw [if_neg (by omega), if_pos c]
    · have a := U.lt_f.mp g; have b := U.gt_f.mp g2; have c := U.ne_f.mp g3
      have e := U.eq_t.mp g4; have e2 := U.ge_t.mp g5
      rw [if_neg (by omega), if_neg (by simp [c]), if_pos (by omega)]
    · have a := U.lt_f.mp g; have b := U.gt_f.mp g2; have c := U.ne_f.mp g3
      have e := U.eq_t.mp g4; have e2 := U.ge_f.mp g5
      rw [if_neg (by omega), if_neg (by simp [c]), if_neg (by omega)]
    · have a := U.lt_f.mp g; have b := U.gt_f.mp g2; have c := U.ne_f.mp g3
      have e := U.eq_f.mp g4
      rw [if_neg (by omega), if_neg (by simp [c]), if_neg (fun w => e w.1)]
  · exact h.elim
theorem qowner_ok : ConOK P 137 c_qowner := con_of (allOK mixed kQ0_ok) 10 137 fun args r h => by
  unfold c_qowner at h
  split at h
  · rename_i n f k s h' L m e
    obtain ⟨hd, rfl, hx, ie⟩ := (lk_eq QwAsk ▸ (T.is_ask h).1 : QwAsk n f k s h' L m e)
    obtain rfl := T.is_ret (T.is_ask h).2
    obtain ⟨l1, l8, hc, hl⟩ := dmE_zero.1 hd
    obtain ⟨d1, fit⟩ := chD_zero.1 hc
    have hn := d1.1
    have r0 := d1.2 0 (by omega)
    have i0 := rr_64 r0
    obtain ⟨q0, q1⟩ := posR_lt r0 hx
    have hsz := rr_size r0
    have q5 : posR (f 0) (nv e 0) ≤ 5000000 := by omega
    have s0 : 0 < szR (f 0) := by omega
    refine T.all_of_eq (t_qowner m f k s h' L m e) ?_
    simp only [lk_eq, tnO0]
    have key : ∀ v, v = owQ m f k s h' L (posR (f 0) (nv e 0)) e → SV.lit (.int .i64 v) = SV.lit (.int .i64 (owX m f k s h' L e)) := fun v hv => by rw [hv]; rfl
    refine ⟨⟨by omega, by omega⟩, ⟨by omega, by omega⟩, i0, fun g => key _ (ow_0 (U.eq_t.mp g) _ _).symm, fun g0 => ⟨fun g => ⟨⟨by omega, by omega⟩, i0, ?_, key _ (ow_1 (U.eq_t.mp g) _ _ (by omega) l8 q0 q5 s0)⟩,
      fun g1 => ⟨fun g => ⟨by omega, key _ (ow_2 (U.eq_t.mp g) _ _)⟩, fun g2 => ⟨fun g => ⟨?_, by omega, key _ (ow_3 (U.eq_t.mp g) _ _ q0 q5 ?_)⟩,
      fun g3 => ⟨⟨by omega, ie⟩, by omega, key _ (ow_4 ?_ _ _)⟩⟩⟩⟩⟩
    · show szR (f 0) ≠ 0
      omega
    · have := fit_k fit; have e := U.eq_t.mp g; omega
    · have := fit_k fit; have e := U.eq_t.mp g; omega
    · have := fit_k fit
      have a0 := U.eq_f.mp g0; have a1 := U.eq_f.mp g1; have a2 := U.eq_f.mp g2; have a3 := U.eq_f.mp g3
      omega
  · exact h.elim
noncomputable abbrev kQ1 : List (Nat × Con) := (52, c_dmCheck) :: (137, c_qowner) :: kQ0 --%K
theorem kQ1_ok : ∀ p ∈ kQ1, ConOK P p.1 p.2 := by
  intro p hp
  simp only [kQ1, List.mem_cons] at hp
  rcases hp with rfl | rfl | hp
  · exact qdmCheck_ok
  · exact qowner_ok
  · exact kQ0_ok p (by simpa [kQ0] using hp)
set_option maxRecDepth 100000 in
theorem t_qOwnerAt (n : Nat) (f : Nat → R3) (k s h L p : Int) : conB Go.Proofs.Try.prog (conOf kQ1) noLoops 10 51 [.agg [.row [.int .i64, .int .i64, .int .i64] n f, .lit (.int .i64 k), .lit (.int .i64 s), .lit (.int .i64 h)], .lit (.int .i64 L), .lit (.int .i64 p)] =
    T.ask (Row64 n f) (.br (U.ne (lk dmE n f k s h L) (0 : Int)) (.ret (.tup [.lit (.int .i64 0), .lit (.int .i64 (lk dmE n f k s h L))])) (.ask (Row64 n f ∧ I64 p) (.br (U.ne (lk dnE n
      f k s h p) (0 : Int)) (.ret (.tup [.lit (.int .i64 0), .lit (.int .i64 22)])) (.ask (lk QwAsk n f k s h L (lk dnN n f k s h p) (lk dnF n f p)) (.ret (.tup [.lit (.int .i64 (lk owX n
      f k s h L (lk dnF n f p))), .lit (.int .i64 0)])))))) := by kernel_rfl
theorem I64s_hasD {n : Nat} {f : Nat → R3} {k s h : Int} {m : Nat} {e : Nat → R1} (hh : hasD n f k s h m e = true) : I64s n e := fun i hi => by
  obtain ⟨hc, rfl, h1, h2⟩ := hasD_has hh
  obtain ⟨d1, _⟩ := chD_zero.1 hc
  have hn := d1.1
  rcases (show i = 0 ∨ i = 1 by omega) with rfl | rfl
  · exact has_64 (d1.2 0 (by omega)) h1
  · exact has_64 (d1.2 1 (by omega)) (h2 (by omega))
theorem qOwnerAt_ok : ConOK P 51 c_OwnerAt := con_of (allOK mixed kQ1_ok) 10 51 fun args r hh => by
  unfold c_OwnerAt at hh
  split at hh
  · rename_i n f k s h L p
    obtain ⟨d, ip⟩ := (T.is_ask hh).1
    obtain rfl := T.is_ret (T.is_ask hh).2
    refine T.all_of_eq (t_qOwnerAt n f k s h L p) ?_
    simp only [lk_eq]
    have key : ∀ v x, v = oaV n f k s h L p → x = oaE n f k s h L p → SV.tup [.lit (.int .i64 v), .lit (.int .i64 x)] = SV.tup [.lit (.int .i64 (oaV n f k s h L p)), .lit (.int .i64 (oaE n f k s h L p))] := fun v x h1 h2 => by rw [h1, h2]
    have eV : oaE n f k s h L p ≠ 0 → 0 = oaV n f k s h L p := fun w => by unfold oaV; rw [if_pos w]
    refine ⟨d, fun g => ?_, fun g => ⟨⟨d, ip⟩, fun g2 => ?_, fun g2 => ?_⟩⟩
    · have g := U.ne_t.mp g
      have e1 : dmE n f k s h L = oaE n f k s h L p := by unfold oaE; rw [if_pos g]
      exact key _ _ (eV (by rw [← e1]; exact g)) e1
    · have g := U.ne_f.mp g
      have g2 := U.ne_t.mp g2
      have e1 : 22 = oaE n f k s h L p := by unfold oaE; rw [if_neg (by simp [g]), if_pos g2]
      exact key _ _ (eV (by omega)) e1
    · have g := U.ne_f.mp g
      have g2 := U.ne_f.mp g2
      obtain ⟨b1, b2, _⟩ := dn_has (dmE_zero.1 g).2.2.1 g2
      obtain ⟨_, h1, h2, _⟩ := hasD_has b2
      have e1 : oaE n f k s h L p = 0 := by unfold oaE; rw [if_neg (by simp [g]), if_neg (by simp [g2])]
      rw [b1]
      exact ⟨⟨g, h1, h2, I64s_hasD b2⟩, key _ _ (by unfold oaV; rw [if_neg (by simp [e1])]) e1.symm⟩
  · exact hh.elim
end Go.RX.Span

/- Domain maps: the functions that say who owns: contracts. -/
set_option linter.unusedVariables false
set_option linter.unusedSimpArgs false
set_option maxRecDepth 100000
namespace Go.RX.Span
open Go Go.RX
attribute [local irreducible] sx conB

def dK (d : DE) : Int := d.2.1
def dS (d : DE) : Int := d.2.2.1
def dN (d : DE) : Nat := d.1.1
/-- The owner that the functions return, by what they have captured. -/
noncomputable def owC (d : DE) (L q x y : Int) : Int := owQ d.1.1 d.1.2 d.2.1 d.2.2.1 d.2.2.2.1 L q (ixF x y)
def OcAsk (w : Int) (d : DE) (L q x y : Int) : Prop := dmE d.1.1 d.1.2 d.2.1 d.2.2.1 d.2.2.2.1 L = 0 ∧ dK d = w ∧ 0 ≤ q ∧ q < szR (d.1.2 0) ∧ I64 x ∧ I64 y
def OcHome (d : DE) : Prop := dK d = 0
noncomputable abbrev ssL : List Sh := [.int .i64]
noncomputable abbrev rpL (fl : Nat → R1) : SV := .rptr [.int .i64] 1 fl 0 0
noncomputable def c_ow0 : Con := fun args => match args with
  | [.lit (.int .i64 q), .agg [.lit (.int .i64 x), .lit (.int .i64 y)], .rptr [.sl [.int .i64, .int .i64, .int .i64], .int .i64, .int .i64, .int .i64] 1 fd 0 0] => .ask (lk OcHome (fd 0)) (.ret (.lit (.int .i64 (lk owC (fd 0) 0 q x y))))
  | _ => .stuck 1
noncomputable def c_ow1 (w : Int) : Con := fun args => match args with
  | [.lit (.int .i64 q), .agg [.lit (.int .i64 x), .lit (.int .i64 y)], .rptr [.int .i64] 1 fl 0 0, .rptr [.sl [.int .i64, .int .i64, .int .i64], .int .i64, .int .i64, .int .i64] 1 fd 0 0] => .ask (lk OcAsk w (fd 0) (lk nv fl 0) q x y) (.ret (.lit (.int .i64 (lk owC (fd 0) (lk nv fl 0) q x y))))
  | _ => .stuck 1
noncomputable def c_ow2 (w : Int) : Con := fun args => match args with
  | [.lit (.int .i64 q), .agg [.lit (.int .i64 x), .lit (.int .i64 y)], .rptr [.sl [.int .i64, .int .i64, .int .i64], .int .i64, .int .i64, .int .i64] 1 fd 0 0, .rptr [.int .i64] 1 fl 0 0] => .ask (lk OcAsk w (fd 0) (lk nv fl 0) q x y) (.ret (.lit (.int .i64 (lk owC (fd 0) (lk nv fl 0) q x y))))
  | _ => .stuck 1
noncomputable def c_ow3 : Con := fun args => match args with
  | [.lit (.int .i64 q), .agg [.lit (.int .i64 x), .lit (.int .i64 y)], .rptr [.int .i64] 1 fl 0 0] => .ask (lk nv fl 0 ≠ 0) (.ret (.lit (.int .i64 (U.rem q (lk nv fl 0)))))
  | _ => .stuck 1
noncomputable def c_owners : Con := fun args => match args with
  | [.agg [.row [.int .i64, .int .i64, .int .i64] n f, .lit (.int .i64 k), .lit (.int .i64 s), .lit (.int .i64 h)], .lit (.int .i64 L)] =>
    .ret (.agg [.fn (.func 224) [] [rpD fun _ => ((n, f), k, s, h, ())], .fn (.func 225) [] [rpL fun _ => (L, ()), rpD fun _ => ((n, f), k, s, h, ())], .fn (.func 226) [] [rpL fun _ => (L, ())], .fn (.func 227) [] [rpD fun _ => ((n, f), k, s, h, ()), rpL fun _ => (L, ())], .fn (.func 228) [] [rpD fun _ => ((n, f), k, s, h, ()), rpL fun _ => (L, ())]])
  | _ => .stuck 1
end Go.RX.Span

/- Domain maps: the functions that say who owns. -/
set_option linter.unusedVariables false
set_option linter.unusedSimpArgs false
set_option maxRecDepth 100000
namespace Go.RX.Span
open Go Go.RX
attribute [local irreducible] sx conB

--%R ofList\s+\[\((\S+),\s+\(\)\) => ofList (ss := [.int .i64]) [(\1, ())
--%R ↑\((2) : Nat\) => ((\1 : Nat) : Int)
set_option maxRecDepth 100000 in
theorem t_ow0 (fd : Nat → DE) (q x y : Int) : conB Go.Proofs.Try.prog (conOf kU0) noLoops 10 224 [.lit (.int .i64 q), .agg [.lit (.int .i64 x), .lit (.int .i64 y)], rpD fd] =
    T.ret (.lit (.int .i64 (fd (0 : Nat)).2.2.2.1)) := by kernel_rfl
set_option maxRecDepth 100000 in
theorem t_ow1 (fd : Nat → DE) (fl : Nat → R1) (q x y : Int) : conB Go.Proofs.Try.prog (conOf kU0) noLoops 10 225 [.lit (.int .i64 q), .agg [.lit (.int .i64 x), .lit (.int .i64 y)], rpL fl, rpD fd] =
    T.ask ((0 : Int) ≤ (0 : Int) ∧ (0 : Int) < ↑(fd (0 : Nat)).fst.1) (.ask (I64 ((fd (0 : Nat)).fst.snd (U.toNat (0 : Int))).1 ∧ I64 ((fd (0 : Nat)).fst.snd (U.toNat (0 : Int))).2.1 ∧
      I64 ((fd (0 : Nat)).fst.snd (U.toNat (0 : Int))).2.2.1) (.ask (lk size ((fd (0 : Nat)).fst.snd (U.toNat (0 : Int))).1 ((fd (0 : Nat)).fst.snd (U.toNat (0 : Int))).2.1 ((fd (0 :
      Nat)).fst.snd (U.toNat (0 : Int))).2.2.1 ≠ (0 : Int)) (.ret (.lit (.int .i64 (U.quo .i64 (U.mul .i64 q (fl (0 : Nat)).1) (lk size ((fd (0 : Nat)).fst.snd (U.toNat (0 : Int))).1 ((fd
      (0 : Nat)).fst.snd (U.toNat (0 : Int))).2.1 ((fd (0 : Nat)).fst.snd (U.toNat (0 : Int))).2.2.1))))))) := by kernel_rfl
set_option maxRecDepth 100000 in
theorem t_ow2 (fl : Nat → R1) (q x y : Int) : conB Go.Proofs.Try.prog (conOf kU0) noLoops 10 226 [.lit (.int .i64 q), .agg [.lit (.int .i64 x), .lit (.int .i64 y)], rpL fl] =
    T.ask ((fl (0 : Nat)).1 ≠ (0 : Int)) (.ret (.lit (.int .i64 (U.rem q (fl (0 : Nat)).1)))) := by kernel_rfl
set_option maxRecDepth 100000 in
theorem t_ow3 (fd : Nat → DE) (fl : Nat → R1) (q x y : Int) : conB Go.Proofs.Try.prog (conOf kU0) noLoops 10 227 [.lit (.int .i64 q), .agg [.lit (.int .i64 x), .lit (.int .i64 y)], rpD fd, rpL fl] =
    T.ask ((fd (0 : Nat)).2.2.1 ≠ (0 : Int)) (.ask ((fl (0 : Nat)).1 ≠ (0 : Int)) (.ret (.lit (.int .i64 (U.rem (U.quo .i64 q (fd (0 : Nat)).2.2.1) (fl (0 : Nat)).1))))) := by kernel_rfl
set_option maxRecDepth 100000 in
theorem t_ow4 (fd : Nat → DE) (fl : Nat → R1) (q x y : Int) : conB Go.Proofs.Try.prog (conOf kU0) noLoops 10 228 [.lit (.int .i64 q), .agg [.lit (.int .i64 x), .lit (.int .i64 y)], rpD fd, rpL fl] =
    T.ask ((0 : Int) ≤ Int.ofNat (fd (0 : Nat)).fst.1 ∧ Int.ofNat (fd (0 : Nat)).fst.1 ≤ ((2 : Nat) : Int)) (.ask (U.toNat (Int.ofNat (fd (0 : Nat)).fst.1) ≤ (1000000 : Nat) ∧ I64s
      (U.toNat (Int.ofNat (fd (0 : Nat)).fst.1)) (ofList (ss := [.int .i64]) [(y, ()), (x, ())].reverse)) (.ask ((fl (0 : Nat)).1 ≠ (0 : Int)) (.ret (.lit (.int .i64 (U.rem (lk hashN
      (ofList (ss := [.int .i64]) [(y, ()), (x, ())].reverse) (U.toNat (Int.ofNat (fd (0 : Nat)).fst.1))) (fl (0 : Nat)).1)))))) := by kernel_rfl
set_option maxRecDepth 100000 in
theorem t_owners (n : Nat) (f : Nat → R3) (k s h L : Int) : conB Go.Proofs.Try.prog (conOf kU0) noLoops 10 188 [.agg [.row [.int .i64, .int .i64, .int .i64] n f, .lit (.int .i64 k), .lit (.int .i64 s), .lit (.int .i64 h)], .lit (.int .i64 L)] =
    T.ret (.agg [SV.fn (Fn.func (nat_lit 224)) [] [SV.rptr [.sl [.int .i64, .int .i64, .int .i64], .int .i64, .int .i64, .int .i64] (nat_lit 1) (fun x => ((n, f), k, s, h, PUnit.unit))
      (nat_lit 0) (nat_lit 0)], SV.fn (Fn.func (nat_lit 225)) [] [SV.rptr [.int .i64] (nat_lit 1) (fun x => (L, PUnit.unit)) (nat_lit 0) (nat_lit 0), SV.rptr [.sl [.int .i64, .int .i64,
      .int .i64], .int .i64, .int .i64, .int .i64] (nat_lit 1) (fun x => ((n, f), k, s, h, PUnit.unit)) (nat_lit 0) (nat_lit 0)], SV.fn (Fn.func (nat_lit 226)) [] [SV.rptr [.int .i64]
      (nat_lit 1) (fun x => (L, PUnit.unit)) (nat_lit 0) (nat_lit 0)], SV.fn (Fn.func (nat_lit 227)) [] [SV.rptr [.sl [.int .i64, .int .i64, .int .i64], .int .i64, .int .i64, .int .i64]
      (nat_lit 1) (fun x => ((n, f), k, s, h, PUnit.unit)) (nat_lit 0) (nat_lit 0), SV.rptr [.int .i64] (nat_lit 1) (fun x => (L, PUnit.unit)) (nat_lit 0) (nat_lit 0)], SV.fn (Fn.func
      (nat_lit 228)) [] [SV.rptr [.sl [.int .i64, .int .i64, .int .i64], .int .i64, .int .i64, .int .i64] (nat_lit 1) (fun x => ((n, f), k, s, h, PUnit.unit)) (nat_lit 0) (nat_lit 0),
      SV.rptr [.int .i64] (nat_lit 1) (fun x => (L, PUnit.unit)) (nat_lit 0) (nat_lit 0)]]) := by kernel_rfl
theorem owners_ok : ConOK P 188 c_owners := con_of (allOK mixed kU0_ok) 10 188 fun args r h => by
  unfold c_owners at h
  split at h
  · rename_i n f k s h' L
    obtain rfl := T.is_ret h
    rw [t_owners]
    rfl
  · exact h.elim
theorem ow0_ok : ConOK P 224 c_ow0 := con_of (allOK mixed kU0_ok) 10 224 fun args r h => by
  unfold c_ow0 at h
  split at h
  · rename_i q x y fd
    have h0 := (lk_eq OcHome ▸ (T.is_ask h).1 : OcHome (fd 0))
    obtain rfl := T.is_ret (T.is_ask h).2
    refine T.all_of_eq (t_ow0 fd q x y) ?_
    simp only [lk_eq]
    have e : owC (fd 0) 0 q x y = (fd 0).2.2.2.1 := ow_0 h0 q _
    rw [e]; rfl
  · exact h.elim
theorem oc_facts {w : Int} {d : DE} {L q x y : Int} (h : OcAsk w d L q x y) : 1 ≤ L ∧ L ≤ 8 ∧ (dN d = 1 ∨ dN d = 2) ∧ (I64 (d.1.2 0).1 ∧ I64 (d.1.2 0).2.1 ∧ I64 (d.1.2 0).2.2.1) ∧ 0 < szR (d.1.2 0) ∧ q ≤ 5000000 ∧ (dK d = 3 → 0 < dS d) := by
  obtain ⟨hd, hk, q0, q1, ix, iy⟩ := h
  obtain ⟨l1, l8, hc, _⟩ := dmE_zero.1 hd
  obtain ⟨d1, fit⟩ := chD_zero.1 hc
  have hn := d1.1
  have r0 := d1.2 0 (by omega)
  have hsz := rr_size r0
  refine ⟨l1, l8, hn, rr_64 r0, by omega, by omega, fun e => ?_⟩
  have := fit_k fit
  have this : dK d = 0 ∨ dK d = 1 ∨ dK d = 2 ∨ (dK d = 3 ∧ 1 ≤ dS d ∧ dS d ≤ 1000) ∨ dK d = 4 := this
  omega
theorem ow1_ok : ConOK P 225 (c_ow1 1) := con_of (allOK mixed kU0_ok) 10 225 fun args r h => by
  unfold c_ow1 at h
  split at h
  · rename_i q x y fl fd
    have h0 := (lk_eq OcAsk ▸ (T.is_ask h).1 : OcAsk 1 (fd 0) (lk nv fl 0) q x y)
    obtain rfl := T.is_ret (T.is_ask h).2
    rw [lk_eq] at h0
    obtain ⟨l1, l8, hn, i0, s0, q5, _⟩ := oc_facts h0
    refine T.all_of_eq (t_ow1 fd fl q x y) ?_
    simp only [lk_eq, tnO0]
    refine ⟨⟨by omega, ?_⟩, i0, ?_, ?_⟩
    · show (0 : Int) < ((dN (fd 0) : Nat) : Int)
      omega
    · show szR ((fd 0).1.2 0) ≠ 0
      omega
    · have e := ow_1 (n := (fd 0).1.1) (f := (fd 0).1.2) (s := (fd 0).2.2.1) (h := (fd 0).2.2.2.1) (L := nv fl 0) h0.2.1 q (ixF x y) (by omega) l8 h0.2.2.1 q5 s0
      exact congrArg (fun v => SV.lit (.int .i64 v)) e
  · exact h.elim
theorem ow3_ok : ConOK P 226 c_ow3 := con_of (allOK mixed kU0_ok) 10 226 fun args r h => by
  unfold c_ow3 at h
  split at h
  · rename_i q x y fl
    have h0 := (T.is_ask h).1
    obtain rfl := T.is_ret (T.is_ask h).2
    refine T.all_of_eq (t_ow2 fl q x y) ?_
    rw [lk_eq] at h0 ⊢
    exact ⟨h0, rfl⟩
  · exact h.elim
theorem ow2_ok : ConOK P 227 (c_ow2 3) := con_of (allOK mixed kU0_ok) 10 227 fun args r h => by
  unfold c_ow2 at h
  split at h
  · rename_i q x y fd fl
    have h0 := (lk_eq OcAsk ▸ (T.is_ask h).1 : OcAsk 3 (fd 0) (lk nv fl 0) q x y)
    obtain rfl := T.is_ret (T.is_ask h).2
    rw [lk_eq] at h0
    obtain ⟨l1, l8, hn, i0, s0, q5, hs⟩ := oc_facts h0
    have hs := hs h0.2.1
    refine T.all_of_eq (t_ow3 fd fl q x y) ?_
    simp only [lk_eq]
    refine ⟨?_, ?_, ?_⟩
    · show dS (fd 0) ≠ 0
      omega
    · show nv fl 0 ≠ 0
      omega
    · have e := ow_3 (n := (fd 0).1.1) (f := (fd 0).1.2) (s := (fd 0).2.2.1) (h := (fd 0).2.2.2.1) (L := nv fl 0) h0.2.1 q (ixF x y) h0.2.2.1 q5 hs
      exact congrArg (fun v => SV.lit (.int .i64 v)) e
  · exact h.elim
theorem ow4_ok : ConOK P 228 (c_ow2 4) := con_of (allOK mixed kU0_ok) 10 228 fun args r h => by
  unfold c_ow2 at h
  split at h
  · rename_i q x y fd fl
    have h0 := (lk_eq OcAsk ▸ (T.is_ask h).1 : OcAsk 4 (fd 0) (lk nv fl 0) q x y)
    obtain rfl := T.is_ret (T.is_ask h).2
    rw [lk_eq] at h0
    obtain ⟨l1, l8, hn, i0, s0, q5, _⟩ := oc_facts h0
    obtain ⟨_, hk4, _, _, ix, iy⟩ := h0
    refine T.all_of_eq (t_ow4 fd fl q x y) ?_
    simp only [lk_eq, tnOf]
    refine ⟨⟨Int.natCast_nonneg _, ?_⟩, ⟨?_, fun i hi => ?_⟩, ?_, ?_⟩
    · show ((dN (fd 0) : Nat) : Int) ≤ 2
      omega
    · show dN (fd 0) ≤ 1000000
      omega
    · have hi : i < dN (fd 0) := hi
      rcases (show i = 0 ∨ i = 1 by omega) with rfl | rfl
      · exact ix
      · exact iy
    · show nv fl 0 ≠ 0
      omega
    · have e := ow_4 (n := (fd 0).1.1) (f := (fd 0).1.2) (s := (fd 0).2.2.1) (h := (fd 0).2.2.2.1) (L := nv fl 0) hk4 q (ixF x y)
      exact congrArg (fun v => SV.lit (.int .i64 v)) e
  · exact h.elim
noncomputable abbrev kA0 : List (Nat × Con) := [(224, c_ow0), (225, c_ow1 1), (226, c_ow3), (227, c_ow2 3), (228, c_ow2 4), (188, c_owners), (28, c_Size), (172, c_DAll)] --%K
theorem kA0_ok : ∀ p ∈ kA0, ConOK P p.1 p.2 := by
  intro p hp
  simp only [kA0, List.mem_cons, List.not_mem_nil, or_false] at hp
  rcases hp with rfl | rfl | rfl | rfl | rfl | rfl | rfl | rfl
  · exact ow0_ok
  · exact ow1_ok
  · exact ow3_ok
  · exact ow2_ok
  · exact ow4_ok
  · exact owners_ok
  · exact Size_ok
  · exact DAll_ok
end Go.RX.Span

/- Domain maps: all positions with their owners: the states. -/
set_option linter.unusedVariables false
set_option linter.unusedSimpArgs false
set_option maxRecDepth 100000
namespace Go.RX.Span
open Go Go.RX
attribute [local irreducible] sx conB

/-- The function that says who owns, by the kind of the map. -/
noncomputable def ofV (k : Int) (d : DE) (L : Int) : SV :=
  if k = 0 then .fn (.func 224) [] [rpD fun _ => d] else if k = 1 then .fn (.func 225) [] [rpL fun _ => (L, ()), rpD fun _ => d] else if k = 2 then .fn (.func 226) [] [rpL fun _ => (L, ())]
  else if k = 3 then .fn (.func 227) [] [rpD fun _ => d, rpL fun _ => (L, ())] else .fn (.func 228) [] [rpD fun _ => d, rpL fun _ => (L, ())]
noncomputable def dOw (d : DE) (L : Int) (p : Nat) : Int := owP d.1.1 d.1.2 d.2.1 d.2.2.1 d.2.2.2.1 L p
def dSz (d : DE) : Nat := szDn d.1.1 d.1.2 d.2.1 d.2.2.1 d.2.2.2.1
def dDm (d : DE) (L : Int) : Int := dmE d.1.1 d.1.2 d.2.1 d.2.2.1 d.2.2.2.1 L
def dCol (d : DE) : Int := ((colN d.1.1 d.1.2 : Nat) : Int)
/-- What is yielded. -/
noncomputable def elA (d : DE) (L : Int) (p : Nat) : List Value := [.int .i64 (p : Int), .int .i64 (dOw d L p)]
def PreA (n0 : Nat) (K : Cons) (d : DE) (L : Int) (c : Nat) (el : Nat → List Value) : Prop := n0 ≤ 4 ∧ K.P = P ∧ dDm d L = 0 ∧ c = dSz d ∧ el = elD d.1.1 d.1.2 ∧ K.n = c ∧ K.el = elA d L
structure XA where
  (K : Cons) (fd : Nat → DE) (fl : Nat → R1) (c : Nat) (el : Nat → List Value)
noncomputable abbrev slA (fd : Nat → DE) (fl : Nat → R1) : List SV := [rpD fd, rpL fl, .ptr 1 0, .ptr 2 0, .ptr 3 0]
noncomputable abbrev memA (K : Cons) (i : Nat) (fv : SV) (C : Int) : Mem := [(0, some (.seq true K i)), (0, some (.cells [yieldV K] 44)), (0, some (.cells [fv] 182)), (0, some (.cells [.lit (.int .i64 C)] 3))]
noncomputable abbrev memA' (K : Cons) (i : Nat) : Mem := [(0, some (.seq false K i)), (0, none), (0, none), (0, none)]
def ColOk (cv : SV) (C : Int) : Prop := cv = .lit (.int .i64 C) ∨ (cv = .ki .i64 1 ∧ C = 1)
noncomputable def gA : Nat → Nat → (Nat → List Value) → Few → T (Ex × Few)
  | n0, c, el, ([.rptr ss 1 fd 0 0, .rptr ss2 1 fl 0 0, .ptr 1 0, .ptr 2 0, .ptr 3 0], [(_, some (.seq true K 0)), (_, some (.cells [.lit (.func (.yield l) ⟨[]⟩ ⟨[]⟩)] t1)), (_, some (.cells [fv] t2)), (_, some (.cells [cv] t3))]) =>
    if e : eqShs ss ssD = true ∧ eqShs ss2 ssL = true then
      .ask (lk PreA n0 K (castEls e.1 fd 0) (lk nv (castEls e.2 fl) 0) c el ∧ fv = ofV (dK (castEls e.1 fd 0)) (castEls e.1 fd 0) (lk nv (castEls e.2 fl) 0) ∧ ColOk cv (lk dCol (castEls e.1 fd 0)) ∧ K.l = l ∧ t1 = 44 ∧ t2 = 182 ∧ t3 = 3)
        (.br (lk okB K 0 c) (.ret (.normal, (slA (castEls e.1 fd) (castEls e.2 fl), memA K c fv (lk dCol (castEls e.1 fd 0))))) (.ret (.ret, (slA (castEls e.1 fd) (castEls e.2 fl), memA' K (lk stopA K 0 c + 1)))))
    else .stuck 2
  | _, _, _, _ => .stuck 1
noncomputable abbrev cdA : Code := rangeOf P 223 1006 --%K
noncomputable abbrev asA : Code := match rangeOf P 223 1006 with | .rangeFunc _ _ a _ => a | _ => .skip --%K
noncomputable abbrev bdA : Code := match rangeOf P 223 1006 with | .rangeFunc _ _ _ b => b | _ => .skip --%K
noncomputable abbrev EA : Env := ⟨P, conOf kA0, scall P (conOf kA0) noLoops 10⟩
end Go.RX.Span

/- Domain maps: all positions with their owners: the walk. -/
set_option linter.unusedVariables false
set_option linter.unusedSimpArgs false
set_option maxRecDepth 100000
namespace Go.RX.Span
open Go Go.RX
attribute [local irreducible] sx conB

set_option maxRecDepth 100000 in
theorem t_A0 (K : Cons) (fd : Nat → DE) (fl : Nat → R1) (i : Nat) (p x y C : Int) : (sxR EA [] 4 #[26, 27] asA bdA [.int .i64 p, .agg #[.int .i64 x, .int .i64 y]] (mkS 38 [1,2,3,4,5] (slA fd fl), memA K i (.fn (.func 224) [] [rpD fun _ => fd 0]) C)).bind (fun r => .ret (r.1, r.2.2)) =
    T.ask (C ≠ (0 : Int)) (.ask (lk OcHome ((fun x => fd (0 : Nat)) (0 : Nat))) (.ask (YldAsk EA.P K.5 K i [.int .i64 p, .int .i64 (lk owC (fd (nat_lit 0)) (0 : Int) (U.quo .i64 p C) x
      y)]) (.br (K.4 i) (.ret (Ex.normal, [(nat_lit 1, some (Blk.seq true K (i.add (nat_lit 1)))), (nat_lit 0, some (Blk.cells [.lit (Value.func (Fn.yield K.5) { toList := [] } { toList
      := [] })] (nat_lit 44))), (nat_lit 0, some (Blk.cells [SV.fn (Fn.func (nat_lit 224)) [] [SV.rptr [.sl [.int .i64, .int .i64, .int .i64], .int .i64, .int .i64, .int .i64] (nat_lit 1)
      (fun x => fd (nat_lit 0)) (nat_lit 0) (nat_lit 0)]] (nat_lit 182))), (nat_lit 0, some (Blk.cells [.lit (.int .i64 C)] (nat_lit 3))), (nat_lit 1, some (Blk.cells [.lit (.int .i64 x),
      .lit (.int .i64 y)] (nat_lit 103)))])) (.ret (Ex.ret, [(nat_lit 1, some (Blk.seq false K (i.add (nat_lit 1)))), (nat_lit 0, some (Blk.cells [.lit (Value.func (Fn.yield K.5) { toList
      := [] } { toList := [] })] (nat_lit 44))), (nat_lit 0, some (Blk.cells [SV.fn (Fn.func (nat_lit 224)) [] [SV.rptr [.sl [.int .i64, .int .i64, .int .i64], .int .i64, .int .i64, .int
      .i64] (nat_lit 1) (fun x => fd (nat_lit 0)) (nat_lit 0) (nat_lit 0)]] (nat_lit 182))), (nat_lit 0, some (Blk.cells [.lit (.int .i64 C)] (nat_lit 3))), (nat_lit 1, some (Blk.cells
      [.lit (.int .i64 x), .lit (.int .i64 y)] (nat_lit 103)))]))))) := by kernel_rfl
set_option maxRecDepth 100000 in
theorem t_A1 (K : Cons) (fd : Nat → DE) (fl : Nat → R1) (i : Nat) (p x y C : Int) : (sxR EA [] 4 #[26, 27] asA bdA [.int .i64 p, .agg #[.int .i64 x, .int .i64 y]] (mkS 38 [1,2,3,4,5] (slA fd fl), memA K i (.fn (.func 225) [] [rpL fun _ => (nv fl 0, ()), rpD fun _ => fd 0]) C)).bind (fun r => .ret (r.1, r.2.2)) =
    T.ask (C ≠ (0 : Int)) (.ask (lk OcAsk (1 : Int) ((fun x => fd (0 : Nat)) (0 : Nat)) (lk nv (fun x => ((fl (0 : Nat)).1, PUnit.unit)) (nat_lit 0)) (U.quo .i64 p C) x y) (.ask (YldAsk
      EA.P K.5 K i [.int .i64 p, .int .i64 (lk owC (fd (nat_lit 0)) (lk nv (fun x => ((fl (0 : Nat)).1, PUnit.unit)) (nat_lit 0)) (U.quo .i64 p C) x y)]) (.br (K.4 i) (.ret (Ex.normal,
      [(nat_lit 1, some (Blk.seq true K (i.add (nat_lit 1)))), (nat_lit 0, some (Blk.cells [.lit (Value.func (Fn.yield K.5) { toList := [] } { toList := [] })] (nat_lit 44))), (nat_lit 0,
      some (Blk.cells [SV.fn (Fn.func (nat_lit 225)) [] [SV.rptr [.int .i64] (nat_lit 1) (fun x => ((fl (0 : Nat)).1, PUnit.unit)) (nat_lit 0) (nat_lit 0), SV.rptr [.sl [.int .i64, .int
      .i64, .int .i64], .int .i64, .int .i64, .int .i64] (nat_lit 1) (fun x => fd (nat_lit 0)) (nat_lit 0) (nat_lit 0)]] (nat_lit 182))), (nat_lit 0, some (Blk.cells [.lit (.int .i64 C)]
      (nat_lit 3))), (nat_lit 1, some (Blk.cells [.lit (.int .i64 x), .lit (.int .i64 y)] (nat_lit 103)))])) (.ret (Ex.ret, [(nat_lit 1, some (Blk.seq false K (i.add (nat_lit 1)))),
      (nat_lit 0, some (Blk.cells [.lit (Value.func (Fn.yield K.5) { toList := [] } { toList := [] })] (nat_lit 44))), (nat_lit 0, some (Blk.cells [SV.fn (Fn.func (nat_lit 225)) []
      [SV.rptr [.int .i64] (nat_lit 1) (fun x => ((fl (0 : Nat)).1, PUnit.unit)) (nat_lit 0) (nat_lit 0), SV.rptr [.sl [.int .i64, .int .i64, .int .i64], .int .i64, .int .i64, .int .i64]
      (nat_lit 1) (fun x => fd (nat_lit 0)) (nat_lit 0) (nat_lit 0)]] (nat_lit 182))), (nat_lit 0, some (Blk.cells [.lit (.int .i64 C)] (nat_lit 3))), (nat_lit 1, some (Blk.cells [.lit
      (.int .i64 x), .lit (.int .i64 y)] (nat_lit 103)))]))))) := by kernel_rfl
set_option maxRecDepth 100000 in
theorem t_A2 (K : Cons) (fd : Nat → DE) (fl : Nat → R1) (i : Nat) (p x y C : Int) : (sxR EA [] 4 #[26, 27] asA bdA [.int .i64 p, .agg #[.int .i64 x, .int .i64 y]] (mkS 38 [1,2,3,4,5] (slA fd fl), memA K i (.fn (.func 226) [] [rpL fun _ => (nv fl 0, ())]) C)).bind (fun r => .ret (r.1, r.2.2)) =
    T.ask (C ≠ (0 : Int)) (.ask (lk nv (fun x => ((fl (0 : Nat)).1, PUnit.unit)) (nat_lit 0) ≠ (0 : Int)) (.ask (YldAsk EA.P K.5 K i [.int .i64 p, .int .i64 (U.rem (U.quo .i64 p C) (lk
      nv (fun x => ((fl (0 : Nat)).1, PUnit.unit)) (nat_lit 0)))]) (.br (K.4 i) (.ret (Ex.normal, [(nat_lit 1, some (Blk.seq true K (i.add (nat_lit 1)))), (nat_lit 0, some (Blk.cells
      [.lit (Value.func (Fn.yield K.5) { toList := [] } { toList := [] })] (nat_lit 44))), (nat_lit 0, some (Blk.cells [SV.fn (Fn.func (nat_lit 226)) [] [SV.rptr [.int .i64] (nat_lit 1)
      (fun x => ((fl (0 : Nat)).1, PUnit.unit)) (nat_lit 0) (nat_lit 0)]] (nat_lit 182))), (nat_lit 0, some (Blk.cells [.lit (.int .i64 C)] (nat_lit 3))), (nat_lit 1, some (Blk.cells
      [.lit (.int .i64 x), .lit (.int .i64 y)] (nat_lit 103)))])) (.ret (Ex.ret, [(nat_lit 1, some (Blk.seq false K (i.add (nat_lit 1)))), (nat_lit 0, some (Blk.cells [.lit (Value.func
      (Fn.yield K.5) { toList := [] } { toList := [] })] (nat_lit 44))), (nat_lit 0, some (Blk.cells [SV.fn (Fn.func (nat_lit 226)) [] [SV.rptr [.int .i64] (nat_lit 1) (fun x => ((fl (0 :
      Nat)).1, PUnit.unit)) (nat_lit 0) (nat_lit 0)]] (nat_lit 182))), (nat_lit 0, some (Blk.cells [.lit (.int .i64 C)] (nat_lit 3))), (nat_lit 1, some (Blk.cells [.lit (.int .i64 x),
      .lit (.int .i64 y)] (nat_lit 103)))]))))) := by kernel_rfl
set_option maxRecDepth 100000 in
theorem t_A3 (K : Cons) (fd : Nat → DE) (fl : Nat → R1) (i : Nat) (p x y C : Int) : (sxR EA [] 4 #[26, 27] asA bdA [.int .i64 p, .agg #[.int .i64 x, .int .i64 y]] (mkS 38 [1,2,3,4,5] (slA fd fl), memA K i (.fn (.func 227) [] [rpD fun _ => fd 0, rpL fun _ => (nv fl 0, ())]) C)).bind (fun r => .ret (r.1, r.2.2)) =
    T.ask (C ≠ (0 : Int)) (.ask (lk OcAsk (3 : Int) ((fun x => fd (0 : Nat)) (0 : Nat)) (lk nv (fun x => ((fl (0 : Nat)).1, PUnit.unit)) (nat_lit 0)) (U.quo .i64 p C) x y) (.ask (YldAsk
      EA.P K.5 K i [.int .i64 p, .int .i64 (lk owC (fd (nat_lit 0)) (lk nv (fun x => ((fl (0 : Nat)).1, PUnit.unit)) (nat_lit 0)) (U.quo .i64 p C) x y)]) (.br (K.4 i) (.ret (Ex.normal,
      [(nat_lit 1, some (Blk.seq true K (i.add (nat_lit 1)))), (nat_lit 0, some (Blk.cells [.lit (Value.func (Fn.yield K.5) { toList := [] } { toList := [] })] (nat_lit 44))), (nat_lit 0,
      some (Blk.cells [SV.fn (Fn.func (nat_lit 227)) [] [SV.rptr [.sl [.int .i64, .int .i64, .int .i64], .int .i64, .int .i64, .int .i64] (nat_lit 1) (fun x => fd (nat_lit 0)) (nat_lit 0)
      (nat_lit 0), SV.rptr [.int .i64] (nat_lit 1) (fun x => ((fl (0 : Nat)).1, PUnit.unit)) (nat_lit 0) (nat_lit 0)]] (nat_lit 182))), (nat_lit 0, some (Blk.cells [.lit (.int .i64 C)]
      (nat_lit 3))), (nat_lit 1, some (Blk.cells [.lit (.int .i64 x), .lit (.int .i64 y)] (nat_lit 103)))])) (.ret (Ex.ret, [(nat_lit 1, some (Blk.seq false K (i.add (nat_lit 1)))),
      (nat_lit 0, some (Blk.cells [.lit (Value.func (Fn.yield K.5) { toList := [] } { toList := [] })] (nat_lit 44))), (nat_lit 0, some (Blk.cells [SV.fn (Fn.func (nat_lit 227)) []
      [SV.rptr [.sl [.int .i64, .int .i64, .int .i64], .int .i64, .int .i64, .int .i64] (nat_lit 1) (fun x => fd (nat_lit 0)) (nat_lit 0) (nat_lit 0), SV.rptr [.int .i64] (nat_lit 1) (fun
      x => ((fl (0 : Nat)).1, PUnit.unit)) (nat_lit 0) (nat_lit 0)]] (nat_lit 182))), (nat_lit 0, some (Blk.cells [.lit (.int .i64 C)] (nat_lit 3))), (nat_lit 1, some (Blk.cells [.lit
      (.int .i64 x), .lit (.int .i64 y)] (nat_lit 103)))]))))) := by kernel_rfl
set_option maxRecDepth 100000 in
theorem t_A4 (K : Cons) (fd : Nat → DE) (fl : Nat → R1) (i : Nat) (p x y C : Int) : (sxR EA [] 4 #[26, 27] asA bdA [.int .i64 p, .agg #[.int .i64 x, .int .i64 y]] (mkS 38 [1,2,3,4,5] (slA fd fl), memA K i (.fn (.func 228) [] [rpD fun _ => fd 0, rpL fun _ => (nv fl 0, ())]) C)).bind (fun r => .ret (r.1, r.2.2)) =
    T.ask (C ≠ (0 : Int)) (.ask (lk OcAsk (4 : Int) ((fun x => fd (0 : Nat)) (0 : Nat)) (lk nv (fun x => ((fl (0 : Nat)).1, PUnit.unit)) (nat_lit 0)) (U.quo .i64 p C) x y) (.ask (YldAsk
      EA.P K.5 K i [.int .i64 p, .int .i64 (lk owC (fd (nat_lit 0)) (lk nv (fun x => ((fl (0 : Nat)).1, PUnit.unit)) (nat_lit 0)) (U.quo .i64 p C) x y)]) (.br (K.4 i) (.ret (Ex.normal,
      [(nat_lit 1, some (Blk.seq true K (i.add (nat_lit 1)))), (nat_lit 0, some (Blk.cells [.lit (Value.func (Fn.yield K.5) { toList := [] } { toList := [] })] (nat_lit 44))), (nat_lit 0,
      some (Blk.cells [SV.fn (Fn.func (nat_lit 228)) [] [SV.rptr [.sl [.int .i64, .int .i64, .int .i64], .int .i64, .int .i64, .int .i64] (nat_lit 1) (fun x => fd (nat_lit 0)) (nat_lit 0)
      (nat_lit 0), SV.rptr [.int .i64] (nat_lit 1) (fun x => ((fl (0 : Nat)).1, PUnit.unit)) (nat_lit 0) (nat_lit 0)]] (nat_lit 182))), (nat_lit 0, some (Blk.cells [.lit (.int .i64 C)]
      (nat_lit 3))), (nat_lit 1, some (Blk.cells [.lit (.int .i64 x), .lit (.int .i64 y)] (nat_lit 103)))])) (.ret (Ex.ret, [(nat_lit 1, some (Blk.seq false K (i.add (nat_lit 1)))),
      (nat_lit 0, some (Blk.cells [.lit (Value.func (Fn.yield K.5) { toList := [] } { toList := [] })] (nat_lit 44))), (nat_lit 0, some (Blk.cells [SV.fn (Fn.func (nat_lit 228)) []
      [SV.rptr [.sl [.int .i64, .int .i64, .int .i64], .int .i64, .int .i64, .int .i64] (nat_lit 1) (fun x => fd (nat_lit 0)) (nat_lit 0) (nat_lit 0), SV.rptr [.int .i64] (nat_lit 1) (fun
      x => ((fl (0 : Nat)).1, PUnit.unit)) (nat_lit 0) (nat_lit 0)]] (nat_lit 182))), (nat_lit 0, some (Blk.cells [.lit (.int .i64 C)] (nat_lit 3))), (nat_lit 1, some (Blk.cells [.lit
      (.int .i64 x), .lit (.int .i64 y)] (nat_lit 103)))]))))) := by kernel_rfl
end Go.RX.Span

/- Domain maps: all positions with their owners: the loop. -/
set_option linter.unusedVariables false
set_option linter.unusedSimpArgs false
set_option maxRecDepth 100000
namespace Go.RX.Span
open Go Go.RX
attribute [local irreducible] sx conB

section
variable {n : Nat} {f : Nat → R3} {k s h : Int}
theorem colN_pos (hc : chD n f k s h = 0) {p : Nat} (hp : p < szDn n f k s h) : 0 < colN n f ∧ colN n f ≤ 2000001 := by
  obtain ⟨d1, _⟩ := chD_zero.1 hc
  have hn := d1.1
  rw [szDn_right hc] at hp
  unfold colN
  by_cases h1 : n = 1
  · rw [if_pos h1]; omega
  · rw [if_neg h1] at hp ⊢
    have e1 := szN_R (d1.2 1 (by omega))
    have := rr_size (d1.2 1 (by omega))
    refine ⟨Nat.pos_of_ne_zero fun h0 => by rw [h0, Nat.mul_zero] at hp; omega, by omega⟩
theorem id_64 (hc : chD n f k s h = 0) {p : Nat} (hp : p < szDn n f k s h) : I64 (idX n f p) ∧ I64 (idY n f p) := by
  obtain ⟨d1, _⟩ := chD_zero.1 hc
  have hn := d1.1
  obtain ⟨_, h2, _⟩ := ix_all hc hp
  obtain ⟨_, _, g1, g2⟩ := hasD_has h2
  refine ⟨has_64 (d1.2 0 (by omega)) g1, ?_⟩
  by_cases h1 : n = 1
  · unfold idY; rw [if_pos h1]; unfold I64; omega
  · exact has_64 (d1.2 1 (by omega)) (g2 (by omega))
end
theorem dSz_bnd {d : DE} {L : Int} (hd : dDm d L = 0) : dSz d ≤ 5000000000000 := by
  have hc := (dmE_zero.1 hd).2.2.1
  have := (dr_prod (chD_zero.1 hc).1).2
  show szDn _ _ _ _ _ ≤ _
  unfold szDn
  rw [szD_right hc]; omega
theorem oc_of {d : DE} {L : Int} (hd : dDm d L = 0) {i : Nat} (hi : i < dSz d) :
    U.quo .i64 (i : Int) (dCol d) = ((i / colN d.1.1 d.1.2 : Nat) : Int) ∧ dCol d ≠ 0 ∧ OcAsk (dK d) d L ((i / colN d.1.1 d.1.2 : Nat) : Int) (idX d.1.1 d.1.2 i) (idY d.1.1 d.1.2 i) ∧ owC d L ((i / colN d.1.1 d.1.2 : Nat) : Int) (idX d.1.1 d.1.2 i) (idY d.1.1 d.1.2 i) = dOw d L i := by
  have hc := (dmE_zero.1 hd).2.2.1
  have hi : i < szDn d.1.1 d.1.2 d.2.1 d.2.2.1 d.2.2.2.1 := hi
  obtain ⟨c1, c2⟩ := colN_pos hc hi
  obtain ⟨r1, r2⟩ := row_lt hc hi
  obtain ⟨i1, i2⟩ := id_64 hc hi
  have hb : szDn d.1.1 d.1.2 d.2.1 d.2.2.1 d.2.2.2.1 ≤ 5000000000000 := dSz_bnd hd
  refine ⟨?_, ?_, ⟨hd, rfl, Int.natCast_nonneg _, r1, i1, i2⟩, rfl⟩
  · unfold dCol
    rw [quo_pos (Int.natCast_nonneg _) (by omega) (by omega)]
    exact (Int.ofNat_tdiv i (colN d.1.1 d.1.2)).symm
  · unfold dCol; omega
theorem ow_none {d : DE} {L q x y : Int} (h : dK d = 0) : owC d 0 q x y = owC d L q x y := (ow_0 h q _).trans (ow_0 h q _).symm
theorem ow_cyc {d : DE} {L q x y : Int} (h : dK d = 2) : U.rem q L = owC d L q x y := ow_2 h q _
theorem rl_ofV (ρ : Ren) (k : Int) (d : DE) (L : Int) : Rl ρ (ofV k d L) (ofV k d L) := by
  unfold ofV
  split
  · exact ⟨rfl, trivial, ⟨rfl, rfl, rfl, sameRowD⟩, trivial⟩
  split
  · exact ⟨rfl, trivial, ⟨rfl, rfl, rfl, row1H fun _ _ => rfl⟩, ⟨rfl, rfl, rfl, sameRowD⟩, trivial⟩
  split
  · exact ⟨rfl, trivial, ⟨rfl, rfl, rfl, row1H fun _ _ => rfl⟩, trivial⟩
  split
  · exact ⟨rfl, trivial, ⟨rfl, rfl, rfl, sameRowD⟩, ⟨rfl, rfl, rfl, row1H fun _ _ => rfl⟩, trivial⟩
  · exact ⟨rfl, trivial, ⟨rfl, rfl, rfl, sameRowD⟩, ⟨rfl, rfl, rfl, row1H fun _ _ => rfl⟩, trivial⟩
noncomputable abbrev mA (q : XA) (i : Nat) : Mem := memA q.K i (ofV (dK (q.fd 0)) (q.fd 0) (nv q.fl 0)) (dCol (q.fd 0))
def ZA (q : XA) (o : Ex × Few) : Prop := (okB q.K 0 q.c = true → o = (.normal, (slA q.fd q.fl, mA q q.c))) ∧ (okB q.K 0 q.c = false → o = (.ret, (slA q.fd q.fl, memA' q.K (lk stopA q.K 0 q.c + 1))))
def PhiA (n0 : Nat) (q : XA) : Prop := PreA n0 q.K (q.fd 0) (nv q.fl 0) q.c q.el
theorem ren4A {k : Nat} (hk : k ≤ 4) : ∀ b, b < k → Ren.of (idR 4) b = some b := renId hk
theorem slA_rl {ρ : Ren} (fd : Nat → DE) (fl : Nat → R1) (h1 : ρ.of 1 = some 1) (h2 : ρ.of 2 = some 2) (h3 : ρ.of 3 = some 3) : RlL ρ (slA fd fl) (slA fd fl) := ⟨⟨rfl, rfl, rfl, sameRowD⟩, ⟨rfl, rfl, rfl, row1H fun _ _ => rfl⟩, ⟨h1, rfl⟩, ⟨h2, rfl⟩, ⟨h3, rfl⟩, trivial⟩
/-- A round's end. -/
theorem endA {n0 : Nat} {q : XA} (hq : PhiA n0 q) {i : Nat} (hi : i < q.c) (hans : ∀ j, j < i → q.K.ans (0 + j) = true) {x y : Int} {g0 g1 g2 g3 g4 : Nat} {fv : SV} (hf : Rl (idR 4) fv (ofV (dK (q.fd 0)) (q.fd 0) (nv q.fl 0))) :
    (q.K.ans i = true → (∀ j, j < i + 1 → q.K.ans (0 + j) = true) ∧ Wk 38 [1,2,3,4,5] n0 (slA q.fd q.fl, [(g0, some (.seq true q.K (i + 1))), (g1, some (.cells [yieldV q.K] 44)), (g2, some (.cells [fv] 182)), (g3, some (.cells [.lit (.int .i64 (dCol (q.fd 0)))] 3)), (g4, some (.cells [.lit (.int .i64 x), .lit (.int .i64 y)] 103))]) (slA q.fd q.fl, mA q (i + 1))) ∧
    (q.K.ans i = false → ∃ s, ZA q (.ret, s) ∧ Wk 38 [1,2,3,4,5] n0 (slA q.fd q.fl, [(g0, some (.seq false q.K (i + 1))), (g1, some (.cells [yieldV q.K] 44)), (g2, some (.cells [fv] 182)), (g3, some (.cells [.lit (.int .i64 (dCol (q.fd 0)))] 3)), (g4, some (.cells [.lit (.int .i64 x), .lit (.int .i64 y)] 103))]) s) := by
  have h0 : n0 ≤ 4 := hq.1
  refine ⟨fun ha => ⟨fun j hj => ?_, ?_⟩, fun ha => ⟨(slA q.fd q.fl, memA' q.K (lk stopA q.K 0 q.c + 1)), ⟨fun h => ?_, fun _ => rfl⟩, ?_⟩⟩
  · rw [Nat.zero_add]
    by_cases e : j = i
    · subst e; exact ha
    · have := hans j (by omega); rwa [Nat.zero_add] at this
  · exact wk_of (idR 4) rfl h0 (ren4A h0) (slA_rl _ _ rfl rfl rfl) ⟨⟨rfl, rfl, rfl, rfl, rfl⟩, ⟨rfl, rfl, trivial⟩, ⟨rfl, hf, trivial⟩, ⟨rfl, rfl, trivial⟩, trivial⟩
  · rw [okB_f hi (by rw [Nat.zero_add]; exact ha)] at h; cases h
  · have hs0 : stopA q.K 0 q.c = i := stopA_eq hi (by rw [Nat.zero_add]; exact ha) hans
    exact wk_of (idR 4) rfl h0 (ren4A h0) (slA_rl _ _ rfl rfl rfl) ⟨⟨rfl, rfl, rfl, rfl, by rw [lk_eq, hs0]⟩, trivial⟩
theorem rangeA : RangeC P cdA (rfew 38 [1,2,3,4,5] gA) := by
  refine range_few (E := EA) (L := []) mixed (envOK (allOK mixed kA0_ok) 10) (g0 := .tmp 25) (ps := #[26, 27]) (assign := asA) (body := bdA) (by kernel_rfl) loopsOK_none loopsOK_none 38 [1,2,3,4,5] (by decide) (X := XA) gA
    (fun _ q => slA q.fd q.fl) (fun _ q i => mA q i) (fun q => q.c) (fun q => q.el) PhiA
    (fun _ q i => ∀ j, j < i → q.K.ans (0 + j) = true) (fun _ q o => ZA q o)
    (fun _ _ => rfl) ?_ ?_ ?_ ?_ ?_
  · intro m0 c0 el0 st r h
    unfold gA at h
    split at h
    · rename_i ss fd ss2 fl e0 K e1 l t1 e2 fv t2 e3 cv t3
      by_cases e : eqShs ss ssD = true ∧ eqShs ss2 ssL = true
      rotate_left
      · rw [dif_neg e] at h; exact h.elim
      rw [dif_pos e] at h
      have es := eqShs_eq _ _ e.1
      subst es
      have es2 := eqShs_eq _ _ e.2
      subst es2
      obtain ⟨hp, hfv, hcv, rfl, rfl, rfl, rfl⟩ := (T.is_ask h).1
      have hh := (T.is_ask h).2
      simp only [lk_eq] at hp hfv hcv hh
      have hfv : fv = ofV (dK (fd 0)) (fd 0) (nv fl 0) := hfv
      subst hfv
      have h0 : m0 ≤ 4 := hp.1
      have hcell : Rl (idR 4) cv (.lit (.int .i64 (dCol (fd 0)))) := by
        rcases hcv with rfl | ⟨rfl, hC⟩
        · exact rfl
        · show Value.int .i64 (dCol (fd 0)) = Value.int .i64 1
          exact congrArg _ hC
      have w : Wk 38 [1,2,3,4,5] m0 (slA fd fl, [(e0, some (.seq true K 0)), (e1, some (.cells [.lit (.func (.yield K.l) ⟨[]⟩ ⟨[]⟩)] 44)), (e2, some (.cells [ofV (dK (fd 0)) (fd 0) (nv fl 0)] 182)), (e3, some (.cells [cv] 3))]) (slA fd fl, mA ⟨K, fd, fl, c0, el0⟩ 0) :=
        wk_of (idR 4) rfl h0 (ren4A h0) (slA_rl _ _ rfl rfl rfl) ⟨⟨rfl, rfl, rfl, rfl, rfl⟩, ⟨rfl, rfl, trivial⟩, ⟨rfl, rl_ofV _ _ _ _, trivial⟩, ⟨rfl, hcell, trivial⟩, trivial⟩
      refine ⟨⟨K, fd, fl, c0, el0⟩, hp, rfl, rfl, w, fun j hj => absurd hj (Nat.not_lt_zero j), fun o ho => ?_⟩
      rcases hh with ⟨he, h⟩ | ⟨he, h⟩ <;> obtain rfl := T.is_ret h
      · exact ho.1 he
      · exact (ho.2 he).trans (by rw [lk_eq]; rfl)
    · exact h.elim
  · intro n0 q i hq hi
    have : q.el = elD _ _ := hq.2.2.2.2.1
    show (q.el i).length = 2
    rw [this]; rfl
  · intro n0 q i hq
    exact hq.1
  · intro n0 q i hq hi hans
    obtain ⟨K, fd, fl, c, el⟩ := q
    have hq' := hq
    obtain ⟨h0, hP, hd, hc, hel, hn, hK⟩ := hq'
    simp only [] at h0 hP hd hc hel hn hK hi
    have ex : el i = [.int .i64 (i : Int), .agg #[.int .i64 (idX (fd 0).1.1 (fd 0).1.2 i), .int .i64 (idY (fd 0).1.1 (fd 0).1.2 i)]] := by rw [hel]; unfold elD; rw [ixD_eq]; rfl
    have hi' : i < dSz (fd 0) := by omega
    obtain ⟨o1, o2, o3, o4⟩ := oc_of hd hi'
    have yk : ∀ v, v = dOw (fd 0) (nv fl 0) i → YldAsk P K.l K i [.int .i64 (i : Int), .int .i64 v] := fun v hv => ⟨hP, rfl, by omega, by rw [hK, hv]; rfl⟩
    have endA' := fun (fv : SV) (hf : fv = ofV (dK (fd 0)) (fd 0) (nv fl 0)) => endA (x := idX (fd 0).1.1 (fd 0).1.2 i) (y := idY (fd 0).1.1 (fd 0).1.2 i) (g0 := 1) (g1 := 0) (g2 := 0) (g3 := 0) (g4 := 1) (fv := fv) hq hi hans (by rw [hf]; exact rl_ofV _ _ _ _)
    have fit := fit_k (chD_zero.1 (dmE_zero.1 hd).2.2.1).2
    have fit : dK (fd 0) = 0 ∨ dK (fd 0) = 1 ∨ dK (fd 0) = 2 ∨ (dK (fd 0) = 3 ∧ _ ∧ _) ∨ dK (fd 0) = 4 := fit
    show ((sxR EA [] 4 #[26, 27] asA bdA (el i) (mkS 38 [1,2,3,4,5] (slA fd fl), memA K i (ofV (dK (fd 0)) (fd 0) (nv fl 0)) (dCol (fd 0)))).bind (fun r => .ret (r.1, r.2.2))).All _
    rw [ex]
    rcases fit with hk | hk | hk | ⟨hk, _⟩ | hk
    · have ev : ofV (dK (fd 0)) (fd 0) (nv fl 0) = .fn (.func 224) [] [rpD fun _ => fd 0] := by unfold ofV; rw [if_pos hk]
      obtain ⟨eN, eR⟩ := endA' _ ev.symm
      rw [ev]
      rw [t_A0]
      simp only [lk_eq, o1]
      exact ⟨o2, hk, yk _ ((ow_none hk).trans o4), eN, eR⟩
    · have ev : ofV (dK (fd 0)) (fd 0) (nv fl 0) = .fn (.func 225) [] [rpL fun _ => (nv fl 0, ()), rpD fun _ => fd 0] := by unfold ofV; rw [if_neg (by omega), if_pos hk]
      obtain ⟨eN, eR⟩ := endA' _ ev.symm
      rw [ev]
      rw [t_A1]
      simp only [lk_eq, o1]
      rw [hk] at o3
      exact ⟨o2, o3, yk _ o4, eN, eR⟩
    · have ev : ofV (dK (fd 0)) (fd 0) (nv fl 0) = .fn (.func 226) [] [rpL fun _ => (nv fl 0, ())] := by unfold ofV; rw [if_neg (by omega), if_neg (by omega), if_pos hk]
      obtain ⟨eN, eR⟩ := endA' _ ev.symm
      rw [ev]
      rw [t_A2]
      simp only [lk_eq, o1]
      exact ⟨o2, (by have := (dmE_zero.1 hd).1; show nv fl 0 ≠ 0; omega), yk _ ((ow_cyc hk).trans o4), eN, eR⟩
    · have ev : ofV (dK (fd 0)) (fd 0) (nv fl 0) = .fn (.func 227) [] [rpD fun _ => fd 0, rpL fun _ => (nv fl 0, ())] := by unfold ofV; rw [if_neg (by omega), if_neg (by omega), if_neg (by omega), if_pos hk]
      obtain ⟨eN, eR⟩ := endA' _ ev.symm
      rw [ev]
      rw [t_A3]
      simp only [lk_eq, o1]
      rw [hk] at o3
      exact ⟨o2, o3, yk _ o4, eN, eR⟩
    · have ev : ofV (dK (fd 0)) (fd 0) (nv fl 0) = .fn (.func 228) [] [rpD fun _ => fd 0, rpL fun _ => (nv fl 0, ())] := by unfold ofV; rw [if_neg (by omega), if_neg (by omega), if_neg (by omega), if_neg (by omega)]
      obtain ⟨eN, eR⟩ := endA' _ ev.symm
      rw [ev]
      rw [t_A4]
      simp only [lk_eq, o1]
      rw [hk] at o3
      exact ⟨o2, o3, yk _ o4, eN, eR⟩
  · intro n0 q hq hans
    have h0 : n0 ≤ 4 := hq.1
    have hall := okB_t.2 hans
    exact ⟨_, ⟨fun _ => rfl, fun h => absurd (hall.symm.trans h) (by decide)⟩, wk_of (idR 4) rfl h0 (ren4A h0) (slA_rl _ _ rfl rfl rfl) ⟨⟨rfl, rfl, rfl, rfl, rfl⟩, ⟨rfl, rfl, trivial⟩, ⟨rfl, rl_ofV _ _ _ _, trivial⟩, ⟨rfl, rfl, trivial⟩, trivial⟩⟩
end Go.RX.Span

/- Domain maps: all positions with their owners: what is yielded. -/
set_option linter.unusedVariables false
set_option linter.unusedSimpArgs false
set_option maxRecDepth 100000
namespace Go.RX.Span
open Go Go.RX
attribute [local irreducible] sx conB

noncomputable abbrev lA : List (Nat × Loops) := [(223, [(1006, .rng 209 sc209 (rfew 38 [1,2,3,4,5] gA))])] --%K
theorem lA_ok : ∀ p ∈ lA, LoopsOK P p.2 (bodyOf P p.1) := by
  intro p hp
  simp only [lA, List.mem_singleton] at hp
  subst hp
  refine loopsOK_ofR (by kernel_rfl) (by kernel_rfl) (fun k g hk => by simp at hk) fun k gf sc g hk => ?_
  simp only [List.mem_singleton, Prod.mk.injEq, LoopC.rng.injEq] at hk
  obtain ⟨rfl, rfl, rfl, rfl⟩ := hk
  exact ⟨sc209_ok, rangeA⟩
def DmAsk (d : DE) (L : Int) : Prop := dDm d L = 0
noncomputable def sc223 : SCon := fun args => match args with
  | [.rptr [.sl [.int .i64, .int .i64, .int .i64], .int .i64, .int .i64, .int .i64] 1 fd 0 0, .rptr [.int .i64] 1 fl 0 0] => .ask (lk DmAsk (fd 0) (lk nv fl 0)) (.ret (lk dSz (fd 0), lk elA (fd 0) (lk nv fl 0)))
  | _ => .stuck 1
noncomputable def c_all2 : Con := fun args => match args with
  | [.agg [.row [.int .i64, .int .i64, .int .i64] n f, .lit (.int .i64 k), .lit (.int .i64 s), .lit (.int .i64 h)], .lit (.int .i64 L)] => .ret (.fn (.func 223) [] [rpD fun _ => ((n, f), k, s, h, ()), rpL fun _ => (L, ())])
  | _ => .stuck 1
set_option maxRecDepth 100000 in
theorem t_all2 (n : Nat) (f : Nat → R3) (k s h L : Int) : conB Go.Proofs.Try.prog (conOf []) noLoops 10 187 [.agg [.row [.int .i64, .int .i64, .int .i64] n f, .lit (.int .i64 k), .lit (.int .i64 s), .lit (.int .i64 h)], .lit (.int .i64 L)] =
    T.ret (SV.fn (Fn.func (nat_lit 223)) [] [SV.rptr [.sl [.int .i64, .int .i64, .int .i64], .int .i64, .int .i64, .int .i64] (nat_lit 1) (fun x => ((n, f), k, s, h, PUnit.unit))
      (nat_lit 0) (nat_lit 0), SV.rptr [.int .i64] (nat_lit 1) (fun x => (L, PUnit.unit)) (nat_lit 0) (nat_lit 0)]) := by kernel_rfl
theorem all2_ok : ConOK P 187 c_all2 := con_of (allOK mixed none_ok) 10 187 fun args r h => by
  unfold c_all2 at h
  split at h
  · rename_i n f k s h' L
    obtain rfl := T.is_ret h
    rw [t_all2]
    rfl
  · exact h.elim
end Go.RX.Span

/- Domain maps: all positions with their owners: the iterator yields what is said. -/
set_option linter.unusedVariables false
set_option linter.unusedSimpArgs false
set_option maxRecDepth 100000
namespace Go.RX.Span
open Go Go.RX
attribute [local irreducible] sx conB

noncomputable abbrev dSz' (d : DE) : Nat := lk szDn d.1.1 d.1.2 d.2.1 d.2.2.1 d.2.2.2.1
/-- The walk behind the choice of the function. -/
noncomputable def tlA (K : Cons) (fd : Nat → DE) (fl : Nat → R1) (fv cv : SV) (g3 : Nat) : T (SV × Mem) :=
  .ask (Row64 (fd 0).1.1 (fd 0).1.2) (.ask (lk PreA 1 K (fd 0) (lk nv fl 0) (dSz' (fd 0)) (lk elD (fd 0).1.1 (fd 0).1.2) ∧ fv = ofV (dK (fd 0)) (fd 0) (lk nv fl 0) ∧ ColOk cv (lk dCol (fd 0)) ∧ K.l = K.l ∧ 44 = 44 ∧ 182 = 182 ∧ 3 = 3)
    (.br (lk okB K 0 (dSz' (fd 0))) (.ret (.tup [], [(1, some (.seq true K (dSz' (fd 0)))), (1, some (.cells [yieldV K] 44)), (2, some (.cells [fv] 182)), (g3, some (.cells [.lit (.int .i64 (lk dCol (fd 0)))] 3))]))
      (.ret (.tup [], [(1, some (.seq false K (lk stopA K 0 (dSz' (fd 0)) + 1))), (1, none), (2, none), (g3, none)]))))
noncomputable def brA (K : Cons) (fd : Nat → DE) (fl : Nat → R1) (fv : SV) : T (SV × Mem) :=
  .br (U.gt (Int.ofNat (fd 0).1.1) 1) (.ask ((0 : Int) ≤ 1 ∧ (1 : Int) < ((fd 0).1.1 : Int)) (.ask (I64 ((fd 0).1.2 (U.toNat 1)).1 ∧ I64 ((fd 0).1.2 (U.toNat 1)).2.1 ∧ I64 ((fd 0).1.2 (U.toNat 1)).2.2.1)
    (tlA K fd fl fv (.lit (.int .i64 (lk size ((fd 0).1.2 (U.toNat 1)).1 ((fd 0).1.2 (U.toNat 1)).2.1 ((fd 0).1.2 (U.toNat 1)).2.2.1))) 3))) (tlA K fd fl fv (.ki .i64 1) 2)
theorem t_223 (K : Cons) (fd : Nat → DE) (fl : Nat → R1) : scall P (conOf kA0) (loopsOf lA) 10 223 [yieldV K, rpD fd, rpL fl] [(0, some (.seq true K 0))] =
    .br (U.eq (dK (fd 0)) 0) (brA K fd fl (.fn (.func 224) [] [rpD fun _ => fd 0])) (.br (U.eq (dK (fd 0)) 1) (brA K fd fl (.fn (.func 225) [] [rpL fun _ => (nv fl 0, ()), rpD fun _ =>
      fd 0])) (.br (U.eq (dK (fd 0)) 2) (brA K fd fl (.fn (.func 226) [] [rpL fun _ => (nv fl 0, ())])) (.br (U.eq (dK (fd 0)) 3) (brA K fd fl (.fn (.func 227) [] [rpD fun _ => fd 0, rpL
      fun _ => (nv fl 0, ())])) (.br (U.eq (dK (fd 0)) 4) (brA K fd fl (.fn (.func 228) [] [rpD fun _ => fd 0, rpL fun _ => (nv fl 0, ())])) (.stuck 41))))) := by kernel_rfl
theorem tl_all {K : Cons} {fd : Nat → DE} {fl : Nat → R1} {fv cv : SV} {g3 : Nat} (hd : dDm (fd 0) (nv fl 0) = 0) (hK : K.P = P) (hn : K.n = dSz (fd 0)) (hel : K.el = elA (fd 0) (nv fl 0)) (hf : fv = ofV (dK (fd 0)) (fd 0) (nv fl 0)) (hc : ColOk cv (dCol (fd 0))) :
    (tlA K fd fl fv cv g3).All fun p => SeqEnd K p.2 := by
  have h64 : Row64 (fd 0).1.1 (fd 0).1.2 := dr_64 (chD_zero.1 (dmE_zero.1 hd).2.2.1).1
  unfold tlA
  simp only [dSz', lk_eq]
  exact ⟨h64, ⟨⟨by decide, hK, hd, rfl, rfl, hn, hel⟩, hf, hc, trivial, trivial, trivial, trivial⟩, fun _ => .inl (by rw [hn]; rfl), fun _ => .inr ⟨_, rfl⟩⟩
theorem br_all {K : Cons} {fd : Nat → DE} {fl : Nat → R1} {fv : SV} (hd : dDm (fd 0) (nv fl 0) = 0) (hK : K.P = P) (hn : K.n = dSz (fd 0)) (hel : K.el = elA (fd 0) (nv fl 0)) (hf : fv = ofV (dK (fd 0)) (fd 0) (nv fl 0)) :
    (brA K fd fl fv).All fun p => SeqEnd K p.2 := by
  obtain ⟨d1, _⟩ := chD_zero.1 (dmE_zero.1 hd).2.2.1
  have hdn : dN (fd 0) = 1 ∨ dN (fd 0) = 2 := d1.1
  unfold brA
  have t1 : U.toNat (1 : Int) = 1 := tn 1
  simp only [lk_eq, t1]
  refine ⟨fun g => ?_, fun g => tl_all hd hK hn hel hf (.inr ⟨rfl, ?_⟩)⟩
  · have g : (1 : Int) < ((dN (fd 0) : Nat) : Int) := U.gt_t.mp g
    refine ⟨⟨by decide, g⟩, dr_64 d1 1 (show 1 < dN (fd 0) by omega), tl_all hd hK hn hel hf (.inl ?_)⟩
    have hr := d1.2 1 (show 1 < dN (fd 0) by omega)
    have e := szN_R hr
    have ec : dCol (fd 0) = szR ((fd 0).1.2 1) := by
      show ((colN (fd 0).1.1 (fd 0).1.2 : Nat) : Int) = _
      have : ¬ dN (fd 0) = 1 := by omega
      exact (congrArg (fun v : Nat => (v : Int)) (if_neg this)).trans e
    exact congrArg (fun v => SV.lit (.int .i64 v)) ec.symm
  · have g : ((dN (fd 0) : Nat) : Int) ≤ 1 := U.gt_f.mp g
    show ((colN (fd 0).1.1 (fd 0).1.2 : Nat) : Int) = 1
    have : dN (fd 0) = 1 := by omega
    exact congrArg (fun v : Nat => (v : Int)) (if_pos this)
theorem sc223_ok : SConOK P 223 sc223 := scon_of (allOKL mixed kA0_ok lA_ok) 10 223 fun args q h K hK hn hel => by
  unfold sc223 at h
  split at h
  · rename_i fd fl
    have hd : dDm (fd 0) (nv fl 0) = 0 := by have := (T.is_ask h).1; simp only [lk_eq] at this; exact this
    obtain rfl := T.is_ret (T.is_ask h).2
    simp only [lk_eq] at hn hel
    refine T.all_of_eq (t_223 K fd fl) ?_
    have fit := fit_k (chD_zero.1 (dmE_zero.1 hd).2.2.1).2
    have fit : dK (fd 0) = 0 ∨ dK (fd 0) = 1 ∨ dK (fd 0) = 2 ∨ (dK (fd 0) = 3 ∧ _ ∧ _) ∨ dK (fd 0) = 4 := fit
    refine ⟨fun g => br_all hd hK hn hel ?_, fun g0 => ⟨fun g => br_all hd hK hn hel ?_, fun g1 => ⟨fun g => br_all hd hK hn hel ?_, fun g2 => ⟨fun g => br_all hd hK hn hel ?_, fun g3 => ⟨fun g => br_all hd hK hn hel ?_, fun g4 => ?_⟩⟩⟩⟩⟩
    · have g := U.eq_t.mp g; unfold ofV; rw [if_pos g]
    · have g := U.eq_t.mp g; unfold ofV; rw [if_neg (by omega), if_pos g]
    · have g := U.eq_t.mp g; unfold ofV; rw [if_neg (by omega), if_neg (by omega), if_pos g]
    · have g := U.eq_t.mp g; unfold ofV; rw [if_neg (by omega), if_neg (by omega), if_neg (by omega), if_pos g]
    · have g := U.eq_t.mp g; unfold ofV; rw [if_neg (by omega), if_neg (by omega), if_neg (by omega), if_neg (by omega)]
    · have a0 := U.eq_f.mp g0; have a1 := U.eq_f.mp g1; have a2 := U.eq_f.mp g2; have a3 := U.eq_f.mp g3; have a4 := U.eq_f.mp g4
      omega
  · exact h.elim
end Go.RX.Span

/- Domain maps: the local parts of all locales: the states. -/
set_option linter.unusedVariables false
set_option linter.unusedSimpArgs false
set_option maxRecDepth 100000
namespace Go.RX.Span
open Go Go.RX
attribute [local irreducible] sx conB

abbrev NF := Nat → Bool × Nat × (Nat → R1)
noncomputable abbrev cdPt : Code := rangeOf P 131 1003 --%K
noncomputable abbrev asPt : Code := match rangeOf P 131 1003 with | .rangeFunc _ _ a _ => a | _ => .skip --%K
noncomputable abbrev bdPt : Code := match rangeOf P 131 1003 with | .rangeFunc _ _ _ b => b | _ => .skip --%K
noncomputable abbrev EPt : Env := ⟨P, conOf [], scall P (conOf []) noLoops 10⟩
noncomputable abbrev memPt (N : Nat) (F : NF) : Mem := [(0, none), (0, some (.nest N [.int .i64] F none 35 3)), (0, some (.cells [.own false 1 N] 134))]
/-- The positions of a locale among the first so many. -/
def pkL (ow : Nat → Int) (i : Nat) (l : Int) : List Nat := (List.range i).filter fun p => decide (ow p = l)
noncomputable def nFd (d : DE) (L : Int) (i : Nat) : NF := fun l => (decide (pkL (dOw d L) i l = []), (pkL (dOw d L) i l).length, rowN (pkL (dOw d L) i l))
/-- The local parts, as rows. -/
noncomputable def paF (d : DE) (L : Int) (l : Nat) : Els [.sl [.int .i64]] := (((partL d.1.1 d.1.2 d.2.1 d.2.2.1 d.2.2.2.1 L l).length, rowN (partL d.1.1 d.1.2 d.2.1 d.2.2.1 d.2.2.2.1 L l)), ())
def PrePt (n0 : Nat) (d : DE) (L : Int) (c : Nat) (el : Nat → List Value) (N : Nat) (F : NF) : Prop := n0 ≤ 3 ∧ dDm d L = 0 ∧ c = dSz d ∧ el = elA d L ∧ N = U.toNat L ∧ c ≤ 5000 ∧ ∀ l, l < N → (F l).1 = true ∧ (F l).2.1 = 0
noncomputable def gPt : Nat → Nat → (Nat → List Value) → Few → T (Ex × Few)
  | n0, c, el, ([.lit (.int .i64 L), .ptr 2 0], [(_, some (.cells [.row [.int .i64, .int .i64, .int .i64] n f, .lit (.int .i64 k), .lit (.int .i64 s), .lit (.int .i64 h)] t0)), (_, some (.nest N [.int .i64] F none t1 t2)), (_, some (.cells [.own false 1 N'] t3))]) =>
    .ask (lk PrePt n0 ((n, f), k, s, h, ()) L c el N F ∧ N' = N ∧ t0 = 49 ∧ t1 = 35 ∧ t2 = 3 ∧ t3 = 134) (.ret (.normal, ([.lit (.int .i64 L), .ptr 2 0], memPt N (lk nFd ((n, f), k, s, h, ()) L c))))
  | _, _, _, _ => .stuck 1
structure XPt where
  (d : DE) (L : Int) (c : Nat) (el : Nat → List Value) (N : Nat) (F : NF)
end Go.RX.Span

/- Domain maps: the local parts of all locales: the walk. -/
set_option linter.unusedVariables false
set_option linter.unusedSimpArgs false
set_option maxRecDepth 100000
namespace Go.RX.Span
open Go Go.RX
attribute [local irreducible] sx conB

set_option maxRecDepth 100000 in
theorem t_Pt (N : Nat) (F : NF) (L p l : Int) : (sxR EPt [] 3 #[13, 14] asPt bdPt [.int .i64 p, .int .i64 l] (mkS 26 [1, 5] [.lit (.int .i64 L), .ptr 2 0], memPt N F)).bind (fun r => .ret (r.1, unf r.2.2)) =
    T.ask ((0 : Int) ≤ l ∧ l < ↑N) (.ask (U.toNat l < N) (.ask (((F (U.toNat l)).2.1 + (1 : Nat)) * nat_lit 8 ≤ nat_lit 140737488351232) (.ask ((0 : Int) ≤ l ∧ l < ↑N) (.ask (U.toNat l
      = U.toNat l) (.ret (Ex.normal, [(nat_lit 0, none), (nat_lit 3, some (Blk.nest N [.int .i64] (U.upd F (U.toNat l) (false, (F (U.toNat l)).2.1.add (nat_lit 1), U.cat (F (U.toNat
      l)).2.1 (F (U.toNat l)).snd.2 fun x => (p, PUnit.unit))) none (nat_lit 35) (nat_lit 3))), (nat_lit 0, some (Blk.cells [SV.own false (nat_lit 1) N] (nat_lit 134))), (nat_lit 1,
      none), (nat_lit 0, some (Blk.cells [.lit (.int .i64 p)] (nat_lit 3))), (nat_lit 1, none)])))))) := by kernel_rfl
theorem pk_s (ow : Nat → Int) (i : Nat) (l : Int) : pkL ow (i + 1) l = pkL ow i l ++ (if ow i = l then [i] else []) := by
  unfold pkL
  rw [List.range_succ, List.filter_append]
  by_cases h : ow i = l <;> simp [h]
theorem pk_len (ow : Nat → Int) (i : Nat) (l : Int) : (pkL ow i l).length ≤ i := Nat.le_trans (List.length_filter_le _ _) (by simp)
def oneR (x : Int) : R1 := (x, ())
theorem rowN_app (l : List Nat) (p : Nat) (x : Int) (hx : x = (p : Int)) : ∀ i, i < l.length + 1 → U.cat l.length (rowN l) (fun _ => oneR x) i = rowN (l ++ [p]) i := fun i hi => by
  refine (U.cat_eq _ _ _ _).trans ?_
  subst hx
  by_cases h : i < l.length
  · rw [if_pos h]; unfold rowN
    rw [List.getD_eq_getElem?_getD, List.getD_eq_getElem?_getD, List.getElem?_append_left h]
  · rw [if_neg h]
    obtain rfl : i = l.length := by omega
    unfold rowN
    rw [List.getD_eq_getElem?_getD, List.getElem?_append_right (Nat.le_refl _), Nat.sub_self]; rfl
theorem nat64 {x : Int} (h : 0 ≤ x) : ((U.toNat x : Nat) : Int) = x := by rw [U.toNat_eq]; omega
theorem rangePt : RangeC P cdPt (rfewN 26 [1, 5] gPt) := by
  refine range_fewN (E := EPt) (L := []) mixed (envOK (allOK mixed none_ok) 10) (g0 := .tmp 12) (ps := #[13, 14]) (assign := asPt) (body := bdPt) (by kernel_rfl) loopsOK_none loopsOK_none 26 [1, 5] (by decide) (X := XPt) gPt
    (fun _ q => [.lit (.int .i64 q.L), .ptr 2 0]) (fun _ q i => memPt q.N (nFd q.d q.L i)) (fun q => q.c) (fun q => q.el) (fun n0 q => PrePt n0 q.d q.L q.c q.el q.N q.F)
    (fun _ _ _ => True) (fun _ q o => o = (.normal, ([.lit (.int .i64 q.L), .ptr 2 0], memPt q.N (nFd q.d q.L q.c))))
    (fun _ _ => rfl) ?_ ?_ ?_ ?_ ?_
  · intro m0 c0 el0 st r h
    unfold gPt at h
    split at h
    · rename_i L e0 n f k s h' t0 e1 N F t1 t2 e2 N' t3
      obtain ⟨hp, rfl, rfl, rfl, rfl, rfl⟩ := (T.is_ask h).1
      obtain rfl := T.is_ret (T.is_ask h).2
      rw [lk_eq] at hp
      have h0 : m0 ≤ 3 := hp.1
      refine ⟨⟨((n, f), k, s, h', ()), L, c0, el0, N', F⟩, hp, rfl, rfl, ?_, trivial, fun o ho => by rw [ho]; simp only [lk_eq]⟩
      refine wk_of (idR 3) rfl h0 (renId h0) ⟨rfl, ⟨rfl, rfl⟩, trivial⟩ ⟨⟨rfl, rfl, rfl, rfl, eqShs_refl _, fun i hi => ?_⟩, ⟨rfl, ⟨rfl, rfl, rfl⟩, trivial⟩, trivial⟩
      obtain ⟨a1, a2⟩ := hp.2.2.2.2.2.2 i hi
      exact ⟨a1, a2, eqShs_refl _, fun j hj => absurd hj (Nat.not_lt_zero j)⟩
    · exact h.elim
  · intro n0 q i hq hi
    have : q.el = elA _ _ := hq.2.2.2.1
    show (q.el i).length = 2
    rw [this]; rfl
  · intro n0 q i hq
    exact hq.1
  · intro n0 q i hq hi _
    obtain ⟨d, L, c, el, N, F⟩ := q
    obtain ⟨h0, hd, hc, hel, hN, h5, _⟩ := hq
    simp only [] at h0 hd hc hel hN h5 hi
    subst hel hN
    obtain ⟨l1, l8, hch, _⟩ := dmE_zero.1 hd
    obtain ⟨o1, o2⟩ := owP_bnd (L := L) hd (show i < szDn d.1.1 d.1.2 d.2.1 d.2.2.1 d.2.2.2.1 from (by omega : i < dSz d))
    have o1 : 0 ≤ dOw d L i := o1
    have o2 : dOw d L i < L := o2
    have eo := nat64 o1
    have eL := nat64 (show 0 ≤ L by omega)
    have lp := pk_len (dOw d L) i ((U.toNat (dOw d L i) : Nat) : Int)
    refine T.all_of_eq (t_Pt (U.toNat L) (nFd d L i) L (i : Int) (dOw d L i)) ?_
    refine ⟨⟨o1, by omega⟩, by omega, ?_, ⟨o1, by omega⟩, rfl, trivial, ?_⟩
    · show ((pkL (dOw d L) i ((U.toNat (dOw d L i) : Nat) : Int)).length + 1) * 8 ≤ 140737488351232
      omega
    · refine wk_of (idR 3) rfl h0 (renId h0) ⟨rfl, ⟨rfl, rfl⟩, trivial⟩ ⟨⟨rfl, rfl, rfl, rfl, eqShs_refl _, fun j hj => ?_⟩, ⟨rfl, ⟨rfl, rfl, rfl⟩, trivial⟩, trivial⟩
      by_cases e : j = U.toNat (dOw d L i)
      · have eu : ∀ v, U.upd (nFd d L i) (U.toNat (dOw d L i)) v j = v := fun v => (U.upd_eq _ _ _ _).trans (if_pos e)
        have ep : pkL (dOw d L) (i + 1) (j : Int) = pkL (dOw d L) i (j : Int) ++ [i] := by rw [pk_s, if_pos (by rw [e, eo])]
        rw [eu]
        subst e
        refine ⟨?_, ?_, eqShs_refl _, fun x hx => ?_⟩
        · show false = decide (pkL (dOw d L) (i + 1) _ = [])
          rw [ep]; simp
        · show (pkL (dOw d L) i _).length + 1 = (pkL (dOw d L) (i + 1) _).length
          rw [ep, List.length_append]; rfl
        · have hx : x < (pkL (dOw d L) (i + 1) ((U.toNat (dOw d L i) : Nat) : Int)).length := hx
          rw [ep, List.length_append] at hx
          have := rowN_app (pkL (dOw d L) i ((U.toNat (dOw d L i) : Nat) : Int)) i (i : Int) rfl x hx
          rw [← ep] at this
          exact this
      · have eu : ∀ v, U.upd (nFd d L i) (U.toNat (dOw d L i)) v j = nFd d L i j := fun v => (U.upd_eq _ _ _ _).trans (if_neg e)
        have ep : pkL (dOw d L) (i + 1) (j : Int) = pkL (dOw d L) i (j : Int) := by rw [pk_s, if_neg (by omega), List.append_nil]
        rw [eu]
        have en : nFd d L (i + 1) j = nFd d L i j := by unfold nFd; rw [ep]
        rw [en]
        exact ⟨rfl, rfl, eqShs_refl _, fun x hx => rfl⟩
  · intro n0 q hq _
    have h0 : n0 ≤ 3 := hq.1
    exact ⟨_, rfl, wk_of (idR 3) rfl h0 (renId h0) ⟨rfl, ⟨rfl, rfl⟩, trivial⟩ ⟨⟨rfl, rfl, rfl, rfl, eqShs_refl _, fun j hj => ⟨rfl, rfl, eqShs_refl _, fun x hx => rfl⟩⟩, ⟨rfl, ⟨rfl, rfl, rfl⟩, trivial⟩, trivial⟩⟩
end Go.RX.Span

/- Domain maps: the local parts of all locales; Part. -/
set_option linter.unusedVariables false
set_option linter.unusedSimpArgs false
set_option maxRecDepth 100000
namespace Go.RX.Span
open Go Go.RX
attribute [local irreducible] sx conB

noncomputable abbrev lPt : List (Nat × Loops) := [(131, [(1003, .rng 223 sc223 (rfewN 26 [1, 5] gPt))])] --%K
theorem lPt_ok : ∀ p ∈ lPt, LoopsOK P p.2 (bodyOf P p.1) := by
  intro p hp
  simp only [lPt, List.mem_singleton] at hp
  subst hp
  refine loopsOK_ofR (by kernel_rfl) (by kernel_rfl) (fun k g hk => by simp at hk) fun k gf sc g hk => ?_
  simp only [List.mem_singleton, Prod.mk.injEq, LoopC.rng.injEq] at hk
  obtain ⟨rfl, rfl, rfl, rfl⟩ := hk
  exact ⟨sc223_ok, rangePt⟩
noncomputable abbrev kPt : List (Nat × Con) := [(187, c_all2)] --%K
theorem kPt_ok : ∀ p ∈ kPt, ConOK P p.1 p.2 := by
  intro p hp
  simp only [kPt, List.mem_singleton] at hp
  subst hp
  exact all2_ok
def PaAsk (n : Nat) (f : Nat → R3) (k s h L : Int) : Prop := dmE n f k s h L = 0 ∧ szDn n f k s h ≤ 5000
noncomputable def c_parts : Con := fun args => match args with
  | [.agg [.row [.int .i64, .int .i64, .int .i64] n f, .lit (.int .i64 k), .lit (.int .i64 s), .lit (.int .i64 h)], .lit (.int .i64 L)] => .ask (lk PaAsk n f k s h L) (.ret (.row [.sl [.int .i64]] (U.toNat L) (lk paF ((n, f), k, s, h, ()) L)))
  | _ => .stuck 1
set_option maxRecDepth 100000 in
theorem t_parts (n : Nat) (f : Nat → R3) (k s h L : Int) : conB Go.Proofs.Try.prog (conOf kPt) (loopsOf lPt) 10 131 [.agg [.row [.int .i64, .int .i64, .int .i64] n f, .lit (.int .i64 k), .lit (.int .i64 s), .lit (.int .i64 h)], .lit (.int .i64 L)] =
    T.ask ((0 : Int) ≤ L ∧ L ≤ L ∧ ↑(nat_lit 24) * L ≤ (281474976710656 : Int) ∧ L ≤ (140737488351232 : Int)) (.ask (lk DmAsk ((fun x => ((n, f), k, s, h, ())) (0 : Nat)) (lk nv (fun x
      => (L, PUnit.unit)) (nat_lit 0))) (.ask ((lk PrePt (nat_lit 0) ((n, f), k, s, h, ()) L (lk dSz ((n, f), k, s, h, PUnit.unit)) (lk dSz ((n, f), k, s, h, PUnit.unit), lk elA ((fun x
      => ((n, f), k, s, h, ())) (0 : Nat)) (lk nv (fun x => (L, PUnit.unit)) (nat_lit 0))).snd (U.toNat L) fun x => (true, (0 : Nat), fun x => zeroEs [.int .i64])) ∧ U.toNat L = U.toNat L
      ∧ (49 : Nat) = (49 : TypeId) ∧ (35 : Nat) = (35 : TypeId) ∧ (3 : Nat) = (3 : TypeId) ∧ (134 : Nat) = (134 : TypeId)) (.ret (.row [.sl [.int .i64]] (U.toNat L) fun i => (((lk nFd
      ((n, f), k, s, h, ()) L (lk dSz ((fun x => ((n, f), k, s, h, ())) (0 : Nat)), lk elA ((fun x => ((n, f), k, s, h, ())) (0 : Nat)) (lk nv (fun x => (L, ())) (0 : Nat))).fst i).2.1,
      (lk nFd ((n, f), k, s, h, ()) L (lk dSz ((fun x => ((n, f), k, s, h, ())) (0 : Nat)), lk elA ((fun x => ((n, f), k, s, h, ())) (0 : Nat)) (lk nv (fun x => (L, ())) (0 : Nat))).fst
      i).snd.2), PUnit.unit))))) := by kernel_rfl
theorem parts_ok : ConOK P 131 c_parts := con_cl (allOKL mixed kPt_ok lPt_ok) 10 131 fun args r hh => by
  unfold c_parts at hh
  split at hh
  · rename_i n f k s h L
    obtain ⟨hd, h5⟩ := (lk_eq PaAsk ▸ (T.is_ask hh).1 : PaAsk n f k s h L)
    obtain rfl := T.is_ret (T.is_ask hh).2
    obtain ⟨l1, l8, _⟩ := dmE_zero.1 hd
    refine T.all_of_eq (t_parts n f k s h L) ?_
    simp only [lk_eq]
    refine ⟨⟨by omega, by omega, ?_, by omega⟩, hd, ⟨⟨by decide, hd, rfl, rfl, rfl, h5, fun l hl => ⟨rfl, rfl⟩⟩, trivial, trivial, trivial, trivial, trivial⟩, rfl, eqShs_refl _, fun i hi => rfl⟩
    show (24 : Int) * L ≤ 281474976710656
    omega
  · exact hh.elim
end Go.RX.Span

/- Domain maps: Part, the awake's contracts. -/
set_option linter.unusedVariables false
set_option linter.unusedSimpArgs false
set_option maxRecDepth 100000
namespace Go.RX.Span
open Go Go.RX
attribute [local irreducible] sx conB

/-- The part of a locale, as a row; its length. -/
noncomputable def ptE (n : Nat) (f : Nat → R3) (k s h L l : Int) : Int := lcE n f k s h L l
noncomputable def ptN (n : Nat) (f : Nat → R3) (k s h L l : Int) : Nat := if lcE n f k s h L l ≠ 0 then 0 else (partL n f k s h L l).length
noncomputable def ptF (n : Nat) (f : Nat → R3) (k s h L l : Int) : Nat → R1 := rowN (partL n f k s h L l)
noncomputable def c_Part : Con := fun args => match args with
  | [.agg [.row [.int .i64, .int .i64, .int .i64] n f, .lit (.int .i64 k), .lit (.int .i64 s), .lit (.int .i64 h)], .lit (.int .i64 L), .lit (.int .i64 l)] => .ask (Row64 n f) (.ret (.tup [.row [.int .i64] (lk ptN n f k s h L l) (lk ptF n f k s h L l), .lit (.int .i64 (lk ptE n f k s h L l))]))
  | _ => .stuck 1
noncomputable abbrev kPp : List (Nat × Con) := [(134, c_located), (129, c_listed), (131, c_parts)] --%K
theorem kPp_ok : ∀ p ∈ kPp, ConOK P p.1 p.2 := by
  intro p hp
  simp only [kPp, List.mem_cons, List.not_mem_nil, or_false] at hp
  rcases hp with rfl | rfl | rfl
  · exact located_ok
  · exact listed_ok
  · exact parts_ok
end Go.RX.Span

/- Domain maps: Part. -/
set_option linter.unusedVariables false
set_option linter.unusedSimpArgs false
set_option maxRecDepth 100000
namespace Go.RX.Span
open Go Go.RX
attribute [local irreducible] sx conB

set_option maxRecDepth 100000 in
theorem t_Part (n : Nat) (f : Nat → R3) (k s h L l : Int) : conB Go.Proofs.Try.prog (conOf kPp) noLoops 10 47 [.agg [.row [.int .i64, .int .i64, .int .i64] n f, .lit (.int .i64 k), .lit (.int .i64 s), .lit (.int .i64 h)], .lit (.int .i64 L), .lit (.int .i64 l)] =
    T.ask (Row64 n f) (.br (U.ne (lk lcE n f k s h L l) (0 : Int)) (.ret (.tup [.lit (.slice none (nat_lit 0) (nat_lit 0)), .lit (.int .i64 (lk lcE n f k s h L l))])) (.ask (lk PaAsk n
      f k s h L) (.ask ((0 : Int) ≤ l ∧ l < ↑(U.toNat L)) (.ret (.tup [.row [.int .i64] (lk paF ((n, f), k, s, h, ()) L (U.toNat l)).fst.1 (lk paF ((n, f), k, s, h, ()) L (U.toNat
      l)).fst.2, .lit (.int .i64 0)]))))) := by kernel_rfl
section
variable {n : Nat} {f : Nat → R3} {k s h L l : Int}
theorem lsE_zero : lsE n f k s h L = 0 ↔ dmE n f k s h L = 0 ∧ szD n f k s h ≤ 5000 := by
  unfold lsE
  by_cases h1 : dmE n f k s h L = 0
  · rw [if_neg (by simp [h1])]
    by_cases h2 : 5000 < szD n f k s h
    · rw [if_pos h2]; exact ⟨fun g => by omega, fun g => by omega⟩
    · rw [if_neg h2]; exact ⟨fun _ => ⟨h1, by omega⟩, fun _ => rfl⟩
  · rw [if_pos h1]; exact ⟨fun g => absurd g h1, fun g => absurd g.1 h1⟩
theorem lcE_zero : lcE n f k s h L l = 0 ↔ lsE n f k s h L = 0 ∧ 0 ≤ l ∧ l < L := by
  unfold lcE
  by_cases h1 : lsE n f k s h L = 0
  · rw [if_neg (by simp [h1])]
    by_cases h2 : l < 0 ∨ L ≤ l
    · rw [if_pos h2]; exact ⟨fun g => by omega, fun g => by omega⟩
    · rw [if_neg h2]; exact ⟨fun _ => ⟨h1, by omega⟩, fun _ => rfl⟩
  · rw [if_pos h1]; exact ⟨fun g => absurd g h1, fun g => absurd g.1 h1⟩
theorem pa_ask (h0 : lsE n f k s h L = 0) : PaAsk n f k s h L := by
  obtain ⟨h1, h2⟩ := lsE_zero.1 h0
  refine ⟨h1, ?_⟩
  unfold szDn; omega
end
theorem Part_ok : ConOK P 47 c_Part := con_cl (allOK mixed kPp_ok) 10 47 fun args r hh => by
  unfold c_Part at hh
  split at hh
  · rename_i n f k s h L l
    have d := (T.is_ask hh).1
    obtain rfl := T.is_ret (T.is_ask hh).2
    refine T.all_of_eq (t_Part n f k s h L l) ?_
    simp only [lk_eq]
    refine ⟨d, fun g => ?_, fun g => ?_⟩
    · have g := U.ne_t.mp g
      have e : ptN n f k s h L l = 0 := by unfold ptN; rw [if_pos g]
      rw [e]
      exact ⟨cl_nil, .inl rfl, rfl⟩
    · have g := U.ne_f.mp g
      obtain ⟨g1, g2, g3⟩ := lcE_zero.1 g
      have e : ptN n f k s h L l = (partL n f k s h L l).length := by unfold ptN; rw [if_neg (by simp [g])]
      have el := nat64 g2
      have eL := nat64 (show 0 ≤ L by omega)
      rw [e]
      refine ⟨pa_ask g1, ⟨g2, by omega⟩, ⟨?_, eqShs_refl _, fun i hi => ?_⟩, .inl (congrArg (fun v => SV.lit (.int .i64 v)) g), rfl⟩
      · show (partL n f k s h L ((U.toNat l : Nat) : Int)).length = _
        rw [el]
      · show rowN (partL n f k s h L ((U.toNat l : Nat) : Int)) i = rowN (partL n f k s h L l) i
        rw [el]
  · exact hh.elim
end Go.RX.Span

/- Domain maps: the example of the laws: contracts. -/
set_option linter.unusedVariables false
set_option linter.unusedSimpArgs false
set_option maxRecDepth 100000
namespace Go.RX.Span
open Go Go.RX
attribute [local irreducible] sx conB

noncomputable abbrev kW0 : List (Nat × Con) := [(47, c_Part), (53, c_Hash), (30, c_Equal)] --%K
theorem kW0_ok : ∀ p ∈ kW0, ConOK P p.1 p.2 := by
  intro p hp
  simp only [kW0, List.mem_cons, List.not_mem_nil, or_false] at hp
  rcases hp with rfl | rfl | rfl
  · exact Part_ok
  · exact Hash_ok
  · exact Equal_ok
end Go.RX.Span

/- Domain maps: the example of the laws. -/
set_option linter.unusedVariables false
set_option linter.unusedSimpArgs false
set_option maxRecDepth 100000
namespace Go.RX.Span
open Go Go.RX
attribute [local irreducible] sx conB

def exD : Nat → R3 := fun _ => ((0 : Int), (9 : Int), (1 : Int), ())
def ex5 : Nat → R1 := fun _ => oneR 5
def exL : List R1 := [oneR 0, oneR 1, oneR 8, oneR 9]
theorem t_awake5 : (conB P (conOf kW0) noLoops 10 42 []).force [true, true] = .ask (Row64 1 exD) (.ask (U.eq (lk ptE 1 exD 3 2 0 4 0) 0 = true) (.ask (lk ptN 1 exD 3 2 0 4 0 ≤ 9223372036854775807)
    (.ask (lk eqR (lk ptN 1 exD 3 2 0 4 0) (lk ptF 1 exD 3 2 0 4 0) 4 (U.nth exL (oneR 0)) = true) (.ask (1 ≤ 1000000 ∧ I64s 1 ex5) (.ret (.lit (.bool (U.eq (lk hashN ex5 1) 222)))))))) := by kernel_rfl
theorem exPt : ptE 1 exD 3 2 0 4 0 = 0 := by decide +kernel
theorem exPl : partL 1 exD 3 2 0 4 0 = [0, 1, 8, 9] := by decide +kernel
theorem exH : hashN ex5 1 = 222 := by decide +kernel
theorem awake5_ok : ConOK P 42 c_true := con_force (allOK mixed kW0_ok) 10 42 fun args r h => by
  unfold c_true at h
  split at h
  · obtain rfl := T.is_ret h
    have eN : ptN 1 exD 3 2 0 4 0 = 4 := by unfold ptN; rw [if_neg (by have : lcE 1 exD 3 2 0 4 0 = 0 := exPt; simp [this]), exPl]; rfl
    refine ⟨_, T.all_of_eq t_awake5 ?_⟩
    simp only [lk_eq]
    refine ⟨fun i hi => (show I64 0 ∧ I64 9 ∧ I64 1 by unfold I64; omega), U.eq_t.mpr exPt, by rw [eN]; decide, eqR_t.2 ⟨eN, fun i hi => ?_⟩, ⟨by decide, fun i hi => (show I64 5 by unfold I64; omega)⟩, .inl ?_⟩
    · rw [eN] at hi
      show (rowN (partL 1 exD 3 2 0 4 0) i).1 = (U.nth exL (oneR 0) i).1
      rw [exPl, U.nth_eq]
      rcases (show i = 0 ∨ i = 1 ∨ i = 2 ∨ i = 3 by omega) with rfl | rfl | rfl | rfl <;> rfl
    · rw [U.eq_t.mpr exH]
  · exact h.elim
end Go.RX.Span

/- Domain maps: Counts, the least and the greatest of a list: the states. -/
set_option linter.unusedVariables false
set_option linter.unusedSimpArgs false
set_option maxRecDepth 100000
namespace Go.RX.Span
open Go Go.RX
attribute [local irreducible] sx conB

abbrev RL := Els [.sl [.int .i64]]
/-- The greatest and the least of the first so many numbers. -/
def mmN (b : Bool) (e : Nat → R1) : Nat → Int
  | 0 => nv e 0
  | j + 1 => if b = true then max (mmN b e j) (nv e j) else min (mmN b e j) (nv e j)
noncomputable def ctN (n : Nat) (f : Nat → R3) (k s h L : Int) : Nat := if lsE n f k s h L ≠ 0 then 0 else U.toNat L
noncomputable def fewB (n : Nat) (f : Nat → R3) (k s h : Int) (w : Int) : Bool := decide (n ≤ 10 ∧ (szD n f k s h ≤ w ∨ 5000 < szD n f k s h))
noncomputable def c_Few : Con := fun args => match args with
  | [.agg [.row [.int .i64, .int .i64, .int .i64] n f, .lit (.int .i64 k), .lit (.int .i64 s), .lit (.int .i64 h)], .lit (.int .i64 w)] => .ask (Row64 n f) (.ret (.lit (.bool (lk fewB n f k s h w))))
  | _ => .stuck 1
end Go.RX.Span

/- Domain maps: Counts, the least and the greatest of a list: the walks. -/
set_option linter.unusedVariables false
set_option linter.unusedSimpArgs false
set_option maxRecDepth 100000
namespace Go.RX.Span
open Go Go.RX
attribute [local irreducible] sx conB

--%R ↑n = ↑n => ((n : Nat) : Int) = ((n : Nat) : Int)
set_option maxRecDepth 100000 in
theorem t_Few (n : Nat) (f : Nat → R3) (k s h w : Int) : conB Go.Proofs.Try.prog (conOf kQ0) noLoops 10 39 [.agg [.row [.int .i64, .int .i64, .int .i64] n f, .lit (.int .i64 k), .lit (.int .i64 s), .lit (.int .i64 h)], .lit (.int .i64 w)] =
    T.ask (Row64 n f) (.br (U.le (Int.ofNat n) (10 : Int)) (.br (U.le (lk szD n f k s h) w) (.ret (.lit (.bool true))) (.ret (.lit (.bool (U.gt (lk szD n f k s h) (5000 : Int))))))
      (.ret (.lit (.bool false)))) := by kernel_rfl
end Go.RX.Span

/- Domain maps: Counts, the least and the greatest of a list: the contracts. -/
set_option linter.unusedVariables false
set_option linter.unusedSimpArgs false
set_option maxRecDepth 100000
namespace Go.RX.Span
open Go Go.RX
attribute [local irreducible] sx conB

theorem rowRL {n : Nat} {f g : Nat → RL} (h : ∀ i, i < n → f i = g i) : sameRow n f g := ⟨eqShs_refl _, fun i hi => h i hi⟩
theorem ren1z (ρ : Ren) : ∀ b, b < 0 → ρ.of b = some b := fun b hb => absurd hb (Nat.not_lt_zero b)
theorem isz_s (j : Nat) : U.isz (j + 1) = false := by rw [U.isz_eq]; simp
theorem Few_ok : ConOK P 39 c_Few := con_of (allOK mixed kQ0_ok) 10 39 fun args r h => by
  unfold c_Few at h
  split at h
  · rename_i n f k s h' w
    have d := (T.is_ask h).1
    obtain rfl := T.is_ret (T.is_ask h).2
    refine T.all_of_eq (t_Few n f k s h' w) ?_
    simp only [lk_eq]
    have key : ∀ x, x = fewB n f k s h' w → SV.lit (.bool x) = SV.lit (.bool (fewB n f k s h' w)) := fun x hx => by rw [hx]
    refine ⟨d, fun g => ⟨fun g2 => key _ ?_, fun g2 => key _ ?_⟩, fun g => key _ ?_⟩
    · have a := U.le_t.mp g; have b := U.le_t.mp g2
      simp only [Int.ofNat_eq_natCast] at a
      exact (decide_eq_true ⟨by omega, .inl b⟩).symm
    · have a := U.le_t.mp g; have b := U.le_f.mp g2
      simp only [Int.ofNat_eq_natCast] at a
      unfold fewB
      rw [Bool.eq_iff_iff, U.gt_t, decide_eq_true_eq]
      constructor
      · intro c; exact ⟨by omega, .inr c⟩
      · rintro ⟨_, c | c⟩ <;> omega
    · have a := U.le_f.mp g
      simp only [Int.ofNat_eq_natCast] at a
      exact (decide_eq_false fun c => by omega).symm
  · exact h.elim
end Go.RX.Span

/- Domain maps: Global, Local: plain; BinarySearch: its loop. -/
set_option linter.unusedVariables false
set_option linter.unusedSimpArgs false
set_option maxRecDepth 100000
namespace Go.RX.Span
open Go Go.RX
attribute [local irreducible] sx conB

/-- How many numbers of an ascending list are less. -/
def bsI (n : Nat) (e : Nat → R1) (x : Int) : Nat := ((List.range n).filter fun i => decide (nv e i < x)).length
noncomputable def bsB (n : Nat) (e : Nat → R1) (x : Int) : Bool := open Classical in decide (∃ i, i < n ∧ nv e i = x)
def BsAsk (n : Nat) (e : Nat → R1) : Prop := n ≤ 100000 ∧ ∀ i j, i < j → j < n → nv e i < nv e j
noncomputable abbrev slBs (n : Nat) (e : Nat → R1) (x i j : Int) : List SV := [.row [.int .i64] n e, .lit (.int .i64 x), .lit (.int .i64 (n : Int)), .lit (.int .i64 i), .lit (.int .i64 j)]
noncomputable def gBs : Nat → Few → T (Ex × Few)
  | n0, ([.row [.int .i64] n e, .lit (.int .i64 x), .lit (.int .i64 N'), .ki .i64 0, .lit (.int .i64 N2)], []) => .ask (n0 = 0 ∧ lk BsAsk n e ∧ N' = (n : Int) ∧ N2 = (n : Int)) (.ret (.exit 0, (slBs n e x ((lk bsI n e x : Nat) : Int) ((lk bsI n e x : Nat) : Int), [])))
  | _, _ => .stuck 1
noncomputable abbrev lBs : List (Nat × Loops) := [(146, [(3, .sum (few 54 [0,1,6,7,8] gBs))])] --%K
noncomputable def c_BS : Con := fun args => match args with
  | [.row [.int .i64] n e, .lit (.int .i64 x)] => .ask (lk BsAsk n e) (.ret (.tup [.lit (.int .i64 ((lk bsI n e x : Nat) : Int)), .lit (.bool (lk bsB n e x))]))
  | _ => .stuck 1
section
variable (n : Nat) (f : Nat → R3) (k s h L : Int)
/-- The position with a number in a part. -/
noncomputable def glE (l a : Int) : Int := if lcE n f k s h L l ≠ 0 then lcE n f k s h L l else if a < 0 ∨ ((partL n f k s h L l).length : Int) ≤ a then 22 else 0
noncomputable def glV (l a : Int) : Int := if glE n f k s h L l a ≠ 0 then 0 else nv (rowN (partL n f k s h L l)) a.toNat
/-- The locale of a position, and its number there. -/
noncomputable def loE (p : Int) : Int := if lsE n f k s h L ≠ 0 then lsE n f k s h L else oaE n f k s h L p
noncomputable def loV (p : Int) : Int := if loE n f k s h L p ≠ 0 then 0 else oaV n f k s h L p
noncomputable def loA (p : Int) : Int := if loE n f k s h L p ≠ 0 then 0 else ((pkL (owP n f k s h L) p.toNat (oaV n f k s h L p)).length : Int)
end
noncomputable def c_Global : Con := fun args => match args with
  | [.agg [.row [.int .i64, .int .i64, .int .i64] n f, .lit (.int .i64 k), .lit (.int .i64 s), .lit (.int .i64 h)], .lit (.int .i64 L), .lit (.int .i64 l), .lit (.int .i64 a)] => .ask (Row64 n f) (.ret (.tup [.lit (.int .i64 (lk glV n f k s h L l a)), .lit (.int .i64 (lk glE n f k s h L l a))]))
  | _ => .stuck 1
noncomputable def c_Local : Con := fun args => match args with
  | [.agg [.row [.int .i64, .int .i64, .int .i64] n f, .lit (.int .i64 k), .lit (.int .i64 s), .lit (.int .i64 h)], .lit (.int .i64 L), .lit (.int .i64 p)] => .ask (Row64 n f ∧ I64 p) (.ret (.tup [.lit (.int .i64 (lk loV n f k s h L p)), .lit (.int .i64 (lk loA n f k s h L p)), .lit (.int .i64 (lk loE n f k s h L p))]))
  | _ => .stuck 1
noncomputable abbrev kLo : List (Nat × Con) := [(134, c_located), (129, c_listed), (131, c_parts), (50, c_OwnerAt), (146, c_BS)] --%K
end Go.RX.Span

/- Domain maps: Global, Local, BinarySearch: the walks. -/
set_option linter.unusedVariables false
set_option linter.unusedSimpArgs false
set_option maxRecDepth 100000
namespace Go.RX.Span
open Go Go.RX
attribute [local irreducible] sx conB

--%R ↑n = ↑n => ((n : Nat) : Int) = ((n : Nat) : Int)
--%R ↑\((lk\s+bsI\s+n\s+e\s+x)\) => ((\1 : Nat) : Int)
set_option maxRecDepth 100000 in
theorem t_Bs (n : Nat) (e : Nat → R1) (x i j : Int) : (sx E0 [] 0 (loopOf P 146 3) (mkS 54 [0,1,6,7,8] (slBs n e x i j), [])).bind (proj 54 [0,1,6,7,8]) =
    T.br (U.lt i j) (.ask ((0 : Int) ≤ (1 : Int)) (.ask ((0 : Int) ≤ U.wrap .i64 (U.shr .u64 (U.wrap .u64 (U.add .i64 i j)) (1 : Int)) ∧ U.wrap .i64 (U.shr .u64 (U.wrap .u64 (U.add .i64
      i j)) (1 : Int)) < ↑n) (.br (U.ne (e (U.toNat (U.wrap .i64 (U.shr .u64 (U.wrap .u64 (U.add .i64 i j)) (1 : Int))))).1 (e (U.toNat (U.wrap .i64 (U.shr .u64 (U.wrap .u64 (U.add .i64 i
      j)) (1 : Int))))).1) (.br (U.not (U.ne x x)) (.ret (Ex.normal, [.row [.int .i64] n e, .lit (.int .i64 x), .lit (.int .i64 (Int.ofNat n)), .lit (.int .i64 (U.add .i64 (U.wrap .i64
      (U.shr .u64 (U.wrap .u64 (U.add .i64 i j)) (1 : Int))) (1 : Int))), .lit (.int .i64 j)], [])) (.br (U.lt (e (U.toNat (U.wrap .i64 (U.shr .u64 (U.wrap .u64 (U.add .i64 i j)) (1 :
      Int))))).1 x) (.ret (Ex.normal, [.row [.int .i64] n e, .lit (.int .i64 x), .lit (.int .i64 (Int.ofNat n)), .lit (.int .i64 (U.add .i64 (U.wrap .i64 (U.shr .u64 (U.wrap .u64 (U.add
      .i64 i j)) (1 : Int))) (1 : Int))), .lit (.int .i64 j)], [])) (.ret (Ex.normal, [.row [.int .i64] n e, .lit (.int .i64 x), .lit (.int .i64 (Int.ofNat n)), .lit (.int .i64 i), .lit
      (.int .i64 (U.wrap .i64 (U.shr .u64 (U.wrap .u64 (U.add .i64 i j)) (1 : Int))))], [])))) (.br (U.lt (e (U.toNat (U.wrap .i64 (U.shr .u64 (U.wrap .u64 (U.add .i64 i j)) (1 :
      Int))))).1 x) (.ret (Ex.normal, [.row [.int .i64] n e, .lit (.int .i64 x), .lit (.int .i64 (Int.ofNat n)), .lit (.int .i64 (U.add .i64 (U.wrap .i64 (U.shr .u64 (U.wrap .u64 (U.add
      .i64 i j)) (1 : Int))) (1 : Int))), .lit (.int .i64 j)], [])) (.ret (Ex.normal, [.row [.int .i64] n e, .lit (.int .i64 x), .lit (.int .i64 (Int.ofNat n)), .lit (.int .i64 i), .lit
      (.int .i64 (U.wrap .i64 (U.shr .u64 (U.wrap .u64 (U.add .i64 i j)) (1 : Int))))], [])))))) (.ret (Ex.exit (nat_lit 0), [.row [.int .i64] n e, .lit (.int .i64 x), .lit (.int .i64
      (Int.ofNat n)), .lit (.int .i64 i), .lit (.int .i64 j)], [])) := by kernel_rfl
set_option maxRecDepth 100000 in
theorem t_BS (n : Nat) (e : Nat → R1) (x : Int) : conB Go.Proofs.Try.prog (conOf []) (loopsOf lBs) 10 146 [.row [.int .i64] n e, .lit (.int .i64 x)] =
    T.ask (nat_lit 0 = (0 : Nat) ∧ lk BsAsk n e ∧ ((n : Nat) : Int) = ((n : Nat) : Int) ∧ ((n : Nat) : Int) = ((n : Nat) : Int)) (.br (U.lt (Int.ofNat (lk bsI n e x)) (Int.ofNat n))
      (.ask ((0 : Int) ≤ ((lk bsI n e x : Nat) : Int) ∧ ((lk bsI n e x : Nat) : Int) < ↑n) (.br (U.eq (e (U.toNat ((lk bsI n e x : Nat) : Int))).1 x) (.ret (.tup [.lit (.int .i64
      (Int.ofNat (lk bsI n e x))), .lit (.bool true)])) (.ask ((0 : Int) ≤ ((lk bsI n e x : Nat) : Int) ∧ ((lk bsI n e x : Nat) : Int) < ↑n) (.br (U.ne (e (U.toNat ((lk bsI n e x : Nat) :
      Int))).1 (e (U.toNat ((lk bsI n e x : Nat) : Int))).1) (.ret (.tup [.lit (.int .i64 (Int.ofNat (lk bsI n e x))), .lit (.bool (U.ne x x))])) (.ret (.tup [.lit (.int .i64 (Int.ofNat
      (lk bsI n e x))), .lit (.bool false)])))))) (.ret (.tup [.lit (.int .i64 (Int.ofNat (lk bsI n e x))), .lit (.bool false)]))) := by kernel_rfl
set_option maxRecDepth 100000 in
theorem t_Global (n : Nat) (f : Nat → R3) (k s h L l a : Int) : conB Go.Proofs.Try.prog (conOf kLo) noLoops 10 61 [.agg [.row [.int .i64, .int .i64, .int .i64] n f, .lit (.int .i64 k), .lit (.int .i64 s), .lit (.int .i64 h)], .lit (.int .i64 L), .lit (.int .i64 l), .lit (.int .i64 a)] =
    T.ask (Row64 n f) (.br (U.ne (lk lcE n f k s h L l) (0 : Int)) (.ret (.tup [.lit (.int .i64 0), .lit (.int .i64 (lk lcE n f k s h L l))])) (.ask (lk PaAsk n f k s h L) (.ask ((0 :
      Int) ≤ l ∧ l < ↑(U.toNat L)) (.br (U.lt a (0 : Int)) (.ret (.tup [.lit (.int .i64 0), .lit (.int .i64 22)])) (.br (U.ge a (Int.ofNat (lk paF ((n, f), k, s, h, ()) L (U.toNat
      l)).fst.1)) (.ret (.tup [.lit (.int .i64 0), .lit (.int .i64 22)])) (.ask ((0 : Int) ≤ a ∧ a < ↑(lk paF ((n, f), k, s, h, ()) L (U.toNat l)).fst.1) (.ret (.tup [.lit (.int .i64 ((lk
      paF ((n, f), k, s, h, ()) L (U.toNat l)).fst.snd (U.toNat a)).1), .lit (.int .i64 0)])))))))) := by kernel_rfl
set_option maxRecDepth 100000 in
theorem t_Local (n : Nat) (f : Nat → R3) (k s h L p : Int) : conB Go.Proofs.Try.prog (conOf kLo) noLoops 10 62 [.agg [.row [.int .i64, .int .i64, .int .i64] n f, .lit (.int .i64 k), .lit (.int .i64 s), .lit (.int .i64 h)], .lit (.int .i64 L), .lit (.int .i64 p)] =
    T.ask (Row64 n f) (.br (U.ne (lk lsE n f k s h L) (0 : Int)) (.ret (.tup [.lit (.int .i64 0), .lit (.int .i64 0), .lit (.int .i64 (lk lsE n f k s h L))])) (.ask (Row64 n f ∧ I64 p)
      (.br (U.ne (lk oaE n f k s h L p) (0 : Int)) (.ret (.tup [.lit (.int .i64 0), .lit (.int .i64 0), .lit (.int .i64 (lk oaE n f k s h L p))])) (.ask (lk PaAsk n f k s h L) (.ask ((0 :
      Int) ≤ lk oaV n f k s h L p ∧ lk oaV n f k s h L p < ↑(U.toNat L)) (.ask (lk BsAsk (lk paF ((n, f), k, s, h, ()) L (U.toNat (lk oaV n f k s h L p))).fst.1 (lk paF ((n, f), k, s, h,
      ()) L (U.toNat (lk oaV n f k s h L p))).fst.snd) (.ret (.tup [.lit (.int .i64 (lk oaV n f k s h L p)), .lit (.int .i64 (Int.ofNat (lk bsI (lk paF ((n, f), k, s, h, ()) L (U.toNat
      (lk oaV n f k s h L p))).fst.1 (lk paF ((n, f), k, s, h, ()) L (U.toNat (lk oaV n f k s h L p))).fst.2 p))), .lit (.int .i64 0)])))))))) := by kernel_rfl
end Go.RX.Span

/- Domain maps: Global, Local, BinarySearch: the contracts. -/
set_option linter.unusedVariables false
set_option linter.unusedSimpArgs false
set_option maxRecDepth 100000
namespace Go.RX.Span
open Go Go.RX
attribute [local irreducible] sx conB

theorem mid_eq {i j : Nat} (h : i + j ≤ 1000000) : U.wrap .i64 (U.shr .u64 (U.wrap .u64 (U.add .i64 (i : Int) (j : Int))) 1) = (((i + j) / 2 : Nat) : Int) := by
  rw [U.add64 (by unfold I64; omega), U.shr_eq, U.wrap_eq, U.wrap_eq, IntKind.wrap_u64, IntKind.wrap_i64]
  have e : (2 : Int) ^ min (1 : Int).toNat (IntKind.bits .u64) = 2 := by decide
  rw [e, Int.fdiv_eq_ediv_of_nonneg _ (by omega)]
  omega
theorem bsI_of {n : Nat} {e : Nat → R1} {x : Int} {lo : Nat} (hn : lo ≤ n) (h1 : ∀ i, i < lo → nv e i < x) (h2 : ∀ i, lo ≤ i → i < n → x ≤ nv e i) : bsI n e x = lo := by
  unfold bsI
  have : n = lo + (n - lo) := by omega
  rw [this, List.range_add, List.filter_append, List.length_append]
  rw [List.filter_eq_self.2 fun i hi => decide_eq_true (h1 i (List.mem_range.1 hi)), List.length_range]
  have : ((List.range (n - lo)).map (lo + ·)).filter (fun i => decide (nv e i < x)) = [] := List.filter_eq_nil_iff.2 fun i hi => by
    obtain ⟨j, hj, rfl⟩ := List.mem_map.1 hi
    have hj := List.mem_range.1 hj
    have := h2 (lo + j) (by omega) (by omega)
    simp only [decide_eq_true_eq]; omega
  rw [this]; rfl
structure XBs where
  (n : Nat) (e : Nat → R1) (x : Int) (lo hi : Nat)
noncomputable abbrev VBs (q : XBs) : Few := (slBs q.n q.e q.x (q.lo : Int) (q.hi : Int), [])
noncomputable def OBs (q : XBs) : Ex × Few := (.exit 0, (slBs q.n q.e q.x ((bsI q.n q.e q.x : Nat) : Int) ((bsI q.n q.e q.x : Nat) : Int), []))
def PhiBs (n0 : Nat) (q : XBs) : Prop := n0 = 0 ∧ BsAsk q.n q.e ∧ q.lo ≤ q.hi ∧ q.hi ≤ q.n ∧ (∀ i, i < q.lo → nv q.e i < q.x) ∧ ∀ i, q.hi ≤ i → i < q.n → q.x ≤ nv q.e i
theorem roundBs (n0 : Nat) (q : XBs) (hq : PhiBs n0 q) : ((sx E0 [] n0 (loopOf P 146 3) (mkS 54 [0,1,6,7,8] (VBs q).1, (VBs q).2)).bind (proj 54 [0,1,6,7,8])).All fun r => match r.1 with
      | .normal => ∃ q', PhiBs n0 q' ∧ q'.hi - q'.lo < q.hi - q.lo ∧ Wk 54 [0,1,6,7,8] n0 r.2 (VBs q') ∧ ∀ o, o = OBs q' → o = OBs q
      | e => ∃ s, (e, s) = OBs q ∧ Wk 54 [0,1,6,7,8] n0 r.2 s := by
  obtain ⟨n, e, x, lo, hi⟩ := q
  obtain ⟨h0, ⟨hn, hs⟩, h1, h2, h3, h4⟩ := hq
  simp only [] at h0 hn hs h1 h2 h3 h4
  subst h0
  refine T.all_of_eq (t_Bs n e x (lo : Int) (hi : Int)) ?_
  have w0 : ∀ {vs vs' : List SV}, RlL (idR 0) vs vs' → Wk 54 [0,1,6,7,8] 0 (vs, []) (vs', []) := fun h => wk_of (idR 0) rfl (Nat.zero_le _) (fun b hb => by omega) h trivial
  by_cases hlt : lo < hi
  · have em := mid_eq (i := lo) (j := hi) (by omega)
    have e2 : U.add .i64 (((lo + hi) / 2 : Nat) : Int) 1 = (((lo + hi) / 2 + 1 : Nat) : Int) := by rw [U.add64 (by unfold I64; omega)]; omega
    simp only [em, e2, tnH]
    have up : nv e ((lo + hi) / 2) < x → ∃ q' : XBs, PhiBs 0 q' ∧ q'.hi - q'.lo < hi - lo ∧ Wk 54 [0,1,6,7,8] 0 (slBs n e x (((lo + hi) / 2 + 1 : Nat) : Int) (hi : Int), []) (VBs q') ∧ ∀ o, o = OBs q' → o = OBs ⟨n, e, x, lo, hi⟩ := fun hx => by
      refine ⟨⟨n, e, x, (lo + hi) / 2 + 1, hi⟩, ⟨rfl, ⟨hn, hs⟩, by simp only []; omega, h2, fun i hi' => ?_, h4⟩, by simp only []; omega, w0 ⟨⟨rfl, row1H fun _ _ => rfl⟩, rfl, rfl, rfl, rfl, trivial⟩, fun o ho => ho⟩
      have hi' : i < (lo + hi) / 2 + 1 := hi'
      by_cases e : i = (lo + hi) / 2
      · subst e; exact hx
      · exact Int.lt_trans (hs i ((lo + hi) / 2) (by omega) (by omega)) hx
    have dn : ¬ nv e ((lo + hi) / 2) < x → ∃ q' : XBs, PhiBs 0 q' ∧ q'.hi - q'.lo < hi - lo ∧ Wk 54 [0,1,6,7,8] 0 (slBs n e x (lo : Int) (((lo + hi) / 2 : Nat) : Int), []) (VBs q') ∧ ∀ o, o = OBs q' → o = OBs ⟨n, e, x, lo, hi⟩ := fun hx => by
      refine ⟨⟨n, e, x, lo, (lo + hi) / 2⟩, ⟨rfl, ⟨hn, hs⟩, by simp only []; omega, by simp only []; omega, h3, fun i hi' hin => ?_⟩, by simp only []; omega, w0 ⟨⟨rfl, row1H fun _ _ => rfl⟩, rfl, rfl, rfl, rfl, trivial⟩, fun o ho => ho⟩
      have hi' : (lo + hi) / 2 ≤ i := hi'
      have hin : i < n := hin
      show x ≤ nv e i
      by_cases ee : i = (lo + hi) / 2
      · rw [ee]; omega
      · have := hs ((lo + hi) / 2) i (by omega) hin; omega
    refine ⟨fun _ => ⟨by decide, ⟨by omega, by omega⟩, fun g => absurd rfl (U.ne_t.mp g), fun _ => ⟨fun g => up ?_, fun g => dn ?_⟩⟩, fun h => absurd (U.lt_f.mp h) (by omega)⟩
    · exact U.lt_t.mp g
    · have : x ≤ nv e ((lo + hi) / 2) := U.lt_f.mp g
      omega
  · have hl : lo = hi := by omega
    subst hl
    refine ⟨fun h => absurd (U.lt_t.mp h) (by omega), fun _ => ⟨_, rfl, ?_⟩⟩
    have eb : bsI n e x = lo := bsI_of h2 h3 h4
    refine w0 ⟨⟨rfl, row1H fun _ _ => rfl⟩, rfl, rfl, ?_, ?_, trivial⟩
    · show Value.int .i64 _ = Value.int .i64 _
      rw [eb]
    · show Value.int .i64 _ = Value.int .i64 _
      rw [eb]
theorem loopBs : LoopOK P (loopOf P 146 3) (few 54 [0,1,6,7,8] gBs) :=
  loop_few (E := E0) mixed E0_ok loopsOK_none 54 [0,1,6,7,8] (X := XBs) gBs (fun _ x => VBs x) PhiBs (fun q => q.hi - q.lo) (fun _ x o => o = OBs x)
    (fun n0 st r h => by
      unfold gBs at h
      split at h
      · rename_i n0 n e x N' N2
        obtain ⟨h0, hp, rfl, rfl⟩ := (T.is_ask h).1
        obtain rfl := T.is_ret (T.is_ask h).2
        rw [lk_eq] at hp
        subst h0
        exact ⟨⟨n, e, x, 0, n⟩, ⟨rfl, hp, Nat.zero_le _, Nat.le_refl _, fun i hi => absurd hi (Nat.not_lt_zero i), fun i h1 h2 => absurd h2 (by show ¬ i < n; have h1 : n ≤ i := h1; omega)⟩, wk_of (idR 0) rfl (Nat.zero_le _) (fun b hb => by omega) ⟨⟨rfl, row1H fun _ _ => rfl⟩, rfl, rfl, rfl, rfl, trivial⟩ trivial, fun o ho => by rw [ho]; simp only [lk_eq]; rfl⟩
      · exact h.elim)
    roundBs
theorem lBs_ok : ∀ p ∈ lBs, LoopsOK P p.2 (bodyOf P p.1) := by
  intro p hp
  simp only [lBs, List.mem_singleton] at hp
  subst hp
  refine loopsOK_of (by kernel_rfl) fun k g hk => ?_
  simp only [List.mem_singleton, Prod.mk.injEq, LoopC.sum.injEq] at hk
  obtain ⟨rfl, rfl⟩ := hk
  exact loopBs
/-- What is known of the place that is found. -/
theorem bs_spec {n : Nat} {e : Nat → R1} (h : BsAsk n e) (x : Int) : bsI n e x ≤ n ∧ (∀ i, i < bsI n e x → nv e i < x) ∧ ∀ i, bsI n e x ≤ i → i < n → x ≤ nv e i := by
  have key : ∀ m, m ≤ n → ∃ lo, lo ≤ m ∧ (∀ i, i < lo → nv e i < x) ∧ ∀ i, lo ≤ i → i < m → x ≤ nv e i := by
    intro m
    induction m with
    | zero => exact fun _ => ⟨0, Nat.le_refl _, fun i hi => absurd hi (Nat.not_lt_zero i), fun i _ hi => absurd hi (Nat.not_lt_zero i)⟩
    | succ m ih =>
      intro hm
      obtain ⟨lo, a1, a2, a3⟩ := ih (by omega)
      by_cases hx : nv e m < x
      · refine ⟨m + 1, Nat.le_refl _, fun i hi => ?_, fun i h1 h2 => by omega⟩
        by_cases e : i = m
        · subst e; exact hx
        · exact Int.lt_trans (h.2 i m (by omega) (by omega)) hx
      · refine ⟨lo, by omega, a2, fun i h1 h2 => ?_⟩
        by_cases e : i = m
        · subst e; omega
        · exact a3 i h1 (by omega)
  obtain ⟨lo, a1, a2, a3⟩ := key n (Nat.le_refl _)
  rw [bsI_of a1 a2 a3]
  exact ⟨a1, a2, a3⟩
theorem BS_ok : ConOK P 146 c_BS := con_of (allOKL mixed none_ok lBs_ok) 10 146 fun args r h => by
  unfold c_BS at h
  split at h
  · rename_i n e x
    have hp := (T.is_ask h).1
    obtain rfl := T.is_ret (T.is_ask h).2
    rw [lk_eq] at hp
    obtain ⟨b1, b2, b3⟩ := bs_spec hp x
    refine T.all_of_eq (t_BS n e x) ?_
    simp only [lk_eq, tnH]
    have key : ∀ b : Bool, b = bsB n e x → SV.tup [.lit (.int .i64 (Int.ofNat (bsI n e x))), .lit (.bool b)] = SV.tup [.lit (.int .i64 ((bsI n e x : Nat) : Int)), .lit (.bool (bsB n e x))] := fun b hb => by rw [hb]; rfl
    have no : ¬ (∃ i, i < n ∧ nv e i = x) → false = bsB n e x := fun w => by unfold bsB; exact (decide_eq_false w).symm
    refine ⟨⟨trivial, hp, trivial, trivial⟩, fun g => ⟨⟨by omega, ?_⟩, fun g2 => key _ ?_, fun g2 => ⟨⟨by omega, ?_⟩, fun g3 => absurd rfl (U.ne_t.mp g3), fun g3 => key _ (no ?_)⟩⟩, fun g => key _ (no ?_)⟩
    · have := U.lt_t.mp g; simp only [Int.ofNat_eq_natCast] at this; exact this
    · have g := U.lt_t.mp g; simp only [Int.ofNat_eq_natCast] at g
      unfold bsB
      exact (decide_eq_true ⟨bsI n e x, by omega, U.eq_t.mp g2⟩).symm
    · have := U.lt_t.mp g; simp only [Int.ofNat_eq_natCast] at this; exact this
    · rintro ⟨i, hi, he⟩
      have g := U.lt_t.mp g; simp only [Int.ofNat_eq_natCast] at g
      have g2 : nv e (bsI n e x) ≠ x := U.eq_f.mp g2
      rcases Nat.lt_trichotomy i (bsI n e x) with w | w | w
      · have := b2 i w; omega
      · exact g2 (w ▸ he)
      · have := hp.2 (bsI n e x) i w hi
        have := b3 (bsI n e x) (Nat.le_refl _) (by omega)
        omega
    · rintro ⟨i, hi, he⟩
      have g := U.lt_f.mp g; simp only [Int.ofNat_eq_natCast] at g
      have := b2 i (by omega); omega
  · exact h.elim
end Go.RX.Span

/- Domain maps: Global, Local. -/
set_option linter.unusedVariables false
set_option linter.unusedSimpArgs false
set_option maxRecDepth 100000
namespace Go.RX.Span
open Go Go.RX
attribute [local irreducible] sx conB

theorem kLo_ok : ∀ p ∈ kLo, ConOK P p.1 p.2 := by
  intro p hp
  simp only [kLo, List.mem_cons, List.not_mem_nil, or_false] at hp
  rcases hp with rfl | rfl | rfl | rfl | rfl
  · exact located_ok
  · exact listed_ok
  · exact parts_ok
  · exact OwnerAt_ok
  · exact BS_ok
theorem rowN_get {l : List Nat} {i : Nat} (h : i < l.length) : nv (rowN l) i = ((l[i] : Nat) : Int) := by
  show ((l.getD i 0 : Nat) : Int) = _
  rw [List.getD_eq_getElem?_getD, List.getElem?_eq_getElem h]; rfl
section
variable {n : Nat} {f : Nat → R3} {k s h L : Int}
theorem bs_part (h5 : szDn n f k s h ≤ 5000) (l : Int) : BsAsk (partL n f k s h L l).length (rowN (partL n f k s h L l)) := by
  refine ⟨Nat.le_trans (partL_len l) (by omega), fun i j hij hj => ?_⟩
  rw [rowN_get (by omega), rowN_get hj]
  have := List.pairwise_iff_getElem.1 (partL_sorted (n := n) (f := f) (k := k) (s := s) (h := h) (L := L) l) i j (by omega) hj hij
  omega
theorem part_split {i : Nat} (hi : i ≤ szDn n f k s h) (l : Int) : ∃ r : List Nat, partL n f k s h L l = pkL (owP n f k s h L) i l ++ r ∧ ∀ p ∈ r, i ≤ p := by
  refine ⟨((List.range (szDn n f k s h - i)).map (i + ·)).filter fun p => decide (owP n f k s h L p = l), ?_, fun p hp => ?_⟩
  · unfold partL pkL
    rw [show szDn n f k s h = i + (szDn n f k s h - i) by omega, List.range_add, List.filter_append]
    rw [show i + (szDn n f k s h - i) - i = szDn n f k s h - i by omega]
  · obtain ⟨j, _, rfl⟩ := List.mem_map.1 (List.mem_filter.1 hp).1
    omega
theorem bs_pos {i : Nat} (hi : i ≤ szDn n f k s h) (l : Int) : bsI (partL n f k s h L l).length (rowN (partL n f k s h L l)) (i : Int) = (pkL (owP n f k s h L) i l).length := by
  obtain ⟨r, e, hr⟩ := part_split (L := L) hi l
  refine bsI_of (by rw [e, List.length_append]; omega) (fun j hj => ?_) fun j h1 h2 => ?_
  · rw [rowN_get (by rw [e, List.length_append]; omega)]
    have : (partL n f k s h L l)[j]'(by rw [e, List.length_append]; omega) = (pkL (owP n f k s h L) i l)[j] := by
      simp only [e]; rw [List.getElem_append_left hj]
    rw [this]
    have := (List.mem_filter.1 (List.getElem_mem hj)).1
    have := List.mem_range.1 this
    omega
  · rw [rowN_get h2]
    have hlen : j - (pkL (owP n f k s h L) i l).length < r.length := by rw [e, List.length_append] at h2; omega
    have : (partL n f k s h L l)[j] = r[j - (pkL (owP n f k s h L) i l).length] := by
      simp only [e]; rw [List.getElem_append_right h1]
    rw [this]
    have := hr _ (List.getElem_mem hlen)
    omega
end
theorem Global_ok : ConOK P 61 c_Global := con_of (allOK mixed kLo_ok) 10 61 fun args r hh => by
  unfold c_Global at hh
  split at hh
  · rename_i n f k s h L l a
    have d := (T.is_ask hh).1
    obtain rfl := T.is_ret (T.is_ask hh).2
    refine T.all_of_eq (t_Global n f k s h L l a) ?_
    simp only [lk_eq]
    have key : ∀ v x, v = glV n f k s h L l a → x = glE n f k s h L l a → SV.tup [.lit (.int .i64 v), .lit (.int .i64 x)] = SV.tup [.lit (.int .i64 (glV n f k s h L l a)), .lit (.int .i64 (glE n f k s h L l a))] := fun v x h1 h2 => by rw [h1, h2]
    have eV : glE n f k s h L l a ≠ 0 → 0 = glV n f k s h L l a := fun w => by unfold glV; rw [if_pos w]
    refine ⟨d, fun g => ?_, fun g => ?_⟩
    · have g := U.ne_t.mp g
      have e1 : lcE n f k s h L l = glE n f k s h L l a := by unfold glE; rw [if_pos g]
      exact key _ _ (eV (by rw [← e1]; exact g)) e1
    · have g := U.ne_f.mp g
      obtain ⟨g1, g2, g3⟩ := lcE_zero.1 g
      have el := nat64 g2
      have eL := nat64 (show 0 ≤ L by omega)
      have e22 : (a < 0 ∨ ((partL n f k s h L l).length : Int) ≤ a) → 22 = glE n f k s h L l a := fun w => by unfold glE; rw [if_neg (by simp [g]), if_pos w]
      have ep : (paF ((n, f), k, s, h, ()) L (U.toNat l)).1 = ((partL n f k s h L l).length, rowN (partL n f k s h L l)) := by
        show ((partL n f k s h L ((U.toNat l : Nat) : Int)).length, rowN (partL n f k s h L ((U.toNat l : Nat) : Int))) = _
        rw [el]
      simp only [ep]
      refine ⟨pa_ask g1, ⟨g2, by omega⟩, fun g4 => ?_, fun g4 => ⟨fun g5 => ?_, fun g5 => ⟨⟨?_, ?_⟩, ?_⟩⟩⟩
      · have e1 := e22 (.inl (U.lt_t.mp g4))
        exact key _ _ (eV (by omega)) e1
      · have g5 := U.ge_t.mp g5
        simp only [Int.ofNat_eq_natCast] at g5
        have e1 := e22 (.inr g5)
        exact key _ _ (eV (by omega)) e1
      · exact U.lt_f.mp g4
      · have g5 := U.ge_f.mp g5
        simp only [Int.ofNat_eq_natCast] at g5; exact g5
      · have g4 := U.lt_f.mp g4
        have g5 := U.ge_f.mp g5
        simp only [Int.ofNat_eq_natCast] at g5
        have e1 : glE n f k s h L l a = 0 := by unfold glE; rw [if_neg (by simp [g]), if_neg (by omega)]
        refine key _ _ ?_ e1.symm
        unfold glV
        rw [if_neg (by simp [e1]), U.toNat_eq]; rfl
  · exact hh.elim
theorem Local_ok : ConOK P 62 c_Local := con_of (allOK mixed kLo_ok) 10 62 fun args r hh => by
  unfold c_Local at hh
  split at hh
  · rename_i n f k s h L p
    obtain ⟨d, ip⟩ := (T.is_ask hh).1
    obtain rfl := T.is_ret (T.is_ask hh).2
    refine T.all_of_eq (t_Local n f k s h L p) ?_
    simp only [lk_eq]
    have key : ∀ v w x, v = loV n f k s h L p → w = loA n f k s h L p → x = loE n f k s h L p → SV.tup [.lit (.int .i64 v), .lit (.int .i64 w), .lit (.int .i64 x)] = SV.tup [.lit (.int .i64 (loV n f k s h L p)), .lit (.int .i64 (loA n f k s h L p)), .lit (.int .i64 (loE n f k s h L p))] := fun v w x h1 h2 h3 => by rw [h1, h2, h3]
    have eV : loE n f k s h L p ≠ 0 → 0 = loV n f k s h L p := fun w => by unfold loV; rw [if_pos w]
    have eA : loE n f k s h L p ≠ 0 → 0 = loA n f k s h L p := fun w => by unfold loA; rw [if_pos w]
    refine ⟨d, fun g => ?_, fun g => ⟨⟨d, ip⟩, fun g2 => ?_, fun g2 => ?_⟩⟩
    · have g := U.ne_t.mp g
      have e1 : lsE n f k s h L = loE n f k s h L p := by unfold loE; rw [if_pos g]
      exact key _ _ _ (eV (by rw [← e1]; exact g)) (eA (by rw [← e1]; exact g)) e1
    · have g := U.ne_f.mp g
      have g2 := U.ne_t.mp g2
      have e1 : oaE n f k s h L p = loE n f k s h L p := by unfold loE; rw [if_neg (by simp [g])]
      exact key _ _ _ (eV (by rw [← e1]; exact g2)) (eA (by rw [← e1]; exact g2)) e1
    · have g := U.ne_f.mp g
      have g2 := U.ne_f.mp g2
      obtain ⟨hd, hs⟩ := lsE_zero.1 g
      have hc := (dmE_zero.1 hd).2.2.1
      have hdn : dnE n f k s h p = 0 := by
        unfold oaE at g2
        rw [if_neg (by simp [hd])] at g2
        by_cases w : dnE n f k s h p = 0
        · exact w
        · rw [if_pos w] at g2; omega
      obtain ⟨_, _, i, rfl, hi⟩ := dn_has hc hdn
      obtain ⟨_, o2⟩ := oa_at hd hi
      obtain ⟨b1, b2⟩ := owP_bnd hd hi
      rw [← o2] at b1 b2
      have el := nat64 b1
      have eL := nat64 (show 0 ≤ L by omega)
      have ep : (paF ((n, f), k, s, h, ()) L (U.toNat (oaV n f k s h L (i : Int)))).1 = ((partL n f k s h L (oaV n f k s h L (i : Int))).length, rowN (partL n f k s h L (oaV n f k s h L (i : Int)))) := by
        show ((partL n f k s h L ((U.toNat (oaV n f k s h L (i : Int)) : Nat) : Int)).length, rowN (partL n f k s h L ((U.toNat (oaV n f k s h L (i : Int)) : Nat) : Int))) = _
        rw [el]
      have e1 : loE n f k s h L (i : Int) = 0 := by unfold loE; rw [if_neg (by simp [g]), g2]
      have pa := pa_ask g
      simp only [ep]
      refine ⟨pa, ⟨b1, by omega⟩, bs_part pa.2 _, key _ _ _ ?_ ?_ e1.symm⟩
      · unfold loV; rw [if_neg (by simp [e1])]
      · rw [bs_pos (Nat.le_of_lt hi)]
        unfold loA; rw [if_neg (by simp [e1]), Int.toNat_natCast]; rfl
  · exact hh.elim
end Go.RX.Span

/- Domain maps: how many indices the locales have, in plain Lean. -/
set_option linter.unusedVariables false
set_option linter.unusedSimpArgs false
namespace Go.RX.Span
open Go Go.RX

section
variable {n : Nat} {f : Nat → R3} {k s h L : Int}
end
end Go.RX.Span

/- Domain maps: the law of balance. -/
set_option linter.unusedVariables false
set_option linter.unusedSimpArgs false
set_option maxRecDepth 100000
namespace Go.RX.Span
open Go Go.RX
attribute [local irreducible] sx conB

section
variable (n : Nat) (f : Nat → R3) (k s h L : Int)
noncomputable def hB (t : T SV) : T SV := .ask (Row64 n f) (.ask (U.not (lk fewB n f k s h 300) = false) (.ask (Row64 n f) (.ask (U.ne (lk dmE n f k s h L) 0 = false) (.ask (Row64 n f) (.ask (U.gt (lk szD n f k s h) 300 = false) (.ask (Row64 n f) (.ask (U.ne (lk lsE n f k s h L) 0 = false) (.ask (U.ne (Int.ofNat (lk ctN n f k s h L)) L = false) t))))))))
noncomputable def eB (b : Bool) (t : T SV) : T SV := .ask (U.ne k 0 = b) t
end
section
variable {n : Nat} {f : Nat → R3} {k s h L : Int} {K : SV → Prop} {t : T SV}
theorem szD_nn (hc : chD n f k s h = 0) : ((szDn n f k s h : Nat) : Int) = szD n f k s h := by
  have := (dr_prod (chD_zero.1 hc).1).1
  unfold szDn
  rw [szD_right hc]; omega
end
end Go.RX.Span

/- Domain maps: the law of inverses: plain facts, the loops' states. -/
set_option linter.unusedVariables false
set_option linter.unusedSimpArgs false
set_option maxRecDepth 100000
namespace Go.RX.Span
open Go Go.RX
attribute [local irreducible] sx conB

section
variable {n : Nat} {f : Nat → R3} {k s h L : Int}
theorem get_part {p : Nat} (hp : p < szDn n f k s h) : ∃ hj : (pkL (owP n f k s h L) p (owP n f k s h L p)).length < (partL n f k s h L (owP n f k s h L p)).length, (partL n f k s h L (owP n f k s h L p))[(pkL (owP n f k s h L) p (owP n f k s h L p)).length] = p := by
  obtain ⟨r, e, _⟩ := part_split (L := L) (i := p + 1) hp (owP n f k s h L p)
  rw [pk_s, if_pos rfl] at e
  have hj : (pkL (owP n f k s h L) p (owP n f k s h L p)).length < (partL n f k s h L (owP n f k s h L p)).length := by rw [e]; simp
  refine ⟨hj, ?_⟩
  have : (partL n f k s h L (owP n f k s h L p))[(pkL (owP n f k s h L) p (owP n f k s h L p)).length]? = some p := by
    rw [e, List.append_assoc, List.getElem?_append_right (Nat.le_refl _), Nat.sub_self]; rfl
  rw [List.getElem?_eq_getElem hj] at this
  exact Option.some.inj this
end
noncomputable abbrev boxD (n : Nat) (f : Nat → R3) (k s h : Int) : Nat × Option Blk := (0, some (.cells [.row [.int .i64, .int .i64, .int .i64] n f, .lit (.int .i64 k), .lit (.int .i64 s), .lit (.int .i64 h)] 49))
end Go.RX.Span

/- Domain maps: the pieces: contracts of the small ones. -/
set_option linter.unusedVariables false
set_option linter.unusedSimpArgs false
set_option maxRecDepth 100000
namespace Go.RX.Span
open Go Go.RX
attribute [local irreducible] sx conB

noncomputable def c_Cln : Con := fun args => match args with
  | [.row [.int .i64] n f] => .ask (0 < n ∧ n ≤ 10000) (.ret (.row [.int .i64] n f))
  | _ => .stuck 1
set_option maxRecDepth 100000 in
theorem t_Cln (n : Nat) (f : Nat → R1) : conB P (conOf []) noLoops 10 133 [.row [.int .i64] n f] =
    T.ask ((0 : Nat) < n) (.ask (((0 : Nat) + n) * nat_lit 8 ≤ nat_lit 140737488351232) (.ret (.row [.int .i64] (nat_lit 0 + n) (U.cat (nat_lit 0) (fun x => ((0 : Int), PUnit.unit))
      f)))) := by kernel_rfl
theorem Cln_ok : ConOK P 133 c_Cln := con_cl (allOK mixed none_ok) 10 133 fun args r h => by
  unfold c_Cln at h
  split at h
  · rename_i n f
    obtain ⟨h0, h1⟩ := (T.is_ask h).1
    have h := (T.is_ask h).2
    obtain rfl := T.is_ret h
    rw [t_Cln]
    refine ⟨h0, ?_, Nat.zero_add n, eqShs_refl _, fun i hi => (U.cat_eq _ _ _ _).trans (if_neg (Nat.not_lt_zero _))⟩
    show (0 + n) * 8 ≤ 140737488351232
    omega
  · exact h.elim
noncomputable abbrev kPc : List (Nat × Con) := [(129, c_listed), (131, c_parts), (133, c_Cln)] --%K
theorem kPc_ok : ∀ p ∈ kPc, ConOK P p.1 p.2 := by
  intro p hp
  simp only [kPc, List.mem_cons, List.not_mem_nil, or_false] at hp
  rcases hp with rfl | rfl | rfl
  · exact listed_ok
  · exact parts_ok
  · exact Cln_ok
noncomputable abbrev EPc : Env := ⟨P, conOf kPc, scall P (conOf kPc) noLoops 10⟩
theorem EPc_ok : EnvOK EPc := envOK (allOK mixed kPc_ok) 10
end Go.RX.Span

/- Domain maps: the pieces: plain facts. -/
set_option linter.unusedVariables false
set_option linter.unusedSimpArgs false
set_option maxRecDepth 100000
namespace Go.RX.Span
open Go Go.RX
attribute [local irreducible] sx conB

def cutN (len w c : Nat) : Nat := c * len / w
abbrev RE := Els [.int .i64, .sl [.int .i64]]
def pcS (F : Nat → RL) (w q : Nat) : Nat := cutN (F (q / w)).1.1 w (q % w + 1) - cutN (F (q / w)).1.1 w (q % w)
def pcE (F : Nat → RL) (w q : Nat) : RE := (((q / w : Nat) : Int), (pcS F w q, fun t => (F (q / w)).1.2 (t + cutN (F (q / w)).1.1 w (q % w))), ())
def pcQ (F : Nat → RL) (w Q : Nat) : List Nat := (List.range Q).filter fun q => decide (0 < pcS F w q)
def pcN (F : Nat → RL) (w i c : Int) : Nat := (pcQ F w.toNat (i.toNat * w.toNat + c.toNat)).length
def pcG (F : Nat → RL) (w i c : Int) (j : Nat) : RE := pcE F w.toNat ((pcQ F w.toNat (i.toNat * w.toNat + c.toNat)).getD j 0)
theorem cut_step (len w c : Nat) (hw : 0 < w) : cutN len w c + len / w ≤ cutN len w (c + 1) ∧ cutN len w (c + 1) ≤ cutN len w c + len / w + 1 := by
  unfold cutN
  rw [Nat.add_mul, Nat.one_mul]
  generalize c * len = X
  have a1 := Nat.div_mul_le_self X w
  have a2 := Nat.lt_div_mul_add (a := X) hw
  have b1 := Nat.div_mul_le_self len w
  have b2 := Nat.lt_div_mul_add (a := len) hw
  constructor
  · rw [Nat.le_div_iff_mul_le hw, Nat.add_mul]; omega
  · rw [← Nat.lt_succ_iff, Nat.div_lt_iff_lt_mul hw]
    simp only [Nat.succ_eq_add_one, Nat.add_mul]; omega
theorem cut_top (len w : Nat) (hw : 0 < w) : cutN len w w = len := Nat.mul_div_cancel_left len hw
theorem cut_le (len w : Nat) (hw : 0 < w) {c : Nat} (hc : c ≤ w) : cutN len w c ≤ len := by
  exact Nat.le_trans (Nat.div_le_div_right (Nat.mul_le_mul_right _ hc)) (Nat.le_of_eq (cut_top len w hw))
theorem cut_mono (len w c : Nat) (hw : 0 < w) : cutN len w c ≤ cutN len w (c + 1) := Nat.le_trans (Nat.le_add_right _ _) (cut_step len w c hw).1
theorem qdiv {i w c : Nat} (hc : c < w) : (i * w + c) / w = i ∧ (i * w + c) % w = c := by
  have hw : 0 < w := by omega
  rw [Nat.mul_comm, Nat.mul_add_div hw, Nat.mul_add_mod, Nat.div_eq_of_lt hc, Nat.mod_eq_of_lt hc]
  exact ⟨rfl, rfl⟩
theorem pcQ_s (F : Nat → RL) (w q : Nat) : pcQ F w (q + 1) = pcQ F w q ++ (if 0 < pcS F w q then [q] else []) := by
  unfold pcQ
  rw [List.range_succ, List.filter_append]
  congr 1
  by_cases h : 0 < pcS F w q
  · simp [h]
  · simp [h]
section
variable {F : Nat → RL} {w l : Nat}
end
end Go.RX.Span

/- Domain maps: Pieces: the loops' states. -/
set_option linter.unusedVariables false
set_option linter.unusedSimpArgs false
set_option maxRecDepth 100000
namespace Go.RX.Span
open Go Go.RX
attribute [local irreducible] sx conB

def LenOK (FN : Nat) (F : Nat → RL) : Prop := FN ≤ 8 ∧ ∀ l, l < FN → (F l).1.1 ≤ 10000
def PrePo (n0 : Nat) (w : Int) (FN : Nat) (F : Nat → RL) : Prop := n0 = 0 ∧ 1 ≤ w ∧ w ≤ 64 ∧ LenOK FN F
def PrePi (n0 : Nat) (w : Int) (u : Bool) (N : Nat) (l : Int) (pN : Nat) (pF : Nat → R1) (FN : Nat) (F : Nat → RL) (i : Int) (G : Nat → RE) : Prop :=
  PrePo n0 w FN F ∧ 0 ≤ i ∧ i < FN ∧ l = i ∧ pN = (F i.toNat).1.1 ∧ pF = (F i.toNat).1.2 ∧ N = pcN F w i 0 ∧ u = U.isz N ∧ ∀ p, p < N → G p = pcG F w i 0 p
noncomputable abbrev slPi (w : Int) (u : Bool) (N : Nat) (l : Int) (pN : Nat) (pF : Nat → R1) (FN : Nat) (F : Nat → RL) (i c : Int) : List SV := [.lit (.int .i64 w), .own u 1 N, .lit (.int .i64 l), .row [.int .i64] pN pF, .row [.sl [.int .i64]] FN F, .lit (.int .i64 (FN : Int)), .lit (.int .i64 i), .lit (.int .i64 w), .lit (.int .i64 c)]
noncomputable abbrev slPo (w : Int) (u : Bool) (N : Nat) (FN : Nat) (F : Nat → RL) (i : Int) : List SV := [.lit (.int .i64 w), .own u 1 N, .row [.sl [.int .i64]] FN F, .lit (.int .i64 (FN : Int)), .lit (.int .i64 i)]
noncomputable abbrev memPc (u : Bool) (N : Nat) (G : Nat → RE) : Mem := [(0, none), (0, some (.row u N [.int .i64, .sl [.int .i64]] G 61))]
noncomputable def gPi : Nat → Few → T (Ex × Few)
  | n0, ([.lit (.int .i64 w), .own u b N, .lit (.int .i64 l), .row [.int .i64] pN pF, .row [.sl [.int .i64]] FN F, .lit (.int .i64 FN'), .lit (.int .i64 i), .lit (.int .i64 w'), .ki .i64 0], [(_, none), (_, some (.row u' N' [.int .i64, .sl [.int .i64]] G t))]) =>
    .ask (lk PrePi n0 w u N l pN pF FN F i G ∧ b = 1 ∧ FN' = (FN : Int) ∧ w' = w ∧ u' = u ∧ N' = N ∧ t = 61)
      (.ret (.exit 2, (slPi w (U.isz (lk pcN F w i w)) (lk pcN F w i w) l pN pF FN F i w, memPc (U.isz (lk pcN F w i w)) (lk pcN F w i w) (lk pcG F w i w))))
  | _, _ => .stuck 1
noncomputable def gPo : Nat → Few → T (Ex × Few)
  | n0, ([.lit (.int .i64 w), .lit (.slice none 0 0), .row [.sl [.int .i64]] FN F, .lit (.int .i64 FN'), .ki .i64 0], [_]) =>
    .ask (lk PrePo n0 w FN F ∧ FN' = (FN : Int))
      (.ret (.exit 0, (slPo w (U.isz (lk pcN F w (FN : Int) 0)) (lk pcN F w (FN : Int) 0) FN F (FN : Int), memPc (U.isz (lk pcN F w (FN : Int) 0)) (lk pcN F w (FN : Int) 0) (lk pcG F w (FN : Int) 0))))
  | _, _ => .stuck 1
noncomputable abbrev LPi : Loops := [(11, .sum (few 67 [2,9,10,11,28,29,30,35,36] gPi))]
noncomputable abbrev lPc : List (Nat × Loops) := [(46, [(11, .sum (few 67 [2,9,10,11,28,29,30,35,36] gPi)), (8, .sum (few 67 [2,9,28,29,30] gPo))])] --%K
/-- The pieces of all parts. -/
noncomputable def pnN (n : Nat) (f : Nat → R3) (k s h L w : Int) : Nat := pcN (paF ((n, f), k, s, h, ()) L) w L 0
noncomputable def pnF (n : Nat) (f : Nat → R3) (k s h L w : Int) : Nat → RE := pcG (paF ((n, f), k, s, h, ()) L) w L 0
end Go.RX.Span

/- Domain maps: Pieces: the walks. -/
set_option linter.unusedVariables false
set_option linter.unusedSimpArgs false
set_option maxRecDepth 100000
namespace Go.RX.Span
open Go Go.RX
attribute [local irreducible] sx conB

--%R i < ↑FN => i < ((FN : Nat) : Int)
--%R ↑FN = ↑FN => ((FN : Nat) : Int) = ((FN : Nat) : Int)
--%R ≤ ↑pN => ≤ ((pN : Nat) : Int)
set_option maxRecDepth 100000 in
theorem t_Pi (w : Int) (u : Bool) (N : Nat) (l : Int) (pN : Nat) (pF : Nat → R1) (FN : Nat) (F : Nat → RL) (i c : Int) (G : Nat → RE) : (sx EPc [] 0 (loopOf P 46 11) (mkS 67 [2,9,10,11,28,29,30,35,36] (slPi w u N l pN pF FN F i c), memPc u N G)).bind (proj 67 [2,9,10,11,28,29,30,35,36]) =
    T.br (U.lt c w) (.ask (w ≠ (0 : Int)) (.ask (w ≠ (0 : Int)) (.ask ((0 : Int) ≤ U.quo .i64 (U.mul .i64 c (Int.ofNat pN)) w ∧ U.quo .i64 (U.mul .i64 c (Int.ofNat pN)) w ≤ U.quo .i64
      (U.mul .i64 (U.add .i64 c (1 : Int)) (Int.ofNat pN)) w ∧ U.quo .i64 (U.mul .i64 (U.add .i64 c (1 : Int)) (Int.ofNat pN)) w ≤ ((pN : Nat) : Int)) (.br (U.gt (Int.ofNat (U.nsub
      (U.toNat (U.quo .i64 (U.mul .i64 (U.add .i64 c (1 : Int)) (Int.ofNat pN)) w)) (U.toNat (U.quo .i64 (U.mul .i64 c (Int.ofNat pN)) w)))) (0 : Int)) (.ask ((0 : Nat) < U.nsub (U.toNat
      (U.quo .i64 (U.mul .i64 (U.add .i64 c (1 : Int)) (Int.ofNat pN)) w)) (U.toNat (U.quo .i64 (U.mul .i64 c (Int.ofNat pN)) w)) ∧ U.nsub (U.toNat (U.quo .i64 (U.mul .i64 (U.add .i64 c
      (1 : Int)) (Int.ofNat pN)) w)) (U.toNat (U.quo .i64 (U.mul .i64 c (Int.ofNat pN)) w)) ≤ (10000 : Nat)) (.ask ((N + (1 : Nat)) * nat_lit 32 ≤ nat_lit 140737488351232) (.ret
      (Ex.normal, [.lit (.int .i64 w), SV.own false (nat_lit 3) (N.add (nat_lit 1)), .lit (.int .i64 l), .row [.int .i64] pN pF, .row [.sl [.int .i64]] FN F, .lit (.int .i64 (Int.ofNat
      FN)), .lit (.int .i64 i), .lit (.int .i64 w), .lit (.int .i64 (U.add .i64 c (1 : Int)))], [(nat_lit 0, none), (nat_lit 1, none), (nat_lit 0, some (Blk.cells [.lit (.int .i64 l),
      .row [.int .i64] (U.nsub (U.toNat (U.quo .i64 (U.mul .i64 (U.add .i64 c (1 : Int)) (Int.ofNat pN)) w)) (U.toNat (U.quo .i64 (U.mul .i64 c (Int.ofNat pN)) w))) fun i => pF (i +
      U.toNat (U.quo .i64 (U.mul .i64 c (Int.ofNat pN)) w))] (nat_lit 61))), (nat_lit 0, some (Blk.row false (N.add (nat_lit 1)) [.int .i64, .sl [.int .i64]] (U.cat N G fun x => (l,
      (U.nsub (U.toNat (U.quo .i64 (U.mul .i64 (U.add .i64 c (1 : Int)) (Int.ofNat pN)) w)) (U.toNat (U.quo .i64 (U.mul .i64 c (Int.ofNat pN)) w)), fun i => pF (i + U.toNat (U.quo .i64
      (U.mul .i64 c (Int.ofNat pN)) w))), PUnit.unit)) (nat_lit 61)))])))) (.ret (Ex.normal, [.lit (.int .i64 w), SV.own u (nat_lit 1) N, .lit (.int .i64 l), .row [.int .i64] pN pF, .row
      [.sl [.int .i64]] FN F, .lit (.int .i64 (Int.ofNat FN)), .lit (.int .i64 i), .lit (.int .i64 w), .lit (.int .i64 (U.add .i64 c (1 : Int)))], [(nat_lit 0, none), (nat_lit 0, some
      (Blk.row u N [.int .i64, .sl [.int .i64]] G (nat_lit 61)))])))))) (.ret (Ex.exit (nat_lit 2), [.lit (.int .i64 w), SV.own u (nat_lit 1) N, .lit (.int .i64 l), .row [.int .i64] pN
      pF, .row [.sl [.int .i64]] FN F, .lit (.int .i64 (Int.ofNat FN)), .lit (.int .i64 i), .lit (.int .i64 w), .lit (.int .i64 c)], [(nat_lit 0, none), (nat_lit 0, some (Blk.row u N
      [.int .i64, .sl [.int .i64]] G (nat_lit 61)))])) := by kernel_rfl
set_option maxRecDepth 100000 in
theorem t_Po (w : Int) (u : Bool) (N : Nat) (FN : Nat) (F : Nat → RL) (i : Int) (G : Nat → RE) : (sx EPc LPi 0 (loopOf P 46 8) (mkS 67 [2,9,28,29,30] (slPo w u N FN F i), memPc u N G)).bind (proj 67 [2,9,28,29,30]) =
    T.br (U.lt i (Int.ofNat FN)) (.ask ((0 : Int) ≤ i ∧ i < ((FN : Nat) : Int)) (.ask (lk PrePi (0 : Nat) w u N i (F (U.toNat i)).fst.1 (F (U.toNat i)).fst.snd FN F i G ∧ (1 : Nat) = (1
      : Nat) ∧ ((FN : Nat) : Int) = ((FN : Nat) : Int) ∧ w = w ∧ u = u ∧ N = N ∧ (61 : TypeId) = (61 : TypeId)) (.ret (Ex.normal, [.lit (.int .i64 w), SV.own (U.isz (lk pcN F w i w))
      (nat_lit 1) (lk pcN F w i w), .row [.sl [.int .i64]] FN F, .lit (.int .i64 (Int.ofNat FN)), .lit (.int .i64 (U.add .i64 i (1 : Int)))], [(nat_lit 1, none), (nat_lit 1, some (Blk.row
      (U.isz (lk pcN F w i w)) (lk pcN F w i w) [.int .i64, .sl [.int .i64]] (lk pcG F w i w) (nat_lit 61)))])))) (.ret (Ex.exit (nat_lit 0), [.lit (.int .i64 w), SV.own u (nat_lit 1) N,
      .row [.sl [.int .i64]] FN F, .lit (.int .i64 (Int.ofNat FN)), .lit (.int .i64 i)], [(nat_lit 0, none), (nat_lit 0, some (Blk.row u N [.int .i64, .sl [.int .i64]] G (nat_lit 61)))])) := by kernel_rfl
end Go.RX.Span

/- Domain maps: Pieces. -/
set_option linter.unusedVariables false
set_option linter.unusedSimpArgs false
set_option maxRecDepth 100000
namespace Go.RX.Span
open Go Go.RX
attribute [local irreducible] sx conB

theorem add1p {j : Nat} (h : j ≤ 1000000) : U.add .i64 (j : Int) 1 = ((j + 1 : Nat) : Int) := by rw [U.add64 (by unfold I64; omega)]; omega
theorem quo_cut {len W C : Nat} (hC : C ≤ 64) (hl : len ≤ 10000) (hw : 0 < W) : U.quo .i64 (U.mul .i64 (C : Int) (Int.ofNat len)) (W : Int) = ((cutN len W C : Nat) : Int) := by
  have hb : C * len ≤ 64 * 10000 := Nat.mul_le_mul hC hl
  have e : (C : Int) * Int.ofNat len = ((C * len : Nat) : Int) := (Int.natCast_mul C len).symm
  rw [U.mul64 (by rw [e]; unfold I64; omega), e, quo_pos (by omega) (by omega) (by omega), Int.tdiv_eq_ediv_of_nonneg (by omega)]
  exact (Int.natCast_ediv _ _).symm
section
variable {F : Nat → RL} {W I C : Nat}
theorem pcS_at (hC : C < W) : pcS F W (I * W + C) = cutN (F I).1.1 W (C + 1) - cutN (F I).1.1 W C := by
  obtain ⟨e1, e2⟩ := qdiv (i := I) hC
  unfold pcS; rw [e1, e2]
theorem pcE_at (hC : C < W) : pcE F W (I * W + C) = ((I : Int), (cutN (F I).1.1 W (C + 1) - cutN (F I).1.1 W C, fun t => (F I).1.2 (t + cutN (F I).1.1 W C)), ()) := by
  obtain ⟨e1, e2⟩ := qdiv (i := I) hC
  unfold pcE; rw [pcS_at hC, e1, e2]; rfl
theorem pcN_le (Q : Nat) : (pcQ F W Q).length ≤ Q := by
  unfold pcQ; exact Nat.le_trans (List.length_filter_le _ _) (by simp)
theorem pc_yes (hC : C < W) (hp : 0 < cutN (F I).1.1 W (C + 1) - cutN (F I).1.1 W C) : pcN F W I ((C + 1 : Nat) : Int) = pcN F W I C + 1 ∧ (∀ j, j < pcN F W I C → pcG F W I ((C + 1 : Nat) : Int) j = pcG F W I C j) ∧ pcG F W I ((C + 1 : Nat) : Int) (pcN F W I C) = pcE F W (I * W + C) := by
  have e : pcQ F W (I * W + (C + 1)) = pcQ F W (I * W + C) ++ [I * W + C] := by
    rw [← Nat.add_assoc, pcQ_s, if_pos (by rw [pcS_at hC]; exact hp)]
  refine ⟨?_, fun j hj => ?_, ?_⟩
  · show (pcQ F W (I * W + (C + 1))).length = (pcQ F W (I * W + C)).length + 1
    rw [e]; simp
  · show pcE F W ((pcQ F W (I * W + (C + 1))).getD j 0) = pcE F W ((pcQ F W (I * W + C)).getD j 0)
    have hj : j < (pcQ F W (I * W + C)).length := hj
    rw [e, List.getD_eq_getElem?_getD, List.getD_eq_getElem?_getD, List.getElem?_append_left hj]
  · show pcE F W ((pcQ F W (I * W + (C + 1))).getD (pcQ F W (I * W + C)).length 0) = _
    rw [e, List.getD_eq_getElem?_getD, List.getElem?_append_right (Nat.le_refl _), Nat.sub_self]; rfl
theorem pc_no (hC : C < W) (hp : ¬ 0 < cutN (F I).1.1 W (C + 1) - cutN (F I).1.1 W C) : pcN F W I ((C + 1 : Nat) : Int) = pcN F W I C ∧ pcG F W I ((C + 1 : Nat) : Int) = pcG F W I C := by
  have e : pcQ F W (I * W + (C + 1)) = pcQ F W (I * W + C) := by
    rw [← Nat.add_assoc, pcQ_s, if_neg (by rw [pcS_at hC]; exact hp), List.append_nil]
  refine ⟨?_, funext fun j => ?_⟩
  · show (pcQ F W (I * W + (C + 1))).length = _
    rw [e]; rfl
  · show pcE F W ((pcQ F W (I * W + (C + 1))).getD j 0) = _
    rw [e]; rfl
theorem pc_next : pcN F W I (W : Int) = pcN F W ((I + 1 : Nat) : Int) 0 ∧ pcG F W I (W : Int) = pcG F W ((I + 1 : Nat) : Int) 0 := by
  have e : I * W + W = (I + 1) * W + 0 := by rw [Nat.add_mul]; omega
  constructor
  · show (pcQ F W (I * W + W)).length = (pcQ F W ((I + 1) * W + 0)).length
    rw [e]
  · refine funext fun j => ?_
    show pcE F W ((pcQ F W (I * W + W)).getD j 0) = pcE F W ((pcQ F W ((I + 1) * W + 0)).getD j 0)
    rw [e]
end
theorem rowRE {n : Nat} {f g : Nat → RE} (h : ∀ i, i < n → f i = g i) : sameRow n f g := ⟨eqShs_refl _, fun i hi => h i hi⟩
structure XPi where
  (W I FN : Nat) (F : Nat → RL) (C : Nat)
noncomputable abbrev VPi (q : XPi) : Few := (slPi q.W (U.isz (pcN q.F q.W q.I q.C)) (pcN q.F q.W q.I q.C) q.I (q.F q.I).1.1 (q.F q.I).1.2 q.FN q.F q.I q.C, memPc (U.isz (pcN q.F q.W q.I q.C)) (pcN q.F q.W q.I q.C) (pcG q.F q.W q.I q.C))
noncomputable def OPi (q : XPi) : Ex × Few := (.exit 2, (slPi q.W (U.isz (pcN q.F q.W q.I q.W)) (pcN q.F q.W q.I q.W) q.I (q.F q.I).1.1 (q.F q.I).1.2 q.FN q.F q.I q.W, memPc (U.isz (pcN q.F q.W q.I q.W)) (pcN q.F q.W q.I q.W) (pcG q.F q.W q.I q.W)))
def PhiPi (n0 : Nat) (q : XPi) : Prop := PrePo n0 q.W q.FN q.F ∧ q.I < q.FN ∧ q.C ≤ q.W
theorem slPi_rl {ρ : Ren} {b b' : Nat} {u u' : Bool} {N N' : Nat} {w l : Int} {pN : Nat} {pF : Nat → R1} {FN : Nat} {F : Nat → RL} {i c c' : Int} (hb : ρ.of b' = some b) (hu : u = u') (hN : N = N') (hc : c = c') :
    RlL ρ [.lit (.int .i64 w), .own u b N, .lit (.int .i64 l), .row [.int .i64] pN pF, .row [.sl [.int .i64]] FN F, .lit (.int .i64 (FN : Int)), .lit (.int .i64 i), .lit (.int .i64 w), .lit (.int .i64 c)]
      [.lit (.int .i64 w), .own u' b' N', .lit (.int .i64 l), .row [.int .i64] pN pF, .row [.sl [.int .i64]] FN F, .lit (.int .i64 (FN : Int)), .lit (.int .i64 i), .lit (.int .i64 w), .lit (.int .i64 c')] := by
  subst hu hN hc
  exact ⟨rfl, ⟨rfl, rfl, hb⟩, rfl, ⟨rfl, row1H fun _ _ => rfl⟩, ⟨rfl, rowRL fun _ _ => rfl⟩, rfl, rfl, rfl, rfl, trivial⟩
theorem roundPi (n0 : Nat) (q : XPi) (hq : PhiPi n0 q) : ((sx EPc [] n0 (loopOf P 46 11) (mkS 67 [2,9,10,11,28,29,30,35,36] (VPi q).1, (VPi q).2)).bind (proj 67 [2,9,10,11,28,29,30,35,36])).All fun r => match r.1 with
      | .normal => ∃ q', PhiPi n0 q' ∧ q'.W - q'.C < q.W - q.C ∧ Wk 67 [2,9,10,11,28,29,30,35,36] n0 r.2 (VPi q') ∧ ∀ o, o = OPi q' → o = OPi q
      | e => ∃ s, (e, s) = OPi q ∧ Wk 67 [2,9,10,11,28,29,30,35,36] n0 r.2 s := by
  obtain ⟨W, I, FN, F, C⟩ := q
  obtain ⟨⟨h0, w1, w2, l1, l2⟩, hI, hC⟩ := hq
  have hI : I < FN := hI
  have hC : C ≤ W := hC
  have w1 : (1 : Int) ≤ (W : Int) := w1
  have w2 : (W : Int) ≤ 64 := w2
  have l1 : FN ≤ 8 := l1
  have lI : (F I).1.1 ≤ 10000 := l2 I hI
  simp only [] at h0 l2
  subst h0
  refine T.all_of_eq (t_Pi (W : Int) (U.isz (pcN F W I C)) (pcN F W I C) (I : Int) (F I).1.1 (F I).1.2 FN F (I : Int) (C : Int) (pcG F W I C)) ?_
  have e2 := add1p (j := C) (by omega)
  have qa := quo_cut (len := (F I).1.1) (W := W) (C := C) (by omega) lI (by omega)
  by_cases hlt : C < W
  · have qb := quo_cut (len := (F I).1.1) (W := W) (C := C + 1) (by omega) lI (by omega)
    have cm := cut_mono (F I).1.1 W C (by omega)
    have ct := cut_le (F I).1.1 W (by omega) (c := C + 1) (by omega)
    have bN : pcN F W I C ≤ I * W + C := pcN_le _
    have bM : I * W ≤ 8 * 64 := Nat.mul_le_mul (by omega) (by omega)
    simp only [e2, qa, qb, tnH, U.nsub_eq]
    refine ⟨fun _ => ⟨by omega, by omega, ⟨by omega, by omega, by omega⟩, fun g => ?_, fun g => ?_⟩, fun g => absurd (U.lt_f.mp g) (by omega)⟩
    · have g := U.gt_t.mp g
      simp only [Int.ofNat_eq_natCast] at g
      obtain ⟨y1, y2, y3⟩ := pc_yes (F := F) (I := I) hlt (by omega)
      refine ⟨⟨by omega, by omega⟩, ?_, ⟨W, I, FN, F, C + 1⟩, ⟨⟨rfl, w1, w2, l1, l2⟩, hI, hlt⟩, (show W - (C + 1) < W - C by omega), ?_, fun o ho => ho⟩
      · show (pcN F W I C + 1) * 32 ≤ 140737488351232
        omega
      · have ei : U.isz (pcN F W I ((C + 1 : Nat) : Int)) = false := by rw [y1]; exact isz_s _
        refine wk_of [none, some 3] rfl (Nat.zero_le _) (ren1z _) (slPi_rl rfl ei.symm y1.symm rfl) ⟨⟨rfl, ei.symm, y1.symm, rowRE fun j hj => ?_⟩, trivial⟩
        refine (U.cat_eq _ _ _ _).trans ?_
        by_cases hj' : j < pcN F W I C
        · exact (if_pos hj').trans (y2 j hj').symm
        · have hj : j < pcN F W I ((C + 1 : Nat) : Int) := hj
          obtain rfl : j = pcN F W I C := by omega
          exact (if_neg hj').trans (y3.trans (pcE_at hlt)).symm
    · have g := U.gt_f.mp g
      simp only [Int.ofNat_eq_natCast] at g
      obtain ⟨y1, y2⟩ := pc_no (F := F) (I := I) hlt (by omega)
      refine ⟨⟨W, I, FN, F, C + 1⟩, ⟨⟨rfl, w1, w2, l1, l2⟩, hI, hlt⟩, (show W - (C + 1) < W - C by omega), ?_, fun o ho => ho⟩
      exact wk_of [none, some 1] rfl (Nat.zero_le _) (ren1z _) (slPi_rl rfl (congrArg U.isz y1.symm) y1.symm rfl) ⟨⟨rfl, congrArg U.isz y1.symm, y1.symm, rowRE fun j hj => (congrFun y2 j).symm⟩, trivial⟩
  · obtain rfl : C = W := by omega
    refine ⟨fun g => absurd (U.lt_t.mp g) (by omega), fun _ => ⟨_, rfl, ?_⟩⟩
    exact wk_of [none, some 1] rfl (Nat.zero_le _) (ren1z _) (slPi_rl rfl rfl rfl rfl) ⟨⟨rfl, rfl, rfl, rowRE fun _ _ => rfl⟩, trivial⟩
theorem loopPi : LoopOK P (loopOf P 46 11) (few 67 [2,9,10,11,28,29,30,35,36] gPi) :=
  loop_few (E := EPc) mixed EPc_ok loopsOK_none 67 [2,9,10,11,28,29,30,35,36] (X := XPi) gPi (fun _ x => VPi x) PhiPi (fun q => q.W - q.C) (fun _ x o => o = OPi x)
    (fun n0 st r h => by
      unfold gPi at h
      split at h
      · rename_i n0 w u b N l pN pF FN F FN' i w' e0 e1 u' N' G t
        obtain ⟨hp, rfl, rfl, rfl, rfl, rfl, rfl⟩ := (T.is_ask h).1
        obtain rfl := T.is_ret (T.is_ask h).2
        rw [lk_eq] at hp
        obtain ⟨⟨h0, w1, w2, hl⟩, i0, i1, rfl, rfl, rfl, hN, hu, hG⟩ := hp
        obtain ⟨W, rfl⟩ : ∃ W : Nat, w' = (W : Int) := ⟨w'.toNat, by omega⟩
        obtain ⟨I, rfl⟩ : ∃ I : Nat, l = (I : Int) := ⟨l.toNat, by omega⟩
        subst h0 hu hN
        refine ⟨⟨W, I, FN, F, 0⟩, ⟨⟨rfl, w1, w2, hl⟩, (by simp only []; omega), Nat.zero_le _⟩, wk_of [none, some 1] rfl (Nat.zero_le _) (ren1z _) (slPi_rl rfl rfl rfl rfl) ⟨⟨rfl, rfl, rfl, rowRE fun j hj => hG j hj⟩, trivial⟩, fun o ho => ?_⟩
        rw [ho]
        simp only [lk_eq]; rfl
      · exact h.elim)
    roundPi
theorem LPi_ok : LoopsOK P LPi (bodyOf P 46) := loopsOK_of (by kernel_rfl) fun k g hk => by
  simp only [List.mem_singleton, Prod.mk.injEq, LoopC.sum.injEq] at hk
  obtain ⟨rfl, rfl⟩ := hk
  exact loopPi
structure XPo where
  (W FN : Nat) (F : Nat → RL) (I : Nat)
noncomputable abbrev VPo (q : XPo) : Few := (slPo q.W (U.isz (pcN q.F q.W q.I 0)) (pcN q.F q.W q.I 0) q.FN q.F q.I, memPc (U.isz (pcN q.F q.W q.I 0)) (pcN q.F q.W q.I 0) (pcG q.F q.W q.I 0))
noncomputable def OPo (q : XPo) : Ex × Few := (.exit 0, VPo { q with I := q.FN })
def PhiPo (n0 : Nat) (q : XPo) : Prop := PrePo n0 q.W q.FN q.F ∧ q.I ≤ q.FN
theorem slPo_rl {ρ : Ren} {b b' : Nat} {u u' : Bool} {N N' : Nat} {w : Int} {FN : Nat} {F : Nat → RL} {i i' : Int} (hb : ρ.of b' = some b) (hu : u = u') (hN : N = N') (hc : i = i') :
    RlL ρ [.lit (.int .i64 w), .own u b N, .row [.sl [.int .i64]] FN F, .lit (.int .i64 (FN : Int)), .lit (.int .i64 i)]
      [.lit (.int .i64 w), .own u' b' N', .row [.sl [.int .i64]] FN F, .lit (.int .i64 (FN : Int)), .lit (.int .i64 i')] := by
  subst hu hN hc
  exact ⟨rfl, ⟨rfl, rfl, hb⟩, ⟨rfl, rowRL fun _ _ => rfl⟩, rfl, rfl, trivial⟩
theorem roundPo (n0 : Nat) (q : XPo) (hq : PhiPo n0 q) : ((sx EPc LPi n0 (loopOf P 46 8) (mkS 67 [2,9,28,29,30] (VPo q).1, (VPo q).2)).bind (proj 67 [2,9,28,29,30])).All fun r => match r.1 with
      | .normal => ∃ q', PhiPo n0 q' ∧ q'.FN - q'.I < q.FN - q.I ∧ Wk 67 [2,9,28,29,30] n0 r.2 (VPo q') ∧ ∀ o, o = OPo q' → o = OPo q
      | e => ∃ s, (e, s) = OPo q ∧ Wk 67 [2,9,28,29,30] n0 r.2 s := by
  obtain ⟨W, FN, F, I⟩ := q
  obtain ⟨⟨h0, w1, w2, l1, l2⟩, hI⟩ := hq
  have hI : I ≤ FN := hI
  have l1 : FN ≤ 8 := l1
  simp only [] at h0 l2
  subst h0
  refine T.all_of_eq (t_Po (W : Int) (U.isz (pcN F W I 0)) (pcN F W I 0) FN F (I : Int) (pcG F W I 0)) ?_
  have e2 := add1p (j := I) (by omega)
  by_cases hlt : I < FN
  · obtain ⟨y1, y2⟩ := pc_next (F := F) (W := W) (I := I)
    simp only [e2, tnH, lk_eq]
    refine ⟨fun _ => ⟨⟨by omega, by omega⟩, ⟨⟨⟨rfl, w1, w2, l1, l2⟩, by omega, by omega, rfl, rfl, rfl, rfl, rfl, fun _ _ => rfl⟩, trivial, trivial, trivial, trivial, trivial, trivial⟩,
      ⟨W, FN, F, I + 1⟩, ⟨⟨rfl, w1, w2, l1, l2⟩, hlt⟩, (show FN - (I + 1) < FN - I by omega), ?_, fun o ho => ho⟩, fun g => absurd (U.lt_f.mp g) (by simp only [Int.ofNat_eq_natCast]; omega)⟩
    exact wk_of [none, some 1] rfl (Nat.zero_le _) (ren1z _) (slPo_rl rfl (congrArg U.isz y1) y1 rfl) ⟨⟨rfl, congrArg U.isz y1, y1, rowRE fun j hj => congrFun y2 j⟩, trivial⟩
  · obtain rfl : I = FN := by omega
    refine ⟨fun g => absurd (U.lt_t.mp g) (by simp only [Int.ofNat_eq_natCast]; omega), fun _ => ⟨_, rfl, ?_⟩⟩
    exact wk_of [none, some 1] rfl (Nat.zero_le _) (ren1z _) (slPo_rl rfl rfl rfl rfl) ⟨⟨rfl, rfl, rfl, rowRE fun _ _ => rfl⟩, trivial⟩
theorem LPi_sub : LoopsOK P LPi (loopOf P 46 8) := LPi_ok.sub (fun l hl => by
  rw [show loopsIn (bodyOf P 46) = loopOf P 46 8 :: loopsIn (loopOf P 46 8) by kernel_rfl]
  exact List.mem_cons_of_mem _ hl) fun l hl => by
  rw [show rangesIn (loopOf P 46 8) = [] by kernel_rfl] at hl; cases hl
theorem loopPo : LoopOK P (loopOf P 46 8) (few 67 [2,9,28,29,30] gPo) :=
  loop_few (E := EPc) mixed EPc_ok LPi_sub 67 [2,9,28,29,30] (X := XPo) gPo (fun _ x => VPo x) PhiPo (fun q => q.FN - q.I) (fun _ x o => o = OPo x)
    (fun n0 st r h => by
      unfold gPo at h
      split at h
      · rename_i n0 w FN F FN' e0
        obtain ⟨hp, rfl⟩ := (T.is_ask h).1
        obtain rfl := T.is_ret (T.is_ask h).2
        rw [lk_eq] at hp
        obtain ⟨h0, w1, w2, hl⟩ := hp
        obtain ⟨W, rfl⟩ : ∃ W : Nat, w = (W : Int) := ⟨w.toNat, by omega⟩
        subst h0
        have z : pcN F W ((0 : Nat) : Int) 0 = 0 := by
          show (pcQ F W (0 * W + 0)).length = 0
          rw [Nat.zero_mul]; rfl
        have zi : U.isz (pcN F W ((0 : Nat) : Int) 0) = true := by rw [z, U.isz_eq]; rfl
        refine ⟨⟨W, FN, F, 0⟩, ⟨⟨rfl, w1, w2, hl⟩, Nat.zero_le _⟩, wk_of [none, none] rfl (Nat.zero_le _) (ren1z _) ⟨rfl, ⟨rfl, zi, z⟩, ⟨rfl, rowRL fun _ _ => rfl⟩, rfl, rfl, trivial⟩ ⟨⟨zi, z⟩, trivial⟩, fun o ho => ?_⟩
        rw [ho]
        simp only [lk_eq]; rfl
      · exact h.elim)
    roundPo
theorem lPc_ok : ∀ p ∈ lPc, LoopsOK P p.2 (bodyOf P p.1) := by
  intro p hp
  simp only [lPc, List.mem_singleton] at hp
  subst hp
  refine loopsOK_of (by kernel_rfl) fun k g hk => ?_
  simp only [List.mem_cons, List.not_mem_nil, or_false, Prod.mk.injEq, LoopC.sum.injEq] at hk
  rcases hk with ⟨rfl, rfl⟩ | ⟨rfl, rfl⟩
  · exact loopPi
  · exact loopPo
section
variable (n : Nat) (f : Nat → R3) (k s h L w : Int)
end
end Go.RX.Span

/- Domain maps: the reference's checkLocale and part: the lists. -/
set_option linter.unusedVariables false
set_option linter.unusedSimpArgs false
set_option maxRecDepth 100000
namespace Go.RX.Span
open Go Go.RX
attribute [local irreducible] sx conB

noncomputable abbrev kQ2 : List (Nat × Con) := [(52, c_dmCheck), (87, c_DSize), (84, c_DNth), (137, c_qowner)] --%K
theorem kQ2_ok : ∀ p ∈ kQ2, ConOK P p.1 p.2 := by
  intro p hp
  simp only [kQ2, List.mem_cons, List.not_mem_nil, or_false] at hp
  rcases hp with rfl | rfl | rfl | rfl
  · exact qdmCheck_ok
  · exact kQ0_ok (87, c_DSize) (by simp [kQ0])
  · exact kQ0_ok (84, c_DNth) (by simp [kQ0])
  · exact qowner_ok
noncomputable abbrev EQ2 : Env := ⟨P, conOf kQ2, scall P (conOf kQ2) noLoops 10⟩
theorem EQ2_ok : EnvOK EQ2 := envOK (allOK mixed kQ2_ok) 10
end Go.RX.Span

/- Domain maps: the reference's part: the loop's states. -/
set_option linter.unusedVariables false
set_option linter.unusedSimpArgs false
set_option maxRecDepth 100000
namespace Go.RX.Span
open Go Go.RX
attribute [local irreducible] sx conB

noncomputable def plN (n : Nat) (f : Nat → R3) (k s h L l : Int) : Nat := (partL n f k s h L l).length
def PreQa (n0 n : Nat) (f : Nat → R3) (k s h L sz : Int) : Prop := n0 = 0 ∧ dmE n f k s h L = 0 ∧ szDn n f k s h ≤ 5000 ∧ sz = szD n f k s h
noncomputable abbrev slQa (L l : Int) (N : Nat) (sz i : Int) : List SV := [.lit (.int .i64 L), .lit (.int .i64 l), .ptr 0 0, .own false 1 N, .lit (.int .i64 sz), .lit (.int .i64 i)]
noncomputable abbrev memQa (n : Nat) (f : Nat → R3) (k s h : Int) (N : Nat) (G : Nat → R1) : Mem := [boxD n f k s h, (0, some (.row false N [.int .i64] G 3))]
noncomputable def gQa : Nat → Few → T (Ex × Few)
  | n0, ([.lit (.int .i64 L), .lit (.int .i64 l), .ptr 0 0, .own z b 0, .lit (.int .i64 sz), .ki .i64 0],
      [(_, some (.cells [.row [.int .i64, .int .i64, .int .i64] n f, .lit (.int .i64 k), .lit (.int .i64 s), .lit (.int .i64 h)] t0)), (_, some (.row z' 0 [.int .i64] G t1))]) =>
    .ask (lk PreQa n0 n f k s h L sz ∧ z = false ∧ b = 1 ∧ z' = false ∧ t0 = 49 ∧ t1 = 3)
      (.ret (.exit 0, (slQa L l (lk plN n f k s h L l) sz sz, memQa n f k s h (lk plN n f k s h L l) (lk ptF n f k s h L l))))
  | _, _ => .stuck 1
noncomputable abbrev lQa : List (Nat × Loops) := [(140, [(4, .sum (few 37 [1,2,3,7,8,9] gQa))])] --%K
noncomputable def c_part : Con := fun args => match args with
  | [.agg [.row [.int .i64, .int .i64, .int .i64] n f, .lit (.int .i64 k), .lit (.int .i64 s), .lit (.int .i64 h)], .lit (.int .i64 L), .lit (.int .i64 l)] => .ask (Row64 n f ∧ lk PaAsk n f k s h L) (.ret (.row [.int .i64] (lk plN n f k s h L l) (lk ptF n f k s h L l)))
  | _ => .stuck 1
end Go.RX.Span

/- Domain maps: the reference's checkLocale and part: the walks. -/
set_option linter.unusedVariables false
set_option linter.unusedSimpArgs false
set_option maxRecDepth 100000
namespace Go.RX.Span
open Go Go.RX
attribute [local irreducible] sx conB

set_option maxRecDepth 100000 in
theorem t_Qa (n : Nat) (f : Nat → R3) (k s h L l sz : Int) (N : Nat) (G : Nat → R1) (i : Int) : (sx EQ2 [] 0 (loopOf P 140 4) (mkS 37 [1,2,3,7,8,9] (slQa L l N sz i), memQa n f k s h N G)).bind (proj 37 [1,2,3,7,8,9]) =
    T.br (U.lt i sz) (.ask (Row64 n f ∧ I64 i) (.ask (lk QwAsk n f k s h L (lk dnN n f k s h i) (lk dnF n f i)) (.br (U.eq (lk owX n f k s h L (lk dnF n f i)) l) (.ask ((N + (1 : Nat))
      * nat_lit 8 ≤ nat_lit 140737488351232) (.ret (Ex.normal, [.lit (.int .i64 L), .lit (.int .i64 l), SV.ptr (nat_lit 0) (nat_lit 0), SV.own false (nat_lit 3) (N.add (nat_lit 1)), .lit
      (.int .i64 sz), .lit (.int .i64 (U.add .i64 i (1 : Int)))], [(nat_lit 0, some (Blk.cells [.row [.int .i64, .int .i64, .int .i64] n f, .lit (.int .i64 k), .lit (.int .i64 s), .lit
      (.int .i64 h)] (nat_lit 49))), (nat_lit 1, none), (nat_lit 0, some (Blk.cells [.lit (.int .i64 i)] (nat_lit 3))), (nat_lit 0, some (Blk.row false (N.add (nat_lit 1)) [.int .i64]
      (U.cat N G fun x => (i, PUnit.unit)) (nat_lit 3)))]))) (.ret (Ex.normal, [.lit (.int .i64 L), .lit (.int .i64 l), SV.ptr (nat_lit 0) (nat_lit 0), SV.own false (nat_lit 1) N, .lit
      (.int .i64 sz), .lit (.int .i64 (U.add .i64 i (1 : Int)))], [(nat_lit 0, some (Blk.cells [.row [.int .i64, .int .i64, .int .i64] n f, .lit (.int .i64 k), .lit (.int .i64 s), .lit
      (.int .i64 h)] (nat_lit 49))), (nat_lit 0, some (Blk.row false N [.int .i64] G (nat_lit 3)))]))))) (.ret (Ex.exit (nat_lit 0), [.lit (.int .i64 L), .lit (.int .i64 l), SV.ptr
      (nat_lit 0) (nat_lit 0), SV.own false (nat_lit 1) N, .lit (.int .i64 sz), .lit (.int .i64 i)], [(nat_lit 0, some (Blk.cells [.row [.int .i64, .int .i64, .int .i64] n f, .lit (.int
      .i64 k), .lit (.int .i64 s), .lit (.int .i64 h)] (nat_lit 49))), (nat_lit 0, some (Blk.row false N [.int .i64] G (nat_lit 3)))])) := by kernel_rfl
set_option maxRecDepth 100000 in
theorem t_part (n : Nat) (f : Nat → R3) (k s h L l : Int) : conB Go.Proofs.Try.prog (conOf kQ2) (loopsOf lQa) 10 140 [.agg [.row [.int .i64, .int .i64, .int .i64] n f, .lit (.int .i64 k), .lit (.int .i64 s), .lit (.int .i64 h)], .lit (.int .i64 L), .lit (.int .i64 l)] =
    T.ask (Row64 n f) (.ask (lk PreQa (nat_lit 0) n f k s h L (lk szD n f k s h) ∧ false = false ∧ (1 : Nat) = (1 : Nat) ∧ false = false ∧ (49 : Nat) = (49 : TypeId) ∧ (3 : Nat) = (3 :
      TypeId)) (.ret (.row [.int .i64] (lk plN n f k s h L l) (lk ptF n f k s h L l)))) := by kernel_rfl
set_option maxRecDepth 100000 in
theorem t_qloc (n : Nat) (f : Nat → R3) (k s h L l : Int) : conB Go.Proofs.Try.prog (conOf kQ2) noLoops 10 139 [.agg [.row [.int .i64, .int .i64, .int .i64] n f, .lit (.int .i64 k), .lit (.int .i64 s), .lit (.int .i64 h)], .lit (.int .i64 L), .lit (.int .i64 l)] =
    T.ask (Row64 n f) (.br (U.ne (lk dmE n f k s h L) (0 : Int)) (.ret (.lit (.int .i64 (lk dmE n f k s h L)))) (.ask (Row64 n f) (.br (U.gt (lk szD n f k s h) (5000 : Int)) (.ret (.lit
      (.int .i64 7))) (.br (U.lt l (0 : Int)) (.ret (.lit (.int .i64 4))) (.br (U.ge l L) (.ret (.lit (.int .i64 4))) (.ret (.lit (.int .i64 0)))))))) := by kernel_rfl
end Go.RX.Span

/- Domain maps: the reference's checkLocale, part and Part. -/
set_option linter.unusedVariables false
set_option linter.unusedSimpArgs false
set_option maxRecDepth 100000
namespace Go.RX.Span
open Go Go.RX
attribute [local irreducible] sx conB

section
variable {n : Nat} {f : Nat → R3} {k s h L : Int}
theorem qw_of (hd : dmE n f k s h L = 0) {p : Nat} (hp : p < szDn n f k s h) : QwAsk n f k s h L (dnN n f k s h p) (dnF n f p) ∧ owX n f k s h L (dnF n f p) = owP n f k s h L p := by
  have hc := (dmE_zero.1 hd).2.2.1
  obtain ⟨z1, z2⟩ := dn_zero hc hp
  obtain ⟨_, b2, _⟩ := dn_has hc z1
  obtain ⟨_, h1, h2, _⟩ := hasD_has b2
  refine ⟨⟨hd, z2, h2, I64s_hasD b2⟩, ?_⟩
  have e := (oa_at hd hp).2
  unfold oaV at e
  rw [if_neg (by simp [(oa_at hd hp).1])] at e
  exact e
end
structure XQa where
  (n : Nat) (f : Nat → R3) (k s h L l : Int) (i : Nat)
noncomputable abbrev VQa (q : XQa) : Few := (slQa q.L q.l (pkL (owP q.n q.f q.k q.s q.h q.L) q.i q.l).length (szD q.n q.f q.k q.s q.h) (q.i : Int), memQa q.n q.f q.k q.s q.h (pkL (owP q.n q.f q.k q.s q.h q.L) q.i q.l).length (rowN (pkL (owP q.n q.f q.k q.s q.h q.L) q.i q.l)))
noncomputable def OQa (q : XQa) : Ex × Few := (.exit 0, (slQa q.L q.l (plN q.n q.f q.k q.s q.h q.L q.l) (szD q.n q.f q.k q.s q.h) (szD q.n q.f q.k q.s q.h), memQa q.n q.f q.k q.s q.h (plN q.n q.f q.k q.s q.h q.L q.l) (ptF q.n q.f q.k q.s q.h q.L q.l)))
def PhiQa (n0 : Nat) (q : XQa) : Prop := n0 = 0 ∧ dmE q.n q.f q.k q.s q.h q.L = 0 ∧ szDn q.n q.f q.k q.s q.h ≤ 5000 ∧ q.i ≤ szDn q.n q.f q.k q.s q.h
theorem slQa_rl {ρ : Ren} {b b' : Nat} {L l : Int} {N N' : Nat} {sz i i' : Int} (h0 : ρ.of 0 = some 0) (hb : ρ.of b' = some b) (hN : N = N') (hi : i = i') :
    RlL ρ [.lit (.int .i64 L), .lit (.int .i64 l), .ptr 0 0, .own false b N, .lit (.int .i64 sz), .lit (.int .i64 i)] [.lit (.int .i64 L), .lit (.int .i64 l), .ptr 0 0, .own false b' N', .lit (.int .i64 sz), .lit (.int .i64 i')] := by
  subst hN hi
  exact ⟨rfl, rfl, ⟨h0, rfl⟩, ⟨rfl, rfl, hb⟩, rfl, rfl, trivial⟩
theorem roundQa (n0 : Nat) (q : XQa) (hq : PhiQa n0 q) : ((sx EQ2 [] n0 (loopOf P 140 4) (mkS 37 [1,2,3,7,8,9] (VQa q).1, (VQa q).2)).bind (proj 37 [1,2,3,7,8,9])).All fun r => match r.1 with
      | .normal => ∃ q', PhiQa n0 q' ∧ szDn q'.n q'.f q'.k q'.s q'.h - q'.i < szDn q.n q.f q.k q.s q.h - q.i ∧ Wk 37 [1,2,3,7,8,9] n0 r.2 (VQa q') ∧ ∀ o, o = OQa q' → o = OQa q
      | e => ∃ s, (e, s) = OQa q ∧ Wk 37 [1,2,3,7,8,9] n0 r.2 s := by
  obtain ⟨n, f, k, s, h, L, l, i⟩ := q
  obtain ⟨h0, hd, h5, hi⟩ := hq
  have hi : i ≤ szDn n f k s h := hi
  have h5 : szDn n f k s h ≤ 5000 := h5
  simp only [] at h0 hd
  subst h0
  have d := dr_64 (chD_zero.1 (dmE_zero.1 hd).2.2.1).1
  have hz := szD_nn (dmE_zero.1 hd).2.2.1
  have pl := pk_len (owP n f k s h L) i l
  refine T.all_of_eq (t_Qa n f k s h L l (szD n f k s h) (pkL (owP n f k s h L) i l).length (rowN (pkL (owP n f k s h L) i l)) (i : Int)) ?_
  have e2 := add1p (j := i) (by omega)
  by_cases hlt : i < szDn n f k s h
  · obtain ⟨w1, w2⟩ := qw_of hd hlt
    have ps := pk_s (owP n f k s h L) i l
    simp only [e2, lk_eq, w2]
    refine ⟨fun _ => ⟨⟨d, by unfold I64; omega⟩, w1, fun g => ?_, fun g => ?_⟩, fun g => absurd (U.lt_f.mp g) (by omega)⟩
    · have g := U.eq_t.mp g
      rw [if_pos g] at ps
      have el : (pkL (owP n f k s h L) (i + 1) l).length = (pkL (owP n f k s h L) i l).length + 1 := by rw [ps]; simp
      refine ⟨?_, ⟨n, f, k, s, h, L, l, i + 1⟩, ⟨rfl, hd, h5, hlt⟩, (show szDn n f k s h - (i + 1) < szDn n f k s h - i by omega), ?_, fun o ho => ho⟩
      · show ((pkL (owP n f k s h L) i l).length + 1) * 8 ≤ 140737488351232
        omega
      · refine wk_of [some 0, some 3] rfl (Nat.zero_le _) (ren1z _) (slQa_rl rfl rfl el.symm rfl) ⟨⟨rfl, ⟨rfl, sameR fun _ _ => rfl⟩, rfl, rfl, rfl, trivial⟩, ⟨rfl, rfl, el.symm, row1H fun t ht => ?_⟩, trivial⟩
        have ht : t < (pkL (owP n f k s h L) (i + 1) l).length := ht
        refine (rowN_app (pkL (owP n f k s h L) i l) i (i : Int) rfl t (by omega)).trans ?_
        rw [ps]
    · have g : ¬ owP n f k s h L i = l := U.eq_f.mp g
      rw [if_neg g, List.append_nil] at ps
      refine ⟨⟨n, f, k, s, h, L, l, i + 1⟩, ⟨rfl, hd, h5, hlt⟩, (show szDn n f k s h - (i + 1) < szDn n f k s h - i by omega), ?_, fun o ho => ho⟩
      exact wk_of [some 0, some 1] rfl (Nat.zero_le _) (ren1z _) (slQa_rl rfl rfl (by rw [ps]) rfl) ⟨⟨rfl, ⟨rfl, sameR fun _ _ => rfl⟩, rfl, rfl, rfl, trivial⟩, ⟨rfl, rfl, by rw [ps], row1H fun t ht => by rw [ps]⟩, trivial⟩
  · obtain rfl : i = szDn n f k s h := by omega
    refine ⟨fun g => absurd (U.lt_t.mp g) (by omega), fun _ => ⟨_, rfl, ?_⟩⟩
    exact wk_of [some 0, some 1] rfl (Nat.zero_le _) (ren1z _) (slQa_rl rfl rfl rfl hz) ⟨⟨rfl, ⟨rfl, sameR fun _ _ => rfl⟩, rfl, rfl, rfl, trivial⟩, ⟨rfl, rfl, rfl, row1H fun t ht => rfl⟩, trivial⟩
theorem loopQa : LoopOK P (loopOf P 140 4) (few 37 [1,2,3,7,8,9] gQa) :=
  loop_few (E := EQ2) mixed EQ2_ok loopsOK_none 37 [1,2,3,7,8,9] (X := XQa) gQa (fun _ x => VQa x) PhiQa (fun q => szDn q.n q.f q.k q.s q.h - q.i) (fun _ x o => o = OQa x)
    (fun n0 st r h => by
      unfold gQa at h
      split at h
      · rename_i n0 L l z b sz e0 n f k s h' t0 e1 z' G t1
        obtain ⟨hp, rfl, rfl, rfl, rfl, rfl⟩ := (T.is_ask h).1
        obtain rfl := T.is_ret (T.is_ask h).2
        rw [lk_eq] at hp
        obtain ⟨h0, hd, h5, hs⟩ := hp
        subst h0 hs
        refine ⟨⟨n, f, k, s, h', L, l, 0⟩, ⟨rfl, hd, h5, Nat.zero_le _⟩, wk_of [some 0, some 1] rfl (Nat.zero_le _) (ren1z _) (slQa_rl rfl rfl rfl rfl) ⟨⟨rfl, ⟨rfl, sameR fun _ _ => rfl⟩, rfl, rfl, rfl, trivial⟩, ⟨rfl, rfl, rfl, row1H fun t ht => absurd ht (Nat.not_lt_zero _)⟩, trivial⟩, fun o ho => ?_⟩
        rw [ho]
        simp only [lk_eq]; rfl
      · exact h.elim)
    roundQa
theorem lQa_ok : ∀ p ∈ lQa, LoopsOK P p.2 (bodyOf P p.1) := by
  intro p hp
  simp only [lQa, List.mem_singleton] at hp
  subst hp
  refine loopsOK_of (by kernel_rfl) fun k g hk => ?_
  simp only [List.mem_singleton, Prod.mk.injEq, LoopC.sum.injEq] at hk
  obtain ⟨rfl, rfl⟩ := hk
  exact loopQa
theorem part_ok : ConOK P 140 c_part := con_of (allOKL mixed kQ2_ok lQa_ok) 10 140 fun args r hh => by
  unfold c_part at hh
  split at hh
  · rename_i n f k s h L l
    obtain ⟨d, hp⟩ := (T.is_ask hh).1
    obtain rfl := T.is_ret (T.is_ask hh).2
    rw [lk_eq] at hp
    obtain ⟨hd, h5⟩ := hp
    refine T.all_of_eq (t_part n f k s h L l) ?_
    simp only [lk_eq]
    exact ⟨d, ⟨⟨rfl, hd, h5, rfl⟩, trivial, trivial, trivial, trivial, trivial⟩, rfl⟩
  · exact hh.elim
theorem qloc_ok : ConOK P 139 c_located := con_of (allOK mixed kQ2_ok) 10 139 fun args r hh => by
  unfold c_located at hh
  split at hh
  · rename_i n f k s h L l
    have d := (T.is_ask hh).1
    obtain rfl := T.is_ret (T.is_ask hh).2
    refine T.all_of_eq (t_qloc n f k s h L l) ?_
    simp only [lk_eq]
    have key : ∀ x, x = lcE n f k s h L l → (SV.lit (.int .i64 x)) = SV.lit (.int .i64 (lcE n f k s h L l)) := fun x hx => by rw [hx]
    refine ⟨d, fun g => key _ ?_, fun g => ⟨d, fun g2 => key _ ?_, fun g2 => ⟨fun g3 => key _ ?_, fun g3 => ⟨fun g4 => key _ ?_, fun g4 => key _ ?_⟩⟩⟩⟩
    · have g := U.ne_t.mp g
      have e : lsE n f k s h L = dmE n f k s h L := by unfold lsE; rw [if_pos g]
      unfold lcE; rw [e, if_pos g]
    · have g := U.ne_f.mp g; have g2 := U.gt_t.mp g2
      have e : lsE n f k s h L = 7 := by unfold lsE; rw [if_neg (by simp [g]), if_pos g2]
      unfold lcE; rw [e, if_pos (by decide)]
    all_goals
      have g := U.ne_f.mp g; have g2 := U.gt_f.mp g2
      have e : lsE n f k s h L = 0 := lsE_zero.2 ⟨g, by omega⟩
      unfold lcE; rw [e, if_neg (by decide)]
    · have g3 := U.lt_t.mp g3
      rw [if_pos (.inl g3)]
    · have g4 := U.ge_t.mp g4
      rw [if_pos (.inr (by omega))]
    · have g3 := U.lt_f.mp g3; have g4 := U.ge_f.mp g4
      rw [if_neg (by omega)]
  · exact hh.elim
end Go.RX.Span

/- Domain maps: the reference's Local and Global: the states. -/
set_option linter.unusedVariables false
set_option linter.unusedSimpArgs false
set_option maxRecDepth 100000
namespace Go.RX.Span
open Go Go.RX
attribute [local irreducible] sx conB

noncomputable abbrev kQ3 : List (Nat × Con) := [(139, c_located), (51, c_OwnerAt), (140, c_part)] --%K
theorem kQ3_ok : ∀ p ∈ kQ3, ConOK P p.1 p.2 := by
  intro p hp
  simp only [kQ3, List.mem_cons, List.not_mem_nil, or_false] at hp
  rcases hp with rfl | rfl | rfl
  · exact qloc_ok
  · exact qOwnerAt_ok
  · exact part_ok
noncomputable abbrev EQ3 : Env := ⟨P, conOf kQ3, scall P (conOf kQ3) noLoops 10⟩
theorem EQ3_ok : EnvOK EQ3 := envOK (allOK mixed kQ3_ok) 10
/-- The first place of a number. -/
def FsAt (n : Nat) (e : Nat → R1) (p : Int) (j : Nat) : Prop := j < n ∧ nv e j = p ∧ ∀ i, i < j → nv e i ≠ p
noncomputable def fsI (n : Nat) (e : Nat → R1) (p : Int) : Nat := open Classical in if h : ∃ j, FsAt n e p j then h.choose else 0
theorem fs_of {n : Nat} {e : Nat → R1} {p : Int} {j : Nat} (h : FsAt n e p j) : fsI n e p = j := by
  have hx : ∃ j, FsAt n e p j := ⟨j, h⟩
  have hc : FsAt n e p (fsI n e p) := by unfold fsI; rw [dif_pos hx]; exact hx.choose_spec
  rcases Nat.lt_trichotomy (fsI n e p) j with w | w | w
  · exact absurd hc.2.1 (h.2.2 _ w)
  · exact w
  · exact absurd h.2.1 (hc.2.2 _ w)
def FsAsk (n : Nat) (e : Nat → R1) (p : Int) : Prop := n ≤ 10000 ∧ FsAt n e p (fsI n e p)
noncomputable abbrev slQl (p o : Int) (n : Nat) (e : Nat → R1) (i : Int) : List SV := [.lit (.int .i64 p), .lit (.int .i64 o), .row [.int .i64] n e, .lit (.int .i64 i)]
noncomputable def gQl : Nat → Few → T (Ex × Few)
  | n0, ([.lit (.int .i64 p), .lit (.int .i64 o), .row [.int .i64] n e, .ki .i64 0], [_]) => .ask (n0 = 0 ∧ lk FsAsk n e p) (.ret (.exit 0, (slQl p o n e ((lk fsI n e p : Nat) : Int), [(0, none)])))
  | _, _ => .stuck 1
noncomputable abbrev lQl : List (Nat × Loops) := [(72, [(9, .sum (few 44 [2,10,12,13] gQl))])] --%K
end Go.RX.Span

/- Domain maps: the reference's Local and Global: the walks. -/
set_option linter.unusedVariables false
set_option linter.unusedSimpArgs false
set_option maxRecDepth 100000
namespace Go.RX.Span
open Go Go.RX
attribute [local irreducible] sx conB

--%R i < ↑n => i < ((n : Nat) : Int)
--%R < ↑\(lk plN n f k s h L l\) => < ((lk plN n f k s h L l : Nat) : Int)
set_option maxRecDepth 100000 in
theorem t_Ql (p o : Int) (n : Nat) (e : Nat → R1) (i : Int) : (sx EQ3 [] 0 (loopOf P 72 9) (mkS 44 [2,10,12,13] (slQl p o n e i), [(0, none)])).bind (proj 44 [2,10,12,13]) =
    T.ask ((0 : Int) ≤ i ∧ i < ((n : Nat) : Int)) (.br (U.ne (e (U.toNat i)).1 p) (.ret (Ex.normal, [.lit (.int .i64 p), .lit (.int .i64 o), .row [.int .i64] n e, .lit (.int .i64 (U.add
      .i64 i (1 : Int)))], [(nat_lit 0, none)])) (.ret (Ex.exit (nat_lit 0), [.lit (.int .i64 p), .lit (.int .i64 o), .row [.int .i64] n e, .lit (.int .i64 i)], [(nat_lit 0, none)]))) := by kernel_rfl
set_option maxRecDepth 100000 in
theorem t_qLocal (n : Nat) (f : Nat → R3) (k s h L p : Int) : conB Go.Proofs.Try.prog (conOf kQ3) (loopsOf lQl) 10 72 [.agg [.row [.int .i64, .int .i64, .int .i64] n f, .lit (.int .i64 k), .lit (.int .i64 s), .lit (.int .i64 h)], .lit (.int .i64 L), .lit (.int .i64 p)] =
    T.ask (Row64 n f) (.br (U.ne (lk lcE n f k s h L (0 : Int)) (0 : Int)) (.ret (.tup [.lit (.int .i64 0), .lit (.int .i64 0), .lit (.int .i64 (lk lcE n f k s h L (0 : Int)))])) (.ask
      (Row64 n f ∧ I64 p) (.br (U.ne (lk oaE n f k s h L p) (0 : Int)) (.ret (.tup [.lit (.int .i64 0), .lit (.int .i64 0), .lit (.int .i64 (lk oaE n f k s h L p))])) (.ask (Row64 n f ∧
      lk PaAsk n f k s h L) (.ask (nat_lit 0 = (0 : Nat) ∧ lk FsAsk (lk plN n f k s h L (lk oaV n f k s h L p)) (lk ptF n f k s h L (lk oaV n f k s h L p)) p) (.ret (.tup [.lit (.int .i64
      (lk oaV n f k s h L p)), .lit (.int .i64 (Int.ofNat (lk fsI (lk plN n f k s h L (lk oaV n f k s h L p)) (lk ptF n f k s h L (lk oaV n f k s h L p)) p))), .lit (.int .i64 0)]))))))) := by kernel_rfl
set_option maxRecDepth 100000 in
theorem t_qGlobal (n : Nat) (f : Nat → R3) (k s h L l a : Int) : conB Go.Proofs.Try.prog (conOf kQ3) noLoops 10 73 [.agg [.row [.int .i64, .int .i64, .int .i64] n f, .lit (.int .i64 k), .lit (.int .i64 s), .lit (.int .i64 h)], .lit (.int .i64 L), .lit (.int .i64 l), .lit (.int .i64 a)] =
    T.ask (Row64 n f) (.br (U.ne (lk lcE n f k s h L l) (0 : Int)) (.ret (.tup [.lit (.int .i64 0), .lit (.int .i64 (lk lcE n f k s h L l))])) (.ask (Row64 n f ∧ lk PaAsk n f k s h L)
      (.br (U.lt a (0 : Int)) (.ret (.tup [.lit (.int .i64 0), .lit (.int .i64 22)])) (.br (U.ge a (Int.ofNat (lk plN n f k s h L l))) (.ret (.tup [.lit (.int .i64 0), .lit (.int .i64
      22)])) (.ask ((0 : Int) ≤ a ∧ a < ((lk plN n f k s h L l : Nat) : Int)) (.ret (.tup [.lit (.int .i64 (lk ptF n f k s h L l (U.toNat a)).1), .lit (.int .i64 0)]))))))) := by kernel_rfl
end Go.RX.Span

/- Domain maps: the reference's Local, Global and Part. -/
set_option linter.unusedVariables false
set_option linter.unusedSimpArgs false
set_option maxRecDepth 100000
namespace Go.RX.Span
open Go Go.RX
attribute [local irreducible] sx conB

theorem lc0 {n : Nat} {f : Nat → R3} {k s h L : Int} : lcE n f k s h L 0 = lsE n f k s h L := by
  by_cases g : lsE n f k s h L = 0
  · have := (dmE_zero.1 (lsE_zero.1 g).1).1
    rw [g]; exact lcE_zero.2 ⟨g, by omega, by omega⟩
  · unfold lcE; rw [if_pos g]
structure XQl where
  (p o : Int) (n : Nat) (e : Nat → R1) (j : Nat)
noncomputable abbrev VQl (q : XQl) : Few := (slQl q.p q.o q.n q.e (q.j : Int), [(0, none)])
noncomputable def OQl (q : XQl) : Ex × Few := (.exit 0, (slQl q.p q.o q.n q.e ((lk fsI q.n q.e q.p : Nat) : Int), [(0, none)]))
def PhiQl (n0 : Nat) (q : XQl) : Prop := n0 = 0 ∧ FsAsk q.n q.e q.p ∧ q.j ≤ fsI q.n q.e q.p
theorem slQl_rl {ρ : Ren} {p o : Int} {n : Nat} {e : Nat → R1} {i i' : Int} (hi : i = i') : RlL ρ (slQl p o n e i) (slQl p o n e i') := by
  subst hi
  exact ⟨rfl, rfl, ⟨rfl, row1H fun _ _ => rfl⟩, rfl, trivial⟩
theorem roundQl (n0 : Nat) (q : XQl) (hq : PhiQl n0 q) : ((sx EQ3 [] n0 (loopOf P 72 9) (mkS 44 [2,10,12,13] (VQl q).1, (VQl q).2)).bind (proj 44 [2,10,12,13])).All fun r => match r.1 with
      | .normal => ∃ q', PhiQl n0 q' ∧ fsI q'.n q'.e q'.p - q'.j < fsI q.n q.e q.p - q.j ∧ Wk 44 [2,10,12,13] n0 r.2 (VQl q') ∧ ∀ o, o = OQl q' → o = OQl q
      | e => ∃ s, (e, s) = OQl q ∧ Wk 44 [2,10,12,13] n0 r.2 s := by
  obtain ⟨p, o, n, e, j⟩ := q
  obtain ⟨h0, ⟨hn, ha, hp, hb⟩, hj⟩ := hq
  have hj : j ≤ fsI n e p := hj
  have hn : n ≤ 10000 := hn
  simp only [] at h0 ha hp hb
  subst h0
  refine T.all_of_eq (t_Ql p o n e (j : Int)) ?_
  have e2 := add1p (j := j) (by omega)
  simp only [e2, tnH]
  refine ⟨⟨by omega, by omega⟩, fun g => ?_, fun g => ?_⟩
  · have g : ¬ nv e j = p := U.ne_t.mp g
    have hlt : j < fsI n e p := by
      rcases Nat.lt_or_ge j (fsI n e p) with w | w
      · exact w
      · have : j = fsI n e p := by omega
        rw [this] at g; exact absurd hp g
    exact ⟨⟨p, o, n, e, j + 1⟩, ⟨rfl, ⟨hn, ha, hp, hb⟩, hlt⟩, (show fsI n e p - (j + 1) < fsI n e p - j by omega), wk_of [none] rfl (Nat.zero_le _) (ren1z _) (slQl_rl rfl) trivial, fun o ho => ho⟩
  · have g : nv e j = p := U.ne_f.mp g
    have ej : j = fsI n e p := by
      rcases Nat.lt_or_ge j (fsI n e p) with w | w
      · exact absurd g (hb j w)
      · omega
    refine ⟨_, rfl, wk_of [none] rfl (Nat.zero_le _) (ren1z _) (slQl_rl ?_) trivial⟩
    show (j : Int) = ((lk fsI n e p : Nat) : Int)
    rw [lk_eq, ← ej]
theorem loopQl : LoopOK P (loopOf P 72 9) (few 44 [2,10,12,13] gQl) :=
  loop_few (E := EQ3) mixed EQ3_ok loopsOK_none 44 [2,10,12,13] (X := XQl) gQl (fun _ x => VQl x) PhiQl (fun q => fsI q.n q.e q.p - q.j) (fun _ x o => o = OQl x)
    (fun n0 st r h => by
      unfold gQl at h
      split at h
      · rename_i n0 p o n e b
        obtain ⟨h0, hp⟩ := (T.is_ask h).1
        obtain rfl := T.is_ret (T.is_ask h).2
        rw [lk_eq] at hp
        subst h0
        exact ⟨⟨p, o, n, e, 0⟩, ⟨rfl, hp, Nat.zero_le _⟩, wk_of [none] rfl (Nat.zero_le _) (ren1z _) (slQl_rl rfl) trivial, fun o ho => ho⟩
      · exact h.elim)
    roundQl
theorem lQl_ok : ∀ p ∈ lQl, LoopsOK P p.2 (bodyOf P p.1) := by
  intro p hp
  simp only [lQl, List.mem_singleton] at hp
  subst hp
  refine loopsOK_of (by kernel_rfl) fun k g hk => ?_
  simp only [List.mem_singleton, Prod.mk.injEq, LoopC.sum.injEq] at hk
  obtain ⟨rfl, rfl⟩ := hk
  exact loopQl
theorem qLocal_ok : ConOK P 72 c_Local := con_of (allOKL mixed kQ3_ok lQl_ok) 10 72 fun args r hh => by
  unfold c_Local at hh
  split at hh
  · rename_i n f k s h L p
    obtain ⟨d, ip⟩ := (T.is_ask hh).1
    obtain rfl := T.is_ret (T.is_ask hh).2
    refine T.all_of_eq (t_qLocal n f k s h L p) ?_
    simp only [lk_eq, lc0]
    have key : ∀ v w x, v = loV n f k s h L p → w = loA n f k s h L p → x = loE n f k s h L p → SV.tup [.lit (.int .i64 v), .lit (.int .i64 w), .lit (.int .i64 x)] = SV.tup [.lit (.int .i64 (loV n f k s h L p)), .lit (.int .i64 (loA n f k s h L p)), .lit (.int .i64 (loE n f k s h L p))] := fun v w x h1 h2 h3 => by rw [h1, h2, h3]
    have eV : loE n f k s h L p ≠ 0 → 0 = loV n f k s h L p := fun w => by unfold loV; rw [if_pos w]
    have eA : loE n f k s h L p ≠ 0 → 0 = loA n f k s h L p := fun w => by unfold loA; rw [if_pos w]
    refine ⟨d, fun g => ?_, fun g => ⟨⟨d, ip⟩, fun g2 => ?_, fun g2 => ?_⟩⟩
    · have g := U.ne_t.mp g
      have e1 : lsE n f k s h L = loE n f k s h L p := by unfold loE; rw [if_pos g]
      exact key _ _ _ (eV (by rw [← e1]; exact g)) (eA (by rw [← e1]; exact g)) e1
    · have g := U.ne_f.mp g
      have g2 := U.ne_t.mp g2
      have e1 : oaE n f k s h L p = loE n f k s h L p := by unfold loE; rw [if_neg (by simp [g])]
      exact key _ _ _ (eV (by rw [← e1]; exact g2)) (eA (by rw [← e1]; exact g2)) e1
    · have g := U.ne_f.mp g
      have g2 := U.ne_f.mp g2
      obtain ⟨hd, hs⟩ := lsE_zero.1 g
      have hc := (dmE_zero.1 hd).2.2.1
      have hdn : dnE n f k s h p = 0 := by
        unfold oaE at g2
        rw [if_neg (by simp [hd])] at g2
        by_cases w : dnE n f k s h p = 0
        · exact w
        · rw [if_pos w] at g2; omega
      obtain ⟨_, _, i, rfl, hi⟩ := dn_has hc hdn
      obtain ⟨_, o2⟩ := oa_at hd hi
      have pa := pa_ask g
      have e1 : loE n f k s h L (i : Int) = 0 := by unfold loE; rw [if_neg (by simp [g]), g2]
      have gp : ∀ l, l = owP n f k s h L i → ∃ hj : (pkL (owP n f k s h L) i l).length < (partL n f k s h L l).length, (partL n f k s h L l)[(pkL (owP n f k s h L) i l).length] = i := by
        rintro _ rfl; exact get_part hi
      obtain ⟨hj, hg⟩ := gp _ o2
      obtain ⟨b1, b2⟩ := bs_part (n := n) (f := f) (k := k) (s := s) (h := h) (L := L) pa.2 (oaV n f k s h L (i : Int))
      have fs : FsAt (plN n f k s h L (oaV n f k s h L (i : Int))) (ptF n f k s h L (oaV n f k s h L (i : Int))) (i : Int) (pkL (owP n f k s h L) i (oaV n f k s h L (i : Int))).length := by
        have ev : nv (ptF n f k s h L (oaV n f k s h L (i : Int))) (pkL (owP n f k s h L) i (oaV n f k s h L (i : Int))).length = (i : Int) := by
          refine (rowN_get hj).trans ?_
          rw [hg]
        refine ⟨hj, ev, fun a ha w => ?_⟩
        have := b2 a _ ha hj
        have w : nv (rowN (partL n f k s h L (oaV n f k s h L (i : Int)))) a = (i : Int) := w
        have ev : nv (rowN (partL n f k s h L (oaV n f k s h L (i : Int)))) (pkL (owP n f k s h L) i (oaV n f k s h L (i : Int))).length = (i : Int) := ev
        omega
      have ef := fs_of fs
      have lp := partL_len (n := n) (f := f) (k := k) (s := s) (h := h) (L := L) (oaV n f k s h L (i : Int))
      refine ⟨⟨d, pa⟩, ⟨trivial, Nat.le_trans lp (by have := pa.2; omega), by rw [ef]; exact fs⟩, key _ _ _ ?_ ?_ e1.symm⟩
      · unfold loV; rw [if_neg (by simp [e1])]
      · rw [ef]
        unfold loA; rw [if_neg (by simp [e1]), Int.toNat_natCast]; rfl
  · exact hh.elim
theorem qGlobal_ok : ConOK P 73 c_Global := con_of (allOK mixed kQ3_ok) 10 73 fun args r hh => by
  unfold c_Global at hh
  split at hh
  · rename_i n f k s h L l a
    have d := (T.is_ask hh).1
    obtain rfl := T.is_ret (T.is_ask hh).2
    refine T.all_of_eq (t_qGlobal n f k s h L l a) ?_
    simp only [lk_eq]
    have key : ∀ v x, v = glV n f k s h L l a → x = glE n f k s h L l a → SV.tup [.lit (.int .i64 v), .lit (.int .i64 x)] = SV.tup [.lit (.int .i64 (glV n f k s h L l a)), .lit (.int .i64 (glE n f k s h L l a))] := fun v x h1 h2 => by rw [h1, h2]
    have eV : glE n f k s h L l a ≠ 0 → 0 = glV n f k s h L l a := fun w => by unfold glV; rw [if_pos w]
    have hlen : plN n f k s h L l = (partL n f k s h L l).length := rfl
    refine ⟨d, fun g => ?_, fun g => ?_⟩
    · have g := U.ne_t.mp g
      have e1 : lcE n f k s h L l = glE n f k s h L l a := by unfold glE; rw [if_pos g]
      exact key _ _ (eV (by rw [← e1]; exact g)) e1
    · have g := U.ne_f.mp g
      obtain ⟨g1, g2, g3⟩ := lcE_zero.1 g
      have e22 : (a < 0 ∨ ((partL n f k s h L l).length : Int) ≤ a) → 22 = glE n f k s h L l a := fun w => by unfold glE; rw [if_neg (by simp [g]), if_pos w]
      refine ⟨⟨d, pa_ask g1⟩, fun g4 => ?_, fun g4 => ⟨fun g5 => ?_, fun g5 => ⟨⟨?_, ?_⟩, ?_⟩⟩⟩
      · have e1 := e22 (.inl (U.lt_t.mp g4))
        exact key _ _ (eV (by omega)) e1
      · have g5 := U.ge_t.mp g5
        simp only [Int.ofNat_eq_natCast] at g5
        have e1 := e22 (.inr g5)
        exact key _ _ (eV (by omega)) e1
      · exact U.lt_f.mp g4
      · have g5 := U.ge_f.mp g5
        simp only [Int.ofNat_eq_natCast] at g5; omega
      · have g4 := U.lt_f.mp g4
        have g5 := U.ge_f.mp g5
        simp only [Int.ofNat_eq_natCast] at g5
        have e1 : glE n f k s h L l a = 0 := by unfold glE; rw [if_neg (by simp [g]), if_neg (by omega)]
        refine key _ _ ?_ e1.symm
        unfold glV
        rw [if_neg (by simp [e1]), U.toNat_eq]; rfl
  · exact hh.elim
end Go.RX.Span

/- Domain maps: the reference's Pieces: the lists. -/
set_option linter.unusedVariables false
set_option linter.unusedSimpArgs false
set_option maxRecDepth 100000
namespace Go.RX.Span
open Go Go.RX
attribute [local irreducible] sx conB

noncomputable abbrev kQ4 : List (Nat × Con) := [(139, c_located), (140, c_part)] --%K
theorem kQ4_ok : ∀ p ∈ kQ4, ConOK P p.1 p.2 := by
  intro p hp
  simp only [kQ4, List.mem_cons, List.not_mem_nil, or_false] at hp
  rcases hp with rfl | rfl
  · exact qloc_ok
  · exact part_ok
noncomputable abbrev EQ4 : Env := ⟨P, conOf kQ4, scall P (conOf kQ4) noLoops 10⟩
theorem EQ4_ok : EnvOK EQ4 := envOK (allOK mixed kQ4_ok) 10
end Go.RX.Span

/- Domain maps: the reference's Pieces: the loops' states. -/
set_option linter.unusedVariables false
set_option linter.unusedSimpArgs false
set_option maxRecDepth 100000
namespace Go.RX.Span
open Go Go.RX
attribute [local irreducible] sx conB

noncomputable def rpN (n : Nat) (f : Nat → R3) (k s h L w l c : Int) : Nat := pcN (paF ((n, f), k, s, h, ()) L) w l c
noncomputable def rpG (n : Nat) (f : Nat → R3) (k s h L w l c : Int) : Nat → RE := pcG (paF ((n, f), k, s, h, ()) L) w l c
def PreRo (n0 n : Nat) (f : Nat → R3) (k s h L w : Int) : Prop := n0 = 0 ∧ dmE n f k s h L = 0 ∧ szDn n f k s h ≤ 5000 ∧ 1 ≤ w ∧ w ≤ 64
def PreRi (n0 n : Nat) (f : Nat → R3) (k s h L w : Int) (N : Nat) (G : Nat → RE) (l : Int) (pN : Nat) (pF : Nat → R1) : Prop :=
  PreRo n0 n f k s h L w ∧ 0 ≤ l ∧ l < L ∧ pN = plN n f k s h L l ∧ pF = ptF n f k s h L l ∧ N = rpN n f k s h L w l 0 ∧ ∀ p, p < N → G p = rpG n f k s h L w l 0 p
noncomputable abbrev slRi (L w : Int) (N : Nat) (l : Int) (pN : Nat) (pF : Nat → R1) (c : Int) : List SV := [.lit (.int .i64 L), .lit (.int .i64 w), .ptr 0 0, .own false 1 N, .lit (.int .i64 l), .row [.int .i64] pN pF, .lit (.int .i64 c)]
noncomputable abbrev slRo (L w : Int) (N : Nat) (l : Int) : List SV := [.lit (.int .i64 L), .lit (.int .i64 w), .ptr 0 0, .own false 1 N, .lit (.int .i64 l)]
noncomputable abbrev memRp (n : Nat) (f : Nat → R3) (k s h : Int) (N : Nat) (G : Nat → RE) : Mem := [boxD n f k s h, (0, some (.row false N [.int .i64, .sl [.int .i64]] G 152))]
noncomputable def gRi : Nat → Few → T (Ex × Few)
  | n0, ([.lit (.int .i64 L), .lit (.int .i64 w), .ptr 0 0, .own z b N, .lit (.int .i64 l), .row [.int .i64] pN pF, .ki .i64 0],
      [(_, some (.cells [.row [.int .i64, .int .i64, .int .i64] n f, .lit (.int .i64 k), .lit (.int .i64 s), .lit (.int .i64 h)] t0)), (_, some (.row z' N' [.int .i64, .sl [.int .i64]] G t1))]) =>
    .ask (lk PreRi n0 n f k s h L w N G l pN pF ∧ z = false ∧ b = 1 ∧ z' = false ∧ N' = N ∧ t0 = 49 ∧ t1 = 152)
      (.ret (.exit 2, (slRi L w (lk rpN n f k s h L w l w) l pN pF w, memRp n f k s h (lk rpN n f k s h L w l w) (lk rpG n f k s h L w l w))))
  | _, _ => .stuck 1
noncomputable def gRo : Nat → Few → T (Ex × Few)
  | n0, ([.lit (.int .i64 L), .lit (.int .i64 w), .ptr 0 0, .own z b 0, .ki .i64 0],
      [(_, some (.cells [.row [.int .i64, .int .i64, .int .i64] n f, .lit (.int .i64 k), .lit (.int .i64 s), .lit (.int .i64 h)] t0)), (_, some (.row z' 0 [.int .i64, .sl [.int .i64]] G t1))]) =>
    .ask (lk PreRo n0 n f k s h L w ∧ z = false ∧ b = 1 ∧ z' = false ∧ t0 = 49 ∧ t1 = 152)
      (.ret (.exit 0, (slRo L w (lk pnN n f k s h L w) L, memRp n f k s h (lk pnN n f k s h L w) (lk pnF n f k s h L w))))
  | _, _ => .stuck 1
noncomputable abbrev LRi : Loops := [(12, .sum (few 68 [1,2,3,9,10,11,12] gRi))]
noncomputable abbrev lRP : List (Nat × Loops) := [(74, [(12, .sum (few 68 [1,2,3,9,10,11,12] gRi)), (8, .sum (few 68 [1,2,3,9,10] gRo))])] --%K
/-- Pieces, whatever is asked for. -/
def pgE (n : Nat) (f : Nat → R3) (k s h L w : Int) : Int := if lsE n f k s h L ≠ 0 then lsE n f k s h L else if w < 1 ∨ 64 < w then 4 else 0
noncomputable def pgN (n : Nat) (f : Nat → R3) (k s h L w : Int) : Nat := if pgE n f k s h L w ≠ 0 then 0 else pnN n f k s h L w
noncomputable def c_PiecesG : Con := fun args => match args with
  | [.agg [.row [.int .i64, .int .i64, .int .i64] n f, .lit (.int .i64 k), .lit (.int .i64 s), .lit (.int .i64 h)], .lit (.int .i64 L), .lit (.int .i64 w)] => .ask (Row64 n f) (.ret (.tup [.row [.int .i64, .sl [.int .i64]] (lk pgN n f k s h L w) (lk pnF n f k s h L w), .lit (.int .i64 (lk pgE n f k s h L w))]))
  | _ => .stuck 1
end Go.RX.Span

/- Domain maps: the reference's Pieces: the walks. -/
set_option linter.unusedVariables false
set_option linter.unusedSimpArgs false
set_option maxRecDepth 100000
namespace Go.RX.Span
open Go Go.RX
attribute [local irreducible] sx conB

--%R ≤ ↑pN => ≤ ((pN : Nat) : Int)
set_option maxRecDepth 100000 in
theorem t_Ri (n : Nat) (f : Nat → R3) (k s h L w : Int) (N : Nat) (l : Int) (pN : Nat) (pF : Nat → R1) (c : Int) (G : Nat → RE) : (sx EQ4 [] 0 (loopOf P 74 12) (mkS 68 [1,2,3,9,10,11,12] (slRi L w N l pN pF c), memRp n f k s h N G)).bind (proj 68 [1,2,3,9,10,11,12]) =
    T.br (U.lt c w) (.ask (w ≠ (0 : Int)) (.ask (w ≠ (0 : Int)) (.ask ((0 : Int) ≤ U.quo .i64 (U.mul .i64 c (Int.ofNat pN)) w ∧ U.quo .i64 (U.mul .i64 c (Int.ofNat pN)) w ≤ U.quo .i64
      (U.mul .i64 (U.add .i64 c (1 : Int)) (Int.ofNat pN)) w ∧ U.quo .i64 (U.mul .i64 (U.add .i64 c (1 : Int)) (Int.ofNat pN)) w ≤ ((pN : Nat) : Int)) (.br (U.gt (Int.ofNat (U.nsub
      (U.toNat (U.quo .i64 (U.mul .i64 (U.add .i64 c (1 : Int)) (Int.ofNat pN)) w)) (U.toNat (U.quo .i64 (U.mul .i64 c (Int.ofNat pN)) w)))) (0 : Int)) (.ask (((0 : Nat) + U.nsub (U.toNat
      (U.quo .i64 (U.mul .i64 (U.add .i64 c (1 : Int)) (Int.ofNat pN)) w)) (U.toNat (U.quo .i64 (U.mul .i64 c (Int.ofNat pN)) w))) * nat_lit 8 ≤ nat_lit 140737488351232) (.ask ((N + (1 :
      Nat)) * nat_lit 32 ≤ nat_lit 140737488351232) (.ret (Ex.normal, [.lit (.int .i64 L), .lit (.int .i64 w), SV.ptr (nat_lit 0) (nat_lit 0), SV.own false (nat_lit 5) (N.add (nat_lit
      1)), .lit (.int .i64 l), .row [.int .i64] pN pF, .lit (.int .i64 (U.add .i64 c (1 : Int)))], [(nat_lit 0, some (Blk.cells [.row [.int .i64, .int .i64, .int .i64] n f, .lit (.int
      .i64 k), .lit (.int .i64 s), .lit (.int .i64 h)] (nat_lit 49))), (nat_lit 1, none), (nat_lit 1, none), (nat_lit 1, none), (nat_lit 1, some (Blk.cells [.lit (.int .i64 l), .row [.int
      .i64] (nat_lit 0 + U.nsub (U.toNat (U.quo .i64 (U.mul .i64 (U.add .i64 c (1 : Int)) (Int.ofNat pN)) w)) (U.toNat (U.quo .i64 (U.mul .i64 c (Int.ofNat pN)) w))) (U.cat (nat_lit 0)
      (fun x => ((0 : Int), PUnit.unit)) fun i => pF (i + U.toNat (U.quo .i64 (U.mul .i64 c (Int.ofNat pN)) w)))] (nat_lit 152))), (nat_lit 0, some (Blk.row false (N.add (nat_lit 1))
      [.int .i64, .sl [.int .i64]] (U.cat N G fun x => (l, (nat_lit 0 + U.nsub (U.toNat (U.quo .i64 (U.mul .i64 (U.add .i64 c (1 : Int)) (Int.ofNat pN)) w)) (U.toNat (U.quo .i64 (U.mul
      .i64 c (Int.ofNat pN)) w)), U.cat (nat_lit 0) (fun x => ((0 : Int), PUnit.unit)) fun i => pF (i + U.toNat (U.quo .i64 (U.mul .i64 c (Int.ofNat pN)) w))), PUnit.unit)) (nat_lit
      152)))])))) (.ret (Ex.normal, [.lit (.int .i64 L), .lit (.int .i64 w), SV.ptr (nat_lit 0) (nat_lit 0), SV.own false (nat_lit 1) N, .lit (.int .i64 l), .row [.int .i64] pN pF, .lit
      (.int .i64 (U.add .i64 c (1 : Int)))], [(nat_lit 0, some (Blk.cells [.row [.int .i64, .int .i64, .int .i64] n f, .lit (.int .i64 k), .lit (.int .i64 s), .lit (.int .i64 h)] (nat_lit
      49))), (nat_lit 0, some (Blk.row false N [.int .i64, .sl [.int .i64]] G (nat_lit 152)))])))))) (.ret (Ex.exit (nat_lit 2), [.lit (.int .i64 L), .lit (.int .i64 w), SV.ptr (nat_lit
      0) (nat_lit 0), SV.own false (nat_lit 1) N, .lit (.int .i64 l), .row [.int .i64] pN pF, .lit (.int .i64 c)], [(nat_lit 0, some (Blk.cells [.row [.int .i64, .int .i64, .int .i64] n
      f, .lit (.int .i64 k), .lit (.int .i64 s), .lit (.int .i64 h)] (nat_lit 49))), (nat_lit 0, some (Blk.row false N [.int .i64, .sl [.int .i64]] G (nat_lit 152)))])) := by kernel_rfl
set_option maxRecDepth 100000 in
theorem t_Ro (n : Nat) (f : Nat → R3) (k s h L w : Int) (N : Nat) (l : Int) (G : Nat → RE) : (sx EQ4 LRi 0 (loopOf P 74 8) (mkS 68 [1,2,3,9,10] (slRo L w N l), memRp n f k s h N G)).bind (proj 68 [1,2,3,9,10]) =
    T.br (U.lt l L) (.ask (Row64 n f ∧ lk PaAsk n f k s h L) (.ask (lk PreRi (0 : Nat) n f k s h L w N G l (lk plN n f k s h L l) (lk ptF n f k s h L l) ∧ false = false ∧ (1 : Nat) = (1
      : Nat) ∧ false = false ∧ N = N ∧ (49 : TypeId) = (49 : TypeId) ∧ (152 : TypeId) = (152 : TypeId)) (.ret (Ex.normal, [.lit (.int .i64 L), .lit (.int .i64 w), SV.ptr (nat_lit 0)
      (nat_lit 0), SV.own false (nat_lit 1) (lk rpN n f k s h L w l w), .lit (.int .i64 (U.add .i64 l (1 : Int)))], [(nat_lit 1, some (Blk.cells [.row [.int .i64, .int .i64, .int .i64] n
      f, .lit (.int .i64 k), .lit (.int .i64 s), .lit (.int .i64 h)] (nat_lit 49))), (nat_lit 1, some (Blk.row false (lk rpN n f k s h L w l w) [.int .i64, .sl [.int .i64]] (lk rpG n f k
      s h L w l w) (nat_lit 152)))])))) (.ret (Ex.exit (nat_lit 0), [.lit (.int .i64 L), .lit (.int .i64 w), SV.ptr (nat_lit 0) (nat_lit 0), SV.own false (nat_lit 1) N, .lit (.int .i64
      l)], [(nat_lit 0, some (Blk.cells [.row [.int .i64, .int .i64, .int .i64] n f, .lit (.int .i64 k), .lit (.int .i64 s), .lit (.int .i64 h)] (nat_lit 49))), (nat_lit 0, some (Blk.row
      false N [.int .i64, .sl [.int .i64]] G (nat_lit 152)))])) := by kernel_rfl
end Go.RX.Span

/- Domain maps: the reference's Pieces. -/
set_option linter.unusedVariables false
set_option linter.unusedSimpArgs false
set_option maxRecDepth 100000
namespace Go.RX.Span
open Go Go.RX
attribute [local irreducible] sx conB

structure XRi where
  (n : Nat) (f : Nat → R3) (k s h L : Int) (W I C : Nat)
noncomputable abbrev VRi (q : XRi) : Few := (slRi q.L q.W (rpN q.n q.f q.k q.s q.h q.L q.W q.I q.C) q.I (plN q.n q.f q.k q.s q.h q.L q.I) (ptF q.n q.f q.k q.s q.h q.L q.I) (q.C : Int), memRp q.n q.f q.k q.s q.h (rpN q.n q.f q.k q.s q.h q.L q.W q.I q.C) (rpG q.n q.f q.k q.s q.h q.L q.W q.I q.C))
noncomputable def ORi (q : XRi) : Ex × Few := (.exit 2, (slRi q.L q.W (rpN q.n q.f q.k q.s q.h q.L q.W q.I q.W) q.I (plN q.n q.f q.k q.s q.h q.L q.I) (ptF q.n q.f q.k q.s q.h q.L q.I) (q.W : Int), memRp q.n q.f q.k q.s q.h (rpN q.n q.f q.k q.s q.h q.L q.W q.I q.W) (rpG q.n q.f q.k q.s q.h q.L q.W q.I q.W)))
def PhiRi (n0 : Nat) (q : XRi) : Prop := PreRo n0 q.n q.f q.k q.s q.h q.L q.W ∧ (q.I : Int) < q.L ∧ q.C ≤ q.W
theorem slRi_rl {ρ : Ren} {b b' : Nat} {L w : Int} {N N' : Nat} {l : Int} {pN : Nat} {pF : Nat → R1} {c c' : Int} (h0 : ρ.of 0 = some 0) (hb : ρ.of b' = some b) (hN : N = N') (hc : c = c') :
    RlL ρ [.lit (.int .i64 L), .lit (.int .i64 w), .ptr 0 0, .own false b N, .lit (.int .i64 l), .row [.int .i64] pN pF, .lit (.int .i64 c)] [.lit (.int .i64 L), .lit (.int .i64 w), .ptr 0 0, .own false b' N', .lit (.int .i64 l), .row [.int .i64] pN pF, .lit (.int .i64 c')] := by
  subst hN hc
  exact ⟨rfl, rfl, ⟨h0, rfl⟩, ⟨rfl, rfl, hb⟩, rfl, ⟨rfl, row1H fun _ _ => rfl⟩, rfl, trivial⟩
theorem roundRi (n0 : Nat) (q : XRi) (hq : PhiRi n0 q) : ((sx EQ4 [] n0 (loopOf P 74 12) (mkS 68 [1,2,3,9,10,11,12] (VRi q).1, (VRi q).2)).bind (proj 68 [1,2,3,9,10,11,12])).All fun r => match r.1 with
      | .normal => ∃ q', PhiRi n0 q' ∧ q'.W - q'.C < q.W - q.C ∧ Wk 68 [1,2,3,9,10,11,12] n0 r.2 (VRi q') ∧ ∀ o, o = ORi q' → o = ORi q
      | e => ∃ s, (e, s) = ORi q ∧ Wk 68 [1,2,3,9,10,11,12] n0 r.2 s := by
  obtain ⟨n, f, k, s, h, L, W, I, C⟩ := q
  obtain ⟨⟨h0, hd, h5, w1, w2⟩, hI, hC⟩ := hq
  have hI : (I : Int) < L := hI
  have hC : C ≤ W := hC
  have w1 : (1 : Int) ≤ (W : Int) := w1
  have w2 : (W : Int) ≤ 64 := w2
  simp only [] at h0 hd h5
  subst h0
  have l8 := (dmE_zero.1 hd).2.1
  have lI : plN n f k s h L I ≤ 10000 := Nat.le_trans (partL_len _) (by omega)
  refine T.all_of_eq (t_Ri n f k s h L W (rpN n f k s h L W I C) I (plN n f k s h L I) (ptF n f k s h L I) (C : Int) (rpG n f k s h L W I C)) ?_
  have e2 := add1p (j := C) (by omega)
  have qa := quo_cut (len := plN n f k s h L I) (W := W) (C := C) (by omega) lI (by omega)
  by_cases hlt : C < W
  · have qb := quo_cut (len := plN n f k s h L I) (W := W) (C := C + 1) (by omega) lI (by omega)
    have cm := cut_mono (plN n f k s h L I) W C (by omega)
    have ct := cut_le (plN n f k s h L I) W (by omega) (c := C + 1) (by omega)
    have bN : rpN n f k s h L W I C ≤ I * W + C := pcN_le _
    have bM : I * W ≤ 8 * 64 := Nat.mul_le_mul (by omega) (by omega)
    simp only [e2, qa, qb, tnH, U.nsub_eq]
    refine ⟨fun _ => ⟨by omega, by omega, ⟨by omega, by omega, by omega⟩, fun g => ?_, fun g => ?_⟩, fun g => absurd (U.lt_f.mp g) (by omega)⟩
    · have g := U.gt_t.mp g
      simp only [Int.ofNat_eq_natCast] at g
      have hp : 0 < cutN (paF ((n, f), k, s, h, ()) L I).1.1 W (C + 1) - cutN (paF ((n, f), k, s, h, ()) L I).1.1 W C := by
        show 0 < cutN (plN n f k s h L I) W (C + 1) - cutN (plN n f k s h L I) W C
        omega
      obtain ⟨y1, y2, y3⟩ := pc_yes (F := paF ((n, f), k, s, h, ()) L) (I := I) hlt hp
      have y1 : rpN n f k s h L W I ((C + 1 : Nat) : Int) = rpN n f k s h L W I C + 1 := y1
      refine ⟨?_, ?_, ⟨n, f, k, s, h, L, W, I, C + 1⟩, ⟨⟨rfl, hd, h5, w1, w2⟩, hI, hlt⟩, (show W - (C + 1) < W - C by omega), ?_, fun o ho => ho⟩
      · show (0 + (cutN (plN n f k s h L I) W (C + 1) - cutN (plN n f k s h L I) W C)) * 8 ≤ 140737488351232
        omega
      · show (rpN n f k s h L W I C + 1) * 32 ≤ 140737488351232
        omega
      · refine wk_of [some 0, some 5] rfl (Nat.zero_le _) (ren1z _) (slRi_rl rfl rfl y1.symm rfl) ⟨⟨rfl, ⟨rfl, sameR fun _ _ => rfl⟩, rfl, rfl, rfl, trivial⟩, ⟨rfl, rfl, y1.symm, rowRE fun j hj => ?_⟩, trivial⟩
        refine (U.cat_eq _ _ _ _).trans ?_
        by_cases hj' : j < rpN n f k s h L W I C
        · exact (if_pos hj').trans (y2 j hj').symm
        · have hj : j < rpN n f k s h L W I ((C + 1 : Nat) : Int) := hj
          obtain rfl : j = rpN n f k s h L W I C := by omega
          refine (if_neg hj').trans ((?_ : _ = _).trans (y3.trans (pcE_at hlt)).symm)
          refine Prod.ext rfl (Prod.ext (Prod.ext (Nat.zero_add _) (funext fun t => ?_)) rfl)
          exact (U.cat_eq _ _ _ _).trans (if_neg (Nat.not_lt_zero _))
    · have g := U.gt_f.mp g
      simp only [Int.ofNat_eq_natCast] at g
      have hp : ¬ 0 < cutN (paF ((n, f), k, s, h, ()) L I).1.1 W (C + 1) - cutN (paF ((n, f), k, s, h, ()) L I).1.1 W C := by
        show ¬ 0 < cutN (plN n f k s h L I) W (C + 1) - cutN (plN n f k s h L I) W C
        omega
      obtain ⟨y1, y2⟩ := pc_no (F := paF ((n, f), k, s, h, ()) L) (I := I) hlt hp
      refine ⟨⟨n, f, k, s, h, L, W, I, C + 1⟩, ⟨⟨rfl, hd, h5, w1, w2⟩, hI, hlt⟩, (show W - (C + 1) < W - C by omega), ?_, fun o ho => ho⟩
      exact wk_of [some 0, some 1] rfl (Nat.zero_le _) (ren1z _) (slRi_rl rfl rfl y1.symm rfl) ⟨⟨rfl, ⟨rfl, sameR fun _ _ => rfl⟩, rfl, rfl, rfl, trivial⟩, ⟨rfl, rfl, y1.symm, rowRE fun j hj => (congrFun y2 j).symm⟩, trivial⟩
  · obtain rfl : C = W := by omega
    refine ⟨fun g => absurd (U.lt_t.mp g) (by omega), fun _ => ⟨_, rfl, ?_⟩⟩
    exact wk_of [some 0, some 1] rfl (Nat.zero_le _) (ren1z _) (slRi_rl rfl rfl rfl rfl) ⟨⟨rfl, ⟨rfl, sameR fun _ _ => rfl⟩, rfl, rfl, rfl, trivial⟩, ⟨rfl, rfl, rfl, rowRE fun _ _ => rfl⟩, trivial⟩
theorem loopRi : LoopOK P (loopOf P 74 12) (few 68 [1,2,3,9,10,11,12] gRi) :=
  loop_few (E := EQ4) mixed EQ4_ok loopsOK_none 68 [1,2,3,9,10,11,12] (X := XRi) gRi (fun _ x => VRi x) PhiRi (fun q => q.W - q.C) (fun _ x o => o = ORi x)
    (fun n0 st r h => by
      unfold gRi at h
      split at h
      · rename_i n0 L w z b N l pN pF e0 n f k s h' t0 e1 z' N' G t1
        obtain ⟨hp, rfl, rfl, rfl, rfl, rfl, rfl⟩ := (T.is_ask h).1
        obtain rfl := T.is_ret (T.is_ask h).2
        rw [lk_eq] at hp
        obtain ⟨⟨h0, hd, h5, w1, w2⟩, i0, i1, hpN, hpF, hN, hG⟩ := hp
        obtain ⟨W, rfl⟩ : ∃ W : Nat, w = (W : Int) := ⟨w.toNat, by omega⟩
        obtain ⟨I, rfl⟩ : ∃ I : Nat, l = (I : Int) := ⟨l.toNat, by omega⟩
        subst h0 hpN hpF hN
        refine ⟨⟨n, f, k, s, h', L, W, I, 0⟩, ⟨⟨rfl, hd, h5, w1, w2⟩, i1, Nat.zero_le _⟩, wk_of [some 0, some 1] rfl (Nat.zero_le _) (ren1z _) (slRi_rl rfl rfl rfl rfl) ⟨⟨rfl, ⟨rfl, sameR fun _ _ => rfl⟩, rfl, rfl, rfl, trivial⟩, ⟨rfl, rfl, rfl, rowRE fun j hj => hG j hj⟩, trivial⟩, fun o ho => ?_⟩
        rw [ho]
        simp only [lk_eq]; rfl
      · exact h.elim)
    roundRi
theorem LRi_ok : LoopsOK P LRi (bodyOf P 74) := loopsOK_of (by kernel_rfl) fun k g hk => by
  simp only [List.mem_singleton, Prod.mk.injEq, LoopC.sum.injEq] at hk
  obtain ⟨rfl, rfl⟩ := hk
  exact loopRi
structure XRo where
  (n : Nat) (f : Nat → R3) (k s h L : Int) (W I : Nat)
noncomputable abbrev VRo (q : XRo) : Few := (slRo q.L q.W (rpN q.n q.f q.k q.s q.h q.L q.W q.I 0) q.I, memRp q.n q.f q.k q.s q.h (rpN q.n q.f q.k q.s q.h q.L q.W q.I 0) (rpG q.n q.f q.k q.s q.h q.L q.W q.I 0))
noncomputable def ORo (q : XRo) : Ex × Few := (.exit 0, (slRo q.L q.W (pnN q.n q.f q.k q.s q.h q.L q.W) q.L, memRp q.n q.f q.k q.s q.h (pnN q.n q.f q.k q.s q.h q.L q.W) (pnF q.n q.f q.k q.s q.h q.L q.W)))
def PhiRo (n0 : Nat) (q : XRo) : Prop := PreRo n0 q.n q.f q.k q.s q.h q.L q.W ∧ (q.I : Int) ≤ q.L
theorem slRo_rl {ρ : Ren} {b b' : Nat} {L w : Int} {N N' : Nat} {l l' : Int} (h0 : ρ.of 0 = some 0) (hb : ρ.of b' = some b) (hN : N = N') (hl : l = l') :
    RlL ρ [.lit (.int .i64 L), .lit (.int .i64 w), .ptr 0 0, .own false b N, .lit (.int .i64 l)] [.lit (.int .i64 L), .lit (.int .i64 w), .ptr 0 0, .own false b' N', .lit (.int .i64 l')] := by
  subst hN hl
  exact ⟨rfl, rfl, ⟨h0, rfl⟩, ⟨rfl, rfl, hb⟩, rfl, trivial⟩
theorem roundRo (n0 : Nat) (q : XRo) (hq : PhiRo n0 q) : ((sx EQ4 LRi n0 (loopOf P 74 8) (mkS 68 [1,2,3,9,10] (VRo q).1, (VRo q).2)).bind (proj 68 [1,2,3,9,10])).All fun r => match r.1 with
      | .normal => ∃ q', PhiRo n0 q' ∧ q'.L.toNat - q'.I < q.L.toNat - q.I ∧ Wk 68 [1,2,3,9,10] n0 r.2 (VRo q') ∧ ∀ o, o = ORo q' → o = ORo q
      | e => ∃ s, (e, s) = ORo q ∧ Wk 68 [1,2,3,9,10] n0 r.2 s := by
  obtain ⟨n, f, k, s, h, L, W, I⟩ := q
  obtain ⟨⟨h0, hd, h5, w1, w2⟩, hI⟩ := hq
  have hI : (I : Int) ≤ L := hI
  simp only [] at h0 hd h5
  subst h0
  have d := dr_64 (chD_zero.1 (dmE_zero.1 hd).2.2.1).1
  have l8 := (dmE_zero.1 hd).2.1
  refine T.all_of_eq (t_Ro n f k s h L W (rpN n f k s h L W I 0) (I : Int) (rpG n f k s h L W I 0)) ?_
  have e2 := add1p (j := I) (by omega)
  by_cases hlt : (I : Int) < L
  · obtain ⟨y1, y2⟩ := pc_next (F := paF ((n, f), k, s, h, ()) L) (W := W) (I := I)
    simp only [e2, lk_eq]
    refine ⟨fun _ => ⟨⟨d, hd, h5⟩, ⟨⟨⟨rfl, hd, h5, w1, w2⟩, by omega, hlt, rfl, rfl, rfl, fun _ _ => rfl⟩, trivial, trivial, trivial, trivial, trivial, trivial⟩,
      ⟨n, f, k, s, h, L, W, I + 1⟩, ⟨⟨rfl, hd, h5, w1, w2⟩, (show ((I + 1 : Nat) : Int) ≤ L by omega)⟩, (show L.toNat - (I + 1) < L.toNat - I by omega), ?_, fun o ho => ho⟩, fun g => absurd (U.lt_f.mp g) (by omega)⟩
    exact wk_of [some 0, some 1] rfl (Nat.zero_le _) (ren1z _) (slRo_rl rfl rfl y1 rfl) ⟨⟨rfl, ⟨rfl, sameR fun _ _ => rfl⟩, rfl, rfl, rfl, trivial⟩, ⟨rfl, rfl, y1, rowRE fun j hj => congrFun y2 j⟩, trivial⟩
  · have ej : (I : Int) = L := by omega
    have en : rpN n f k s h L W I 0 = pnN n f k s h L W := by rw [ej]; rfl
    have eg : rpG n f k s h L W I 0 = pnF n f k s h L W := by rw [ej]; rfl
    refine ⟨fun g => absurd (U.lt_t.mp g) (by omega), fun _ => ⟨_, rfl, ?_⟩⟩
    exact wk_of [some 0, some 1] rfl (Nat.zero_le _) (ren1z _) (slRo_rl rfl rfl en ej) ⟨⟨rfl, ⟨rfl, sameR fun _ _ => rfl⟩, rfl, rfl, rfl, trivial⟩, ⟨rfl, rfl, en, rowRE fun j hj => congrFun eg j⟩, trivial⟩
theorem LRi_sub : LoopsOK P LRi (loopOf P 74 8) := LRi_ok.sub (fun l hl => by
  rw [show loopsIn (bodyOf P 74) = loopOf P 74 8 :: loopsIn (loopOf P 74 8) by kernel_rfl]
  exact List.mem_cons_of_mem _ hl) fun l hl => by
  rw [show rangesIn (loopOf P 74 8) = [] by kernel_rfl] at hl; cases hl
theorem loopRo : LoopOK P (loopOf P 74 8) (few 68 [1,2,3,9,10] gRo) :=
  loop_few (E := EQ4) mixed EQ4_ok LRi_sub 68 [1,2,3,9,10] (X := XRo) gRo (fun _ x => VRo x) PhiRo (fun q => q.L.toNat - q.I) (fun _ x o => o = ORo x)
    (fun n0 st r h => by
      unfold gRo at h
      split at h
      · rename_i n0 L w z b e0 n f k s h' t0 e1 z' G t1
        obtain ⟨hp, rfl, rfl, rfl, rfl, rfl⟩ := (T.is_ask h).1
        obtain rfl := T.is_ret (T.is_ask h).2
        rw [lk_eq] at hp
        obtain ⟨h0, hd, h5, w1, w2⟩ := hp
        obtain ⟨W, rfl⟩ : ∃ W : Nat, w = (W : Int) := ⟨w.toNat, by omega⟩
        have l0 := (dmE_zero.1 hd).1
        subst h0
        have z : rpN n f k s h' L W ((0 : Nat) : Int) 0 = 0 := by
          show (pcQ (paF ((n, f), k, s, h', ()) L) W (0 * W + 0)).length = 0
          rw [Nat.zero_mul]; rfl
        refine ⟨⟨n, f, k, s, h', L, W, 0⟩, ⟨⟨rfl, hd, h5, w1, w2⟩, (show ((0 : Nat) : Int) ≤ L by omega)⟩, wk_of [some 0, some 1] rfl (Nat.zero_le _) (ren1z _) (slRo_rl rfl rfl z.symm rfl) ⟨⟨rfl, ⟨rfl, sameR fun _ _ => rfl⟩, rfl, rfl, rfl, trivial⟩, ⟨rfl, rfl, z.symm, rowRE fun j hj => absurd (z ▸ hj : j < 0) (Nat.not_lt_zero _)⟩, trivial⟩, fun o ho => ?_⟩
        rw [ho]
        simp only [lk_eq]; rfl
      · exact h.elim)
    roundRo
theorem lRP_ok : ∀ p ∈ lRP, LoopsOK P p.2 (bodyOf P p.1) := by
  intro p hp
  simp only [lRP, List.mem_singleton] at hp
  subst hp
  refine loopsOK_of (by kernel_rfl) fun k g hk => ?_
  simp only [List.mem_cons, List.not_mem_nil, or_false, Prod.mk.injEq, LoopC.sum.injEq] at hk
  rcases hk with ⟨rfl, rfl⟩ | ⟨rfl, rfl⟩
  · exact loopRi
  · exact loopRo
end Go.RX.Span

/- Domain maps: Pieces of both, whatever is asked for. -/
set_option linter.unusedVariables false
set_option linter.unusedSimpArgs false
set_option maxRecDepth 100000
namespace Go.RX.Span
open Go Go.RX
attribute [local irreducible] sx conB

section
variable (n : Nat) (f : Nat → R3) (k s h L w : Int)
noncomputable def wPg (l : List Bool) : T SV := (conB P (conOf kPc) (loopsOf lPc) 10 46 [.agg [.row [.int .i64, .int .i64, .int .i64] n f, .lit (.int .i64 k), .lit (.int .i64 s), .lit (.int .i64 h)], .lit (.int .i64 L), .lit (.int .i64 w)]).force l
theorem t_Pg1 : wPg n f k s h L w [true] = .ask (Row64 n f) (.ask (U.ne (lk lsE n f k s h L) 0 = true) (.ret (.tup [.lit (.slice none 0 0), .lit (.int .i64 (lk lsE n f k s h L))]))) := by kernel_rfl
theorem t_Pg2 : wPg n f k s h L w [false, true] = .ask (Row64 n f) (.ask (U.ne (lk lsE n f k s h L) 0 = false) (.ask (U.lt w 1 = true) (.ret (.tup [.lit (.slice none 0 0), .lit (.int .i64 4)])))) := by kernel_rfl
theorem t_Pg3 : wPg n f k s h L w [false, false, true] = .ask (Row64 n f) (.ask (U.ne (lk lsE n f k s h L) 0 = false) (.ask (U.lt w 1 = false) (.ask (U.gt w 64 = true) (.ret (.tup [.lit (.slice none 0 0), .lit (.int .i64 4)]))))) := by kernel_rfl
theorem t_Pg4 : wPg n f k s h L w [false, false, false] = .ask (Row64 n f) (.ask (U.ne (lk lsE n f k s h L) 0 = false) (.ask (U.lt w 1 = false) (.ask (U.gt w 64 = false) (.ask (lk PaAsk n f k s h L)
    (.ask (lk PrePo 0 w (U.toNat L) (lk paF ((n, f), k, s, h, ()) L) ∧ ((U.toNat L : Nat) : Int) = ((U.toNat L : Nat) : Int))
    (.ret (.tup [.row [.int .i64, .sl [.int .i64]] (lk pcN (lk paF ((n, f), k, s, h, ()) L) w ((U.toNat L : Nat) : Int) 0) (lk pcG (lk paF ((n, f), k, s, h, ()) L) w ((U.toNat L : Nat) : Int) 0), .lit (.int .i64 0)]))))))) := by kernel_rfl
noncomputable def wRg (l : List Bool) : T SV := (conB P (conOf kQ4) (loopsOf lRP) 10 74 [.agg [.row [.int .i64, .int .i64, .int .i64] n f, .lit (.int .i64 k), .lit (.int .i64 s), .lit (.int .i64 h)], .lit (.int .i64 L), .lit (.int .i64 w)]).force l
theorem t_Rg1 : wRg n f k s h L w [true] = .ask (Row64 n f) (.ask (U.ne (lk lcE n f k s h L 0) 0 = true) (.ret (.tup [.lit (.slice none 0 0), .lit (.int .i64 (lk lcE n f k s h L 0))]))) := by kernel_rfl
theorem t_Rg2 : wRg n f k s h L w [false, true] = .ask (Row64 n f) (.ask (U.ne (lk lcE n f k s h L 0) 0 = false) (.ask (U.lt w 1 = true) (.ret (.tup [.lit (.slice none 0 0), .lit (.int .i64 4)])))) := by kernel_rfl
theorem t_Rg3 : wRg n f k s h L w [false, false, true] = .ask (Row64 n f) (.ask (U.ne (lk lcE n f k s h L 0) 0 = false) (.ask (U.lt w 1 = false) (.ask (U.gt w 64 = true) (.ret (.tup [.lit (.slice none 0 0), .lit (.int .i64 4)]))))) := by kernel_rfl
theorem t_Rg4 : wRg n f k s h L w [false, false, false] = .ask (Row64 n f) (.ask (U.ne (lk lcE n f k s h L 0) 0 = false) (.ask (U.lt w 1 = false) (.ask (U.gt w 64 = false)
    (.ask (lk PreRo 0 n f k s h L w ∧ false = false ∧ (1 : Nat) = 1 ∧ false = false ∧ (49 : Nat) = 49 ∧ (152 : Nat) = 152)
    (.ret (.tup [.row [.int .i64, .sl [.int .i64]] (lk pnN n f k s h L w) (lk pnF n f k s h L w), .lit (.int .i64 0)])))))) := by kernel_rfl
end
section
variable {n : Nat} {f : Nat → R3} {k s h L w : Int}
theorem pg_1 (g : lsE n f k s h L ≠ 0) : pgE n f k s h L w = lsE n f k s h L ∧ pgN n f k s h L w = 0 := by
  have e : pgE n f k s h L w = lsE n f k s h L := by unfold pgE; rw [if_pos g]
  refine ⟨e, ?_⟩
  unfold pgN; rw [if_pos (by rw [e]; exact g)]
theorem pg_2 (g : lsE n f k s h L = 0) (hw : w < 1 ∨ 64 < w) : pgE n f k s h L w = 4 ∧ pgN n f k s h L w = 0 := by
  have e : pgE n f k s h L w = 4 := by unfold pgE; rw [if_neg (by simp [g]), if_pos hw]
  refine ⟨e, ?_⟩
  unfold pgN; rw [if_pos (by rw [e]; decide)]
theorem pg_3 (g : lsE n f k s h L = 0) (hw : ¬ (w < 1 ∨ 64 < w)) : pgE n f k s h L w = 0 ∧ pgN n f k s h L w = pnN n f k s h L w := by
  have e : pgE n f k s h L w = 0 := by unfold pgE; rw [if_neg (by simp [g]), if_neg hw]
  refine ⟨e, ?_⟩
  unfold pgN; rw [if_neg (by simp [e])]
end
theorem PiecesG_ok : ConOK P 46 c_PiecesG := con_force (allOKL mixed kPc_ok lPc_ok) 10 46 fun args r hh => by
  unfold c_PiecesG at hh
  split at hh
  · rename_i n f k s h L w
    have d := (T.is_ask hh).1
    obtain rfl := T.is_ret (T.is_ask hh).2
    show ∃ l, (wPg n f k s h L w l).All fun v => Cl v _
    by_cases hl : lsE n f k s h L = 0
    rotate_left
    · obtain ⟨e1, e2⟩ := pg_1 (w := w) hl
      exact ⟨_, by rw [t_Pg1]; simp only [lk_eq, e1, e2]; exact ⟨d, U.ne_t.mpr hl, cl_nil, .inl rfl, rfl⟩⟩
    by_cases w1 : w < 1
    · obtain ⟨e1, e2⟩ := pg_2 (w := w) hl (.inl w1)
      exact ⟨_, by rw [t_Pg2]; simp only [lk_eq, e1, e2]; exact ⟨d, U.ne_f.mpr hl, U.lt_t.mpr w1, cl_nil, .inl rfl, rfl⟩⟩
    by_cases w2 : 64 < w
    · obtain ⟨e1, e2⟩ := pg_2 (w := w) hl (.inr w2)
      exact ⟨_, by rw [t_Pg3]; simp only [lk_eq, e1, e2]; exact ⟨d, U.ne_f.mpr hl, U.lt_f.mpr (by omega), U.gt_t.mpr w2, cl_nil, .inl rfl, rfl⟩⟩
    obtain ⟨e1, e2⟩ := pg_3 (w := w) hl (by omega)
    have pa := pa_ask hl
    obtain ⟨hd, h5⟩ := pa
    obtain ⟨l1, l8, _⟩ := dmE_zero.1 hd
    have eL : ((U.toNat L : Nat) : Int) = L := nat64 (by omega)
    refine ⟨_, by
      rw [t_Pg4]; simp only [lk_eq, eL, e1, e2]
      refine ⟨d, U.ne_f.mpr hl, U.lt_f.mpr (by omega), U.gt_f.mpr (by omega), ⟨hd, h5⟩, ⟨⟨rfl, by omega, by omega, by omega, fun l hl => ?_⟩, trivial⟩, ⟨rfl, rowRE fun _ _ => rfl⟩, .inl rfl, rfl⟩
      exact Nat.le_trans (partL_len (n := n) (f := f) (k := k) (s := s) (h := h) (L := L) l) (by omega)⟩
  · exact hh.elim
theorem qPiecesG_ok : ConOK P 74 c_PiecesG := con_force (allOKL mixed kQ4_ok lRP_ok) 10 74 fun args r hh => by
  unfold c_PiecesG at hh
  split at hh
  · rename_i n f k s h L w
    have d := (T.is_ask hh).1
    obtain rfl := T.is_ret (T.is_ask hh).2
    show ∃ l, (wRg n f k s h L w l).All fun v => Cl v _
    by_cases hl : lsE n f k s h L = 0
    rotate_left
    · obtain ⟨e1, e2⟩ := pg_1 (w := w) hl
      exact ⟨_, by rw [t_Rg1]; simp only [lk_eq, e1, e2, lc0]; exact ⟨d, U.ne_t.mpr hl, cl_nil, .inl rfl, rfl⟩⟩
    by_cases w1 : w < 1
    · obtain ⟨e1, e2⟩ := pg_2 (w := w) hl (.inl w1)
      exact ⟨_, by rw [t_Rg2]; simp only [lk_eq, e1, e2, lc0]; exact ⟨d, U.ne_f.mpr hl, U.lt_t.mpr w1, cl_nil, .inl rfl, rfl⟩⟩
    by_cases w2 : 64 < w
    · obtain ⟨e1, e2⟩ := pg_2 (w := w) hl (.inr w2)
      exact ⟨_, by rw [t_Rg3]; simp only [lk_eq, e1, e2, lc0]; exact ⟨d, U.ne_f.mpr hl, U.lt_f.mpr (by omega), U.gt_t.mpr w2, cl_nil, .inl rfl, rfl⟩⟩
    obtain ⟨e1, e2⟩ := pg_3 (w := w) hl (by omega)
    have pa := pa_ask hl
    obtain ⟨hd, h5⟩ := pa
    exact ⟨_, by
      rw [t_Rg4]; simp only [lk_eq, e1, e2, lc0]
      exact ⟨d, U.ne_f.mpr hl, U.lt_f.mpr (by omega), U.gt_f.mpr (by omega), ⟨⟨rfl, hd, h5, by omega, by omega⟩, trivial, trivial, trivial, trivial, trivial⟩, ⟨rfl, rowRE fun _ _ => rfl⟩, .inl rfl, rfl⟩⟩
  · exact hh.elim
end Go.RX.Span

/- Domain maps: lists of pieces compared: the states. -/
set_option linter.unusedVariables false
set_option linter.unusedSimpArgs false
set_option maxRecDepth 100000
namespace Go.RX.Span
open Go Go.RX
attribute [local irreducible] sx conB

noncomputable abbrev kEp : List (Nat × Con) := [(30, c_Equal)] --%K
theorem kEp_ok : ∀ p ∈ kEp, ConOK P p.1 p.2 := by
  intro p hp
  simp only [kEp, List.mem_singleton] at hp
  subst hp
  exact Equal_ok
noncomputable abbrev EEp : Env := ⟨P, conOf kEp, scall P (conOf kEp) noLoops 10⟩
theorem EEp_ok : EnvOK EEp := envOK (allOK mixed kEp_ok) 10
def SameP (n m : Nat) (F G : Nat → RE) : Prop := n = m ∧ n ≤ 100000 ∧ ∀ i, i < n → F i = G i ∧ (F i).2.1.1 ≤ 100000
noncomputable abbrev slEp (n : Nat) (F : Nat → RE) (m : Nat) (G : Nat → RE) (i : Int) : List SV := [.row [.int .i64, .sl [.int .i64]] m G, .fn (.func 154) [] [], .row [.int .i64, .sl [.int .i64]] n F, .lit (.int .i64 (n : Int)), .lit (.int .i64 i)]
noncomputable def gEp : Nat → Few → T (Ex × Few)
  | n0, ([.row [.int .i64, .sl [.int .i64]] m G, .fn (.func 154) [] [], .row [.int .i64, .sl [.int .i64]] n F, .lit (.int .i64 l), .ki .i64 0], []) =>
    .ask (n0 = 0 ∧ lk SameP n m F G ∧ l = (n : Int)) (.ret (.exit 0, ([.any, .any, .any, .any, .any], [])))
  | _, _ => .stuck 1
noncomputable abbrev lEp : List (Nat × Loops) := [(153, [(4, .sum (few 32 [1,2,15,16,17] gEp))])] --%K
noncomputable def c_EqP : Con := fun args => match args with
  | [.row [.int .i64, .sl [.int .i64]] n F, .row [.int .i64, .sl [.int .i64]] m G, .fn (.func 154) [] []] => .ask (lk SameP n m F G) (.ret (.lit (.bool true)))
  | _ => .stuck 1
noncomputable def c_pieces : Con := fun args => match args with
  | [.row [.int .i64, .sl [.int .i64]] n F, .row [.int .i64, .sl [.int .i64]] m G] => .ask (lk SameP n m F G) (.ret (.lit (.bool true)))
  | _ => .stuck 1
end Go.RX.Span

/- Domain maps: lists of pieces compared: the walks. -/
set_option linter.unusedVariables false
set_option linter.unusedSimpArgs false
set_option maxRecDepth 100000
namespace Go.RX.Span
open Go Go.RX
attribute [local irreducible] sx conB

--%R i < ↑n => i < ((n : Nat) : Int)
--%R i < ↑m => i < ((m : Nat) : Int)
--%R ↑n = ↑n => ((n : Nat) : Int) = ((n : Nat) : Int)
set_option maxRecDepth 100000 in
theorem t_Ep (n : Nat) (F : Nat → RE) (m : Nat) (G : Nat → RE) (i : Int) : (sx EEp [] 0 (loopOf P 153 4) (mkS 32 [1,2,15,16,17] (slEp n F m G i), [])).bind (proj 32 [1,2,15,16,17]) =
    T.br (U.lt i (Int.ofNat n)) (.ask ((0 : Int) ≤ i ∧ i < ((n : Nat) : Int)) (.ask ((0 : Int) ≤ i ∧ i < ((m : Nat) : Int)) (.br (U.eq (F (U.toNat i)).1 (G (U.toNat i)).1) (.ask ((F
      (U.toNat i)).snd.fst.1 ≤ nat_lit 9223372036854775807) (.br (U.not (lk eqR (F (U.toNat i)).snd.fst.1 (F (U.toNat i)).snd.fst.2 (G (U.toNat i)).snd.fst.1 (G (U.toNat i)).snd.fst.2))
      (.ret (Ex.ret, [.row [.int .i64, .sl [.int .i64]] m G, SV.fn (Fn.func (nat_lit 154)) [] [], .row [.int .i64, .sl [.int .i64]] n F, .lit (.int .i64 (Int.ofNat n)), .lit (.int .i64
      i)], [(nat_lit 1, some (Blk.cells [.lit (.int .i64 (F (U.toNat i)).1), .row [.int .i64] (F (U.toNat i)).snd.fst.1 (F (U.toNat i)).snd.fst.2] (nat_lit 61))), (nat_lit 1, some
      (Blk.cells [.lit (.int .i64 (G (U.toNat i)).1), .row [.int .i64] (G (U.toNat i)).snd.fst.1 (G (U.toNat i)).snd.fst.2] (nat_lit 152))), (nat_lit 0, some (Blk.cells [.lit (.int .i64
      (F (U.toNat i)).1), .row [.int .i64] (F (U.toNat i)).snd.fst.1 (F (U.toNat i)).snd.fst.2] (nat_lit 61))), (nat_lit 0, some (Blk.cells [.lit (.int .i64 (G (U.toNat i)).1), .row [.int
      .i64] (G (U.toNat i)).snd.fst.1 (G (U.toNat i)).snd.fst.2] (nat_lit 152)))])) (.ret (Ex.normal, [.row [.int .i64, .sl [.int .i64]] m G, SV.fn (Fn.func (nat_lit 154)) [] [], .row
      [.int .i64, .sl [.int .i64]] n F, .lit (.int .i64 (Int.ofNat n)), .lit (.int .i64 (U.add .i64 i (1 : Int)))], [(nat_lit 1, some (Blk.cells [.lit (.int .i64 (F (U.toNat i)).1), .row
      [.int .i64] (F (U.toNat i)).snd.fst.1 (F (U.toNat i)).snd.fst.2] (nat_lit 61))), (nat_lit 1, some (Blk.cells [.lit (.int .i64 (G (U.toNat i)).1), .row [.int .i64] (G (U.toNat
      i)).snd.fst.1 (G (U.toNat i)).snd.fst.2] (nat_lit 152))), (nat_lit 0, some (Blk.cells [.lit (.int .i64 (F (U.toNat i)).1), .row [.int .i64] (F (U.toNat i)).snd.fst.1 (F (U.toNat
      i)).snd.fst.2] (nat_lit 61))), (nat_lit 0, some (Blk.cells [.lit (.int .i64 (G (U.toNat i)).1), .row [.int .i64] (G (U.toNat i)).snd.fst.1 (G (U.toNat i)).snd.fst.2] (nat_lit
      152)))])))) (.ret (Ex.ret, [.row [.int .i64, .sl [.int .i64]] m G, SV.fn (Fn.func (nat_lit 154)) [] [], .row [.int .i64, .sl [.int .i64]] n F, .lit (.int .i64 (Int.ofNat n)), .lit
      (.int .i64 i)], [(nat_lit 1, some (Blk.cells [.lit (.int .i64 (F (U.toNat i)).1), .row [.int .i64] (F (U.toNat i)).snd.fst.1 (F (U.toNat i)).snd.fst.2] (nat_lit 61))), (nat_lit 1,
      some (Blk.cells [.lit (.int .i64 (G (U.toNat i)).1), .row [.int .i64] (G (U.toNat i)).snd.fst.1 (G (U.toNat i)).snd.fst.2] (nat_lit 152))), (nat_lit 0, some (Blk.cells [.lit (.int
      .i64 (F (U.toNat i)).1), .row [.int .i64] (F (U.toNat i)).snd.fst.1 (F (U.toNat i)).snd.fst.2] (nat_lit 61))), (nat_lit 0, some (Blk.cells [.lit (.int .i64 (G (U.toNat i)).1), .row
      [.int .i64] (G (U.toNat i)).snd.fst.1 (G (U.toNat i)).snd.fst.2] (nat_lit 152)))]))))) (.ret (Ex.exit (nat_lit 0), [.row [.int .i64, .sl [.int .i64]] m G, SV.fn (Fn.func (nat_lit
      154)) [] [], .row [.int .i64, .sl [.int .i64]] n F, .lit (.int .i64 (Int.ofNat n)), .lit (.int .i64 i)], [])) := by kernel_rfl
set_option maxRecDepth 100000 in
theorem t_EqP (n : Nat) (F : Nat → RE) (m : Nat) (G : Nat → RE) : conB Go.Proofs.Try.prog (conOf kEp) (loopsOf lEp) 10 153 [.row [.int .i64, .sl [.int .i64]] n F, .row [.int .i64, .sl [.int .i64]] m G, .fn (.func 154) [] []] =
    T.br (U.ne (Int.ofNat n) (Int.ofNat m)) (.ret (.lit (.bool false))) (.ask (nat_lit 0 = (0 : Nat) ∧ lk SameP n m F G ∧ ((n : Nat) : Int) = ((n : Nat) : Int)) (.ret (.lit (.bool
      true)))) := by kernel_rfl
set_option maxRecDepth 100000 in
theorem t_pieces (n : Nat) (F : Nat → RE) (m : Nat) (G : Nat → RE) : conB Go.Proofs.Try.prog (conOf [(153, c_EqP)]) noLoops 10 75 [.row [.int .i64, .sl [.int .i64]] n F, .row [.int .i64, .sl [.int .i64]] m G] =
    T.ask (lk SameP n m F G) (.ret (.lit (.bool true))) := by kernel_rfl
end Go.RX.Span

/- Domain maps: lists of pieces compared. -/
set_option linter.unusedVariables false
set_option linter.unusedSimpArgs false
set_option maxRecDepth 100000
namespace Go.RX.Span
open Go Go.RX
attribute [local irreducible] sx conB

structure XEp where
  (n : Nat) (F : Nat → RE) (m : Nat) (G : Nat → RE) (j : Nat)
noncomputable abbrev VEp (q : XEp) : Few := (slEp q.n q.F q.m q.G (q.j : Int), [])
noncomputable def OEp (q : XEp) : Ex × Few := (.exit 0, ([.any, .any, .any, .any, .any], []))
def PhiEp (n0 : Nat) (q : XEp) : Prop := n0 = 0 ∧ SameP q.n q.m q.F q.G ∧ q.j ≤ q.n
theorem roundEp (n0 : Nat) (q : XEp) (hq : PhiEp n0 q) : ((sx EEp [] n0 (loopOf P 153 4) (mkS 32 [1,2,15,16,17] (VEp q).1, (VEp q).2)).bind (proj 32 [1,2,15,16,17])).All fun r => match r.1 with
      | .normal => ∃ q', PhiEp n0 q' ∧ q'.n - q'.j < q.n - q.j ∧ Wk 32 [1,2,15,16,17] n0 r.2 (VEp q') ∧ ∀ o, o = OEp q' → o = OEp q
      | e => ∃ s, (e, s) = OEp q ∧ Wk 32 [1,2,15,16,17] n0 r.2 s := by
  obtain ⟨n, F, m, G, j⟩ := q
  obtain ⟨h0, ⟨hm, hn, hs⟩, hj⟩ := hq
  have hj : j ≤ n := hj
  have hn : n ≤ 100000 := hn
  have hm : n = m := hm
  simp only [] at h0 hs
  subst h0 hm
  refine T.all_of_eq (t_Ep n F n G (j : Int)) ?_
  have e2 := add1p (j := j) (by omega)
  have fr : RlL [] (slEp n F n G ((j + 1 : Nat) : Int)) (slEp n F n G ((j + 1 : Nat) : Int)) := ⟨⟨rfl, rowRE fun _ _ => rfl⟩, ⟨rfl, trivial, trivial⟩, ⟨rfl, rowRE fun _ _ => rfl⟩, rfl, rfl, trivial⟩
  by_cases hlt : j < n
  · obtain ⟨g1, g2⟩ := hs j hlt
    simp only [e2, tnH, lk_eq, ← g1]
    refine ⟨fun _ => ⟨⟨by omega, by omega⟩, ⟨by omega, by omega⟩, fun _ => ⟨?_, fun g => absurd (U.not_t.mp g) (by rw [eqR_self]; decide), fun _ => ?_⟩, fun g => absurd rfl (U.eq_f.mp g)⟩, fun g => absurd (U.lt_f.mp g) (by simp only [Int.ofNat_eq_natCast]; omega)⟩
    · show (F j).2.1.1 ≤ 9223372036854775807
      omega
    · exact ⟨⟨n, F, n, G, j + 1⟩, ⟨rfl, ⟨rfl, hn, hs⟩, hlt⟩, (show n - (j + 1) < n - j by omega), wk_of [] rfl (Nat.zero_le _) (ren1z _) fr trivial, fun o ho => ho⟩
  · refine ⟨fun g => absurd (U.lt_t.mp g) (by simp only [Int.ofNat_eq_natCast]; omega), fun _ => ⟨_, rfl, wk_of [] rfl (Nat.zero_le _) (ren1z _) ⟨rl_any _, rl_any _, rl_any _, rl_any _, rl_any _, trivial⟩ trivial⟩⟩
theorem loopEp : LoopOK P (loopOf P 153 4) (few 32 [1,2,15,16,17] gEp) :=
  loop_few (E := EEp) mixed EEp_ok loopsOK_none 32 [1,2,15,16,17] (X := XEp) gEp (fun _ x => VEp x) PhiEp (fun q => q.n - q.j) (fun _ x o => o = OEp x)
    (fun n0 st r h => by
      unfold gEp at h
      split at h
      · rename_i n0 m G n F l
        obtain ⟨h0, hp, rfl⟩ := (T.is_ask h).1
        obtain rfl := T.is_ret (T.is_ask h).2
        rw [lk_eq] at hp
        subst h0
        exact ⟨⟨n, F, m, G, 0⟩, ⟨rfl, hp, Nat.zero_le _⟩, wk_of [] rfl (Nat.zero_le _) (ren1z _) ⟨⟨rfl, rowRE fun _ _ => rfl⟩, ⟨rfl, trivial, trivial⟩, ⟨rfl, rowRE fun _ _ => rfl⟩, rfl, rfl, trivial⟩ trivial, fun o ho => ho⟩
      · exact h.elim)
    roundEp
theorem lEp_ok : ∀ p ∈ lEp, LoopsOK P p.2 (bodyOf P p.1) := by
  intro p hp
  simp only [lEp, List.mem_singleton] at hp
  subst hp
  refine loopsOK_of (by kernel_rfl) fun k g hk => ?_
  simp only [List.mem_singleton, Prod.mk.injEq, LoopC.sum.injEq] at hk
  obtain ⟨rfl, rfl⟩ := hk
  exact loopEp
theorem EqP_ok : ConOK P 153 c_EqP := con_of (allOKL mixed kEp_ok lEp_ok) 10 153 fun args r h => by
  unfold c_EqP at h
  split at h
  · rename_i n F m G
    have hp := (T.is_ask h).1
    obtain rfl := T.is_ret (T.is_ask h).2
    rw [lk_eq] at hp
    refine T.all_of_eq (t_EqP n F m G) ?_
    simp only [lk_eq]
    have em := hp.1
    exact ⟨fun g => absurd (congrArg Int.ofNat em) (U.ne_t.mp g), fun _ => ⟨⟨trivial, hp, trivial⟩, rfl⟩⟩
  · exact h.elim
theorem pieces_ok : ConOK P 75 c_pieces := con_of (allOK mixed (fun p hp => by simp only [List.mem_singleton] at hp; subst hp; exact EqP_ok : ∀ p ∈ [(153, c_EqP)], ConOK P p.1 p.2)) 10 75 fun args r h => by
  unfold c_pieces at h
  split at h
  · rename_i n F m G
    have hp := (T.is_ask h).1
    obtain rfl := T.is_ret (T.is_ask h).2
    exact T.all_of_eq (t_pieces n F m G) ⟨hp, rfl⟩
  · exact h.elim
noncomputable abbrev kNm : List (Nat × Con) := [(39, c_Few), (42, c_true), (62, c_Local), (72, c_Local), (61, c_Global), (73, c_Global), (46, c_PiecesG), (74, c_PiecesG), (75, c_pieces)] --%K
theorem kNm_ok : ∀ p ∈ kNm, ConOK P p.1 p.2 := by
  intro p hp
  simp only [kNm, List.mem_cons, List.not_mem_nil, or_false] at hp
  rcases hp with rfl | rfl | rfl | rfl | rfl | rfl | rfl | rfl | rfl
  · exact Few_ok
  · exact awake5_ok
  · exact Local_ok
  · exact qLocal_ok
  · exact Global_ok
  · exact qGlobal_ok
  · exact PiecesG_ok
  · exact qPiecesG_ok
  · exact pieces_ok
end Go.RX.Span

/- Domain maps: the law of numbers returns true. -/
set_option linter.unusedVariables false
set_option linter.unusedSimpArgs false
set_option maxRecDepth 100000
namespace Go.RX.Span
open Go Go.RX
attribute [local irreducible] sx conB

section
variable (n : Nat) (f : Nat → R3) (k s h L l a w : Int)
noncomputable def wNm (b : List Bool) : T SV := (conB P (conOf kNm) noLoops 10 13 [.agg [.row [.int .i64, .int .i64, .int .i64] n f, .lit (.int .i64 k), .lit (.int .i64 s), .lit (.int .i64 h)], .lit (.int .i64 L), .lit (.int .i64 l), .lit (.int .i64 a), .lit (.int .i64 w)]).force b
theorem t_Nm1 : wNm n f k s h L l a w [true] = .ask (Row64 n f) (.ask (U.not (lk fewB n f k s h 300) = true) (.ret (.lit (.bool true)))) := by kernel_rfl
theorem t_Nm2 : wNm n f k s h L l a w [false, false, false, false, true, true, true, true] = .ask (Row64 n f) (.ask (U.not (lk fewB n f k s h 300) = false) (.ask (Row64 n f ∧ I64 a) (.ask (Row64 n f ∧ I64 a)
    (.ask (U.ne (lk loV n f k s h L a) (lk loV n f k s h L a) = false) (.ask (U.ne (lk loA n f k s h L a) (lk loA n f k s h L a) = false) (.ask (U.ne (lk loE n f k s h L a) (lk loE n f k s h L a) = false)
    (.ask (Row64 n f) (.ask (Row64 n f) (.ask (Row64 n f) (.ask (Row64 n f) (.ask (U.eq (lk glV n f k s h L l a) (lk glV n f k s h L l a) = true) (.ask (U.eq (lk glE n f k s h L l a) (lk glE n f k s h L l a) = true)
    (.ask (lk SameP (lk pgN n f k s h L w) (lk pgN n f k s h L w) (lk pnF n f k s h L w) (lk pnF n f k s h L w)) (.ask (true = true) (.ask (U.eq (lk pgE n f k s h L w) (lk pgE n f k s h L w) = true) (.ret (.lit (.bool true)))))))))))))))))) := by kernel_rfl
end
theorem same_p (n : Nat) (f : Nat → R3) (k s h L w : Int) : SameP (pgN n f k s h L w) (pgN n f k s h L w) (pnF n f k s h L w) (pnF n f k s h L w) := by
  by_cases hl : lsE n f k s h L = 0
  rotate_left
  · obtain ⟨_, e2⟩ := pg_1 (w := w) hl
    rw [e2]
    exact ⟨rfl, by omega, fun i hi => absurd hi (Nat.not_lt_zero _)⟩
  by_cases hw : w < 1 ∨ 64 < w
  · obtain ⟨_, e2⟩ := pg_2 hl hw
    rw [e2]
    exact ⟨rfl, by omega, fun i hi => absurd hi (Nat.not_lt_zero _)⟩
  obtain ⟨_, e2⟩ := pg_3 hl hw
  rw [e2]
  obtain ⟨hd, h5⟩ := pa_ask hl
  have l8 := (dmE_zero.1 hd).2.1
  obtain ⟨W, rfl⟩ : ∃ W : Nat, w = (W : Int) := ⟨w.toNat, by omega⟩
  have hN : pnN n f k s h L W ≤ L.toNat * W + 0 := pcN_le _
  have lw : L.toNat * W ≤ 8 * 64 := Nat.mul_le_mul (by omega) (by omega)
  refine ⟨rfl, by omega, fun i hi => ⟨rfl, ?_⟩⟩
  show pcS (paF ((n, f), k, s, h, ()) L) W _ ≤ 100000
  generalize (pcQ (paF ((n, f), k, s, h, ()) L) (W : Int).toNat (L.toNat * (W : Int).toNat + (0 : Int).toNat)).getD i 0 = q
  refine Nat.le_trans (Nat.sub_le _ _) ?_
  refine Nat.le_trans (cut_le _ W (by omega) (Nat.mod_lt q (show W > 0 by omega))) ?_
  exact Nat.le_trans (partL_len (n := n) (f := f) (k := k) (s := s) (h := h) (L := L) ((q / W : Nat) : Int)) (by omega)
noncomputable def c_DmapNumbers : Con := fun args => match args with
  | [.agg [.row [.int .i64, .int .i64, .int .i64] n f, .lit (.int .i64 k), .lit (.int .i64 s), .lit (.int .i64 h)], .lit (.int .i64 L), .lit (.int .i64 l), .lit (.int .i64 a), .lit (.int .i64 w)] => .ask (Row64 n f ∧ I64 a) (.ret (.lit (.bool true)))
  | _ => .stuck 1
theorem DmapNumbers_ok : ConOK P 13 c_DmapNumbers := con_force (allOK mixed kNm_ok) 10 13 fun args r hh => by
  unfold c_DmapNumbers at hh
  split at hh
  · rename_i n f k s h L l a w
    obtain ⟨d, ia⟩ := (T.is_ask hh).1
    obtain rfl := T.is_ret (T.is_ask hh).2
    show ∃ b, (wNm n f k s h L l a w b).All fun v => Cl v (.lit (.bool true))
    by_cases h1 : fewB n f k s h 300 = true
    rotate_left
    · exact ⟨_, by rw [t_Nm1]; simp only [lk_eq]; exact ⟨d, U.not_t.mpr (by simpa using h1), .inl rfl⟩⟩
    exact ⟨_, by
      rw [t_Nm2]; simp only [lk_eq]
      exact ⟨d, U.not_f.mpr h1, ⟨d, ia⟩, ⟨d, ia⟩, U.ne_f.mpr rfl, U.ne_f.mpr rfl, U.ne_f.mpr rfl, d, d, d, d, U.eq_t.mpr rfl, U.eq_t.mpr rfl, same_p n f k s h L w, trivial, U.eq_t.mpr rfl, .inl rfl⟩⟩
  · exact hh.elim
end Go.RX.Span

