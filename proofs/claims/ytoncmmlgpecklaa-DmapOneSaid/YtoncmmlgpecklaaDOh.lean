/- The hash of an index: the walks. -/
import Derived.Test.YtoncmmlgpecklaaDOg
import Derived.Test.YtoncmmlgpecklaaDOb
set_option linter.unusedVariables false
set_option linter.unusedSimpArgs false
set_option maxRecDepth 100000
namespace Go.RX.Span
open Go Go.RX
attribute [local irreducible] sx conB

set_option maxRecDepth 100000 in
theorem t_dmod (a b : Int) : conB Go.Proofs.Try.prog (conOf []) noLoops 10 138 [.lit (.int .i64 a), .lit (.int .i64 b)] =
    T.ask (b ≠ (0 : Int)) (.br (U.lt (U.rem a b) (0 : Int)) (.ret (.lit (.int .i64 (U.add .i64 (U.rem a b) b)))) (.ret (.lit (.int .i64 (U.rem a b))))) := by kernel_rfl
set_option maxRecDepth 100000 in
theorem t_Hp (n0 : Nat) (n : Nat) (e : Nat → R1) (h i : Int) : (sx EHm [] n0 (loopOf P 53 3) (mkS 20 [3,6,7,8] [.lit (.int .i64 h), .row [.int .i64] n e, .lit (.int .i64 (n : Int)), .lit (.int .i64 i)], [])).bind (proj 20 [3,6,7,8]) =
    T.br (U.lt i (Int.ofNat n)) (.ask ((0 : Int) ≤ i ∧ i < ↑n) (.ask ((0 : Int) < (1000003 : Int) ∧ (1000003 : Int) ≤ (4000000 : Int) ∧ I64 (e (U.toNat i)).1) (.ask ((1000003 : Int) ≠
      (0 : Int)) (.ret (Ex.normal, [.lit (.int .i64 (U.rem (U.add .i64 (U.mul .i64 31 h) (lk emd (e (U.toNat i)).1 (1000003 : Int))) (1000003 : Int))), .row [.int .i64] n e, .lit (.int
      .i64 (Int.ofNat n)), .lit (.int .i64 (U.add .i64 i (1 : Int)))], []))))) (.ret (Ex.exit (nat_lit 0), [.lit (.int .i64 h), .row [.int .i64] n e, .lit (.int .i64 (Int.ofNat n)), .lit
      (.int .i64 i)], [])) := by kernel_rfl
set_option maxRecDepth 100000 in
theorem t_Hr (n0 : Nat) (n : Nat) (e : Nat → R1) (h i : Int) : (sx E0 [] n0 (loopOf P 54 3) (mkS 27 [0,3,4] [.row [.int .i64] n e, .lit (.int .i64 h), .lit (.int .i64 i)], [])).bind (proj 27 [0,3,4]) =
    T.br (U.lt i (Int.ofNat n)) (.ask ((0 : Int) ≤ i ∧ i < ↑n) (.ask ((1000003 : Int) ≠ (0 : Int)) (.br (U.lt (U.rem (e (U.toNat i)).1 (1000003 : Int)) (0 : Int)) (.ask ((1000003 : Int)
      ≠ (0 : Int)) (.ret (Ex.normal, [.row [.int .i64] n e, .lit (.int .i64 (U.rem (U.add .i64 (U.mul .i64 31 h) (U.add .i64 (U.rem (e (U.toNat i)).1 (1000003 : Int)) (1000003 : Int)))
      (1000003 : Int))), .lit (.int .i64 (U.add .i64 i (1 : Int)))], []))) (.ask ((1000003 : Int) ≠ (0 : Int)) (.ret (Ex.normal, [.row [.int .i64] n e, .lit (.int .i64 (U.rem (U.add .i64
      (U.mul .i64 31 h) (U.rem (e (U.toNat i)).1 (1000003 : Int))) (1000003 : Int))), .lit (.int .i64 (U.add .i64 i (1 : Int)))], [])))))) (.ret (Ex.exit (nat_lit 0), [.row [.int .i64] n
      e, .lit (.int .i64 h), .lit (.int .i64 i)], [])) := by kernel_rfl
end Go.RX.Span

/- The hash of an index: the contracts. -/
set_option linter.unusedVariables false
set_option linter.unusedSimpArgs false
set_option maxRecDepth 100000
namespace Go.RX.Span
open Go Go.RX
attribute [local irreducible] sx conB

theorem tm_em {a b : Int} (hb : 0 < b) : (a.tmod b < 0 → a.tmod b + b = emd a b) ∧ (¬ a.tmod b < 0 → a.tmod b = emd a b) ∧ -b < a.tmod b ∧ a.tmod b < b := by
  have h1 := Int.tmod_add_mul_tdiv a b
  have h2 : a.tmod b < b := Int.tmod_lt_of_pos _ hb
  have h3 : -b < a.tmod b := by
    have := Int.lt_tmod_of_pos a hb
    omega
  refine ⟨fun h => ?_, fun h => ?_, h3, h2⟩
  · have e : a = (a.tmod b + b) + b * (a.tdiv b - 1) := by rw [Int.mul_sub, Int.mul_one]; omega
    unfold emd
    conv => rhs; rw [e]
    rw [Int.add_mul_emod_self_left, Int.emod_eq_of_lt (by omega) (by omega)]
  · unfold emd
    conv => rhs; rw [← h1]
    rw [Int.add_mul_emod_self_left, Int.emod_eq_of_lt (by omega) h2]
theorem dmod_ok : ConOK P 138 c_dmod := con_of (allOK mixed none_ok) 10 138 fun args r h => by
  unfold c_dmod at h
  split at h
  · rename_i a b
    obtain ⟨h0, h1, h2⟩ := (T.is_ask h).1
    obtain rfl := T.is_ret (T.is_ask h).2
    obtain ⟨m1, m2, m3, m4⟩ := tm_em (a := a) h0
    rw [t_dmod]
    simp only [U.rem_eq, lk_eq]
    refine ⟨by omega, fun hn => ?_, fun hn => ?_⟩
    · have hn := U.lt_t.mp hn
      show SV.lit (.int .i64 (U.add .i64 (a.tmod b) b)) = _
      rw [U.add64 (by unfold I64; omega), m1 hn]
    · have hn := U.lt_f.mp hn
      show SV.lit (.int .i64 (a.tmod b)) = _
      rw [m2 (by omega)]
  · exact h.elim
theorem kHm_ok : ∀ p ∈ kHm, ConOK P p.1 p.2 := by
  intro p hp
  simp only [kHm, List.mem_singleton] at hp
  subst hp
  exact dmod_ok
theorem EHm_ok : EnvOK EHm := envOK (allOK mixed kHm_ok) 10
theorem hash_step (e : Nat → R1) (j : Nat) : U.rem (U.add .i64 (U.mul .i64 31 (hashN e j)) (emd (nv e j) 1000003)) 1000003 = hashN e (j + 1) := by
  have hb := hashN_bnd e j
  have e1 := Int.emod_nonneg (nv e j) (show (1000003 : Int) ≠ 0 by decide)
  have e2 := Int.emod_lt_of_pos (nv e j) (show (0 : Int) < 1000003 by decide)
  have em : emd (nv e j) 1000003 = nv e j % 1000003 := rfl
  rw [em, U.rem_eq, U.mul64 (by unfold I64; omega), U.add64 (by unfold I64; omega), Int.tmod_eq_emod_of_nonneg (by omega)]
  rfl
structure XH where
  (n : Nat) (e : Nat → R1) (j : Nat)
noncomputable abbrev VHp (q : XH) : Few := ([.lit (.int .i64 (hashN q.e q.j)), .row [.int .i64] q.n q.e, .lit (.int .i64 (q.n : Int)), .lit (.int .i64 (q.j : Int))], [])
noncomputable abbrev VHr (q : XH) : Few := ([.row [.int .i64] q.n q.e, .lit (.int .i64 (hashN q.e q.j)), .lit (.int .i64 (q.j : Int))], [])
noncomputable def OHp (q : XH) : Ex × Few := (.exit 0, VHp { q with j := q.n })
noncomputable def OHr (q : XH) : Ex × Few := (.exit 0, VHr { q with j := q.n })
def PhiH (n0 : Nat) (q : XH) : Prop := PreH n0 q.n q.e ∧ q.j ≤ q.n
theorem row1H {n : Nat} {f g : Nat → R1} (h : ∀ i, i < n → f i = g i) : sameRow n f g := ⟨eqShs_refl _, fun i hi => h i hi⟩
theorem tnH (j : Nat) : U.toNat (j : Int) = j := tn j
theorem roundHp (n0 : Nat) (q : XH) (hq : PhiH n0 q) : ((sx EHm [] n0 (loopOf P 53 3) (mkS 20 [3,6,7,8] (VHp q).1, (VHp q).2)).bind (proj 20 [3,6,7,8])).All fun r => match r.1 with
      | .normal => ∃ q', PhiH n0 q' ∧ q'.n - q'.j < q.n - q.j ∧ Wk 20 [3,6,7,8] n0 r.2 (VHp q') ∧ ∀ o, o = OHp q' → o = OHp q
      | e => ∃ s, (e, s) = OHp q ∧ Wk 20 [3,6,7,8] n0 r.2 s := by
  obtain ⟨n, e, j⟩ := q
  obtain ⟨⟨h0, hn, he⟩, hj⟩ := hq
  simp only [] at h0 hn he hj
  subst h0
  refine T.all_of_eq (t_Hp 0 n e (hashN e j) (j : Int)) ?_
  have e2 : U.add .i64 (j : Int) 1 = ((j + 1 : Nat) : Int) := by rw [U.add64 (by unfold I64; omega)]; omega
  simp only [tnH, e2, lk_eq]
  have w0 : ∀ {vs vs' : List SV}, RlL (idR 0) vs vs' → Wk 20 [3,6,7,8] 0 (vs, []) (vs', []) := fun h => wk_of (idR 0) rfl (Nat.zero_le _) (fun b hb => by omega) h trivial
  by_cases hlt : j < n
  · refine ⟨fun _ => ⟨⟨by omega, by omega⟩, ⟨by decide, by decide, he j hlt⟩, by decide, ⟨n, e, j + 1⟩, ⟨⟨rfl, hn, he⟩, by simp only []; omega⟩, by simp only []; omega, w0 ⟨?_, ⟨rfl, row1H fun _ _ => rfl⟩, rfl, rfl, trivial⟩, fun o ho => ho⟩, fun h => absurd (U.lt_f.mp h) (by simp only [Int.ofNat_eq_natCast]; omega)⟩
    show Value.int .i64 _ = Value.int .i64 _
    exact congrArg _ (hash_step e j)
  · obtain rfl : j = n := by omega
    exact ⟨fun h => absurd (U.lt_t.mp h) (by simp only [Int.ofNat_eq_natCast]; omega), fun _ => ⟨_, rfl, w0 ⟨rfl, ⟨rfl, row1H fun _ _ => rfl⟩, rfl, rfl, trivial⟩⟩⟩
theorem roundHr (n0 : Nat) (q : XH) (hq : PhiH n0 q) : ((sx E0 [] n0 (loopOf P 54 3) (mkS 27 [0,3,4] (VHr q).1, (VHr q).2)).bind (proj 27 [0,3,4])).All fun r => match r.1 with
      | .normal => ∃ q', PhiH n0 q' ∧ q'.n - q'.j < q.n - q.j ∧ Wk 27 [0,3,4] n0 r.2 (VHr q') ∧ ∀ o, o = OHr q' → o = OHr q
      | e => ∃ s, (e, s) = OHr q ∧ Wk 27 [0,3,4] n0 r.2 s := by
  obtain ⟨n, e, j⟩ := q
  obtain ⟨⟨h0, hn, he⟩, hj⟩ := hq
  simp only [] at h0 hn he hj
  subst h0
  refine T.all_of_eq (t_Hr 0 n e (hashN e j) (j : Int)) ?_
  have e2 : U.add .i64 (j : Int) 1 = ((j + 1 : Nat) : Int) := by rw [U.add64 (by unfold I64; omega)]; omega
  simp only [tnH, e2, lk_eq]
  have w0 : ∀ {vs vs' : List SV}, RlL (idR 0) vs vs' → Wk 27 [0,3,4] 0 (vs, []) (vs', []) := fun h => wk_of (idR 0) rfl (Nat.zero_le _) (fun b hb => by omega) h trivial
  by_cases hlt : j < n
  · obtain ⟨m1, m2, m3, m4⟩ := tm_em (a := nv e j) (b := 1000003) (by decide)
    have key : ∀ x, x = emd (nv e j) 1000003 → ∃ q' : XH, PhiH 0 q' ∧ q'.n - q'.j < n - j ∧ Wk 27 [0,3,4] 0 ([.row [.int .i64] n e, .lit (.int .i64 (U.rem (U.add .i64 (U.mul .i64 31 (hashN e j)) x) 1000003)), .lit (.int .i64 ((j + 1 : Nat) : Int))], []) (VHr q') ∧ ∀ o, o = OHr q' → o = OHr ⟨n, e, j⟩ := fun x hx => by
      subst hx
      refine ⟨⟨n, e, j + 1⟩, ⟨⟨rfl, hn, he⟩, by simp only []; omega⟩, by simp only []; omega, w0 ⟨⟨rfl, row1H fun _ _ => rfl⟩, ?_, rfl, trivial⟩, fun o ho => ho⟩
      show Value.int .i64 _ = Value.int .i64 _
      exact congrArg _ (hash_step e j)
    refine ⟨fun _ => ⟨⟨by omega, by omega⟩, by decide, fun hh => ⟨by decide, ?_⟩, fun hh => ⟨by decide, ?_⟩⟩, fun h => absurd (U.lt_f.mp h) (by simp only [Int.ofNat_eq_natCast]; omega)⟩
    · refine key _ ?_
      have hh : U.rem (nv e j) 1000003 < 0 := U.lt_t.mp hh
      rw [U.rem_eq] at hh
      show U.add .i64 (U.rem (nv e j) 1000003) 1000003 = _
      rw [U.rem_eq, U.add64 (by unfold I64; omega), m1 hh]
    · refine key _ ?_
      have hh : 0 ≤ U.rem (nv e j) 1000003 := U.lt_f.mp hh
      rw [U.rem_eq] at hh
      show U.rem (nv e j) 1000003 = _
      rw [U.rem_eq, m2 (by omega)]
  · obtain rfl : j = n := by omega
    exact ⟨fun h => absurd (U.lt_t.mp h) (by simp only [Int.ofNat_eq_natCast]; omega), fun _ => ⟨_, rfl, w0 ⟨⟨rfl, row1H fun _ _ => rfl⟩, rfl, rfl, trivial⟩⟩⟩
theorem loopHp : LoopOK P (loopOf P 53 3) (few 20 [3,6,7,8] gHp) :=
  loop_few (E := EHm) mixed EHm_ok loopsOK_none 20 [3,6,7,8] (X := XH) gHp (fun _ x => VHp x) PhiH (fun q => q.n - q.j) (fun _ x o => o = OHp x)
    (fun n0 st r h => by
      unfold gHp at h
      split at h
      · rename_i n0 n e N'
        obtain ⟨hp, rfl⟩ := (T.is_ask h).1
        obtain rfl := T.is_ret (T.is_ask h).2
        rw [lk_eq] at hp
        have h0 := hp.1
        subst h0
        exact ⟨⟨n, e, 0⟩, ⟨hp, Nat.zero_le _⟩, wk_of (idR 0) rfl (Nat.zero_le _) (fun b hb => by omega) ⟨rfl, ⟨rfl, row1H fun _ _ => rfl⟩, rfl, rfl, trivial⟩ trivial, fun o ho => by rw [ho]; simp only [lk_eq]; rfl⟩
      · exact h.elim)
    roundHp
theorem loopHr : LoopOK P (loopOf P 54 3) (few 27 [0,3,4] gHr) :=
  loop_few (E := E0) mixed E0_ok loopsOK_none 27 [0,3,4] (X := XH) gHr (fun _ x => VHr x) PhiH (fun q => q.n - q.j) (fun _ x o => o = OHr x)
    (fun n0 st r h => by
      unfold gHr at h
      split at h
      · rename_i n0 n e
        have hp := (T.is_ask h).1
        obtain rfl := T.is_ret (T.is_ask h).2
        rw [lk_eq] at hp
        have h0 := hp.1
        subst h0
        exact ⟨⟨n, e, 0⟩, ⟨hp, Nat.zero_le _⟩, wk_of (idR 0) rfl (Nat.zero_le _) (fun b hb => by omega) ⟨⟨rfl, row1H fun _ _ => rfl⟩, rfl, rfl, trivial⟩ trivial, fun o ho => by rw [ho]; simp only [lk_eq]; rfl⟩
      · exact h.elim)
    roundHr
theorem lHp_ok : ∀ p ∈ lHp, LoopsOK P p.2 (bodyOf P p.1) := by
  intro p hp
  simp only [lHp, List.mem_singleton] at hp
  subst hp
  refine loopsOK_of (by kernel_rfl) fun k g hk => ?_
  simp only [List.mem_singleton, Prod.mk.injEq, LoopC.sum.injEq] at hk
  obtain ⟨rfl, rfl⟩ := hk
  exact loopHp
theorem lHr_ok : ∀ p ∈ lHr, LoopsOK P p.2 (bodyOf P p.1) := by
  intro p hp
  simp only [lHr, List.mem_singleton] at hp
  subst hp
  refine loopsOK_of (by kernel_rfl) fun k g hk => ?_
  simp only [List.mem_singleton, Prod.mk.injEq, LoopC.sum.injEq] at hk
  obtain ⟨rfl, rfl⟩ := hk
  exact loopHr
end Go.RX.Span

/- The hash of an index: the functions. -/
set_option linter.unusedVariables false
set_option linter.unusedSimpArgs false
set_option maxRecDepth 100000
namespace Go.RX.Span
open Go Go.RX
attribute [local irreducible] sx conB

--%R ↑n = ↑n => ((n : Nat) : Int) = ((n : Nat) : Int)
set_option maxRecDepth 100000 in
theorem t_Hash (n : Nat) (e : Nat → R1) : conB Go.Proofs.Try.prog (conOf kHm) (loopsOf lHp) 10 53 [.row [.int .i64] n e] =
    T.ask (lk PreH (nat_lit 0) n e ∧ ((n : Nat) : Int) = ((n : Nat) : Int)) (.ret (.lit (.int .i64 (lk hashN e n)))) := by kernel_rfl
set_option maxRecDepth 100000 in
theorem t_qHash (n : Nat) (e : Nat → R1) : conB Go.Proofs.Try.prog (conOf []) (loopsOf lHr) 10 54 [.row [.int .i64] n e] =
    T.ask (lk PreH (nat_lit 0) n e) (.ret (.lit (.int .i64 (lk hashN e n)))) := by kernel_rfl
theorem Hash_ok : ConOK P 53 c_Hash := con_of (allOKL mixed kHm_ok lHp_ok) 10 53 fun args r h => by
  unfold c_Hash at h
  split at h
  · rename_i n e
    obtain ⟨h1, h2⟩ := (T.is_ask h).1
    obtain rfl := T.is_ret (T.is_ask h).2
    rw [t_Hash]
    simp only [lk_eq]
    exact ⟨⟨⟨rfl, h1, h2⟩, trivial⟩, rfl⟩
  · exact h.elim
theorem qHash_ok : ConOK P 54 c_Hash := con_of (allOKL mixed none_ok lHr_ok) 10 54 fun args r h => by
  unfold c_Hash at h
  split at h
  · rename_i n e
    obtain ⟨h1, h2⟩ := (T.is_ask h).1
    obtain rfl := T.is_ret (T.is_ask h).2
    rw [t_qHash]
    simp only [lk_eq]
    exact ⟨⟨rfl, h1, h2⟩, rfl⟩
  · exact h.elim
end Go.RX.Span

/- Domain maps: contracts of the small functions. -/
set_option linter.unusedVariables false
set_option linter.unusedSimpArgs false
set_option maxRecDepth 100000
namespace Go.RX.Span
open Go Go.RX
attribute [local irreducible] sx conB

noncomputable abbrev kU0 : List (Nat × Con) := [(63, c_DCheck), (41, c_DSize), (88, c_DHas), (68, c_DNth), (120, c_Position), (28, c_Size), (53, c_Hash), (172, c_DAll)] --%K
theorem kU0_ok : ∀ p ∈ kU0, ConOK P p.1 p.2 := by
  intro p hp
  simp only [kU0, List.mem_cons, List.not_mem_nil, or_false] at hp
  rcases hp with rfl | rfl | rfl | rfl | rfl | rfl | rfl | rfl
  · exact DCheck_ok
  · exact DSize_ok
  · exact DHas_ok
  · exact DNth_ok
  · exact Position_ok
  · exact Size_ok
  · exact Hash_ok
  · exact DAll_ok
noncomputable abbrev kQ0 : List (Nat × Con) := [(86, c_DCheck), (87, c_DSize), (89, c_DHas), (84, c_DNth), (166, c_Position), (143, c_Size), (54, c_Hash)] --%K
theorem kQ0_ok : ∀ p ∈ kQ0, ConOK P p.1 p.2 := by
  intro p hp
  simp only [kQ0, List.mem_cons, List.not_mem_nil, or_false] at hp
  rcases hp with rfl | rfl | rfl | rfl | rfl | rfl | rfl
  · exact qCheck_ok
  · exact qSize_ok
  · exact qHas_ok
  · exact qNth_ok
  · exact rPosition_ok
  · exact rSize_ok
  · exact qHash_ok
noncomputable def c_dmCheck : Con := fun args => match args with
  | [.agg [.row [.int .i64, .int .i64, .int .i64] n f, .lit (.int .i64 k), .lit (.int .i64 s), .lit (.int .i64 h)], .lit (.int .i64 L)] => .ask (Row64 n f) (.ret (.lit (.int .i64 (lk dmE n f k s h L))))
  | _ => .stuck 1
/-- The error where a list is made. -/
def lsE (n : Nat) (f : Nat → R3) (k s h L : Int) : Int := if dmE n f k s h L ≠ 0 then dmE n f k s h L else if 5000 < szD n f k s h then 7 else 0
/-- The same, with a locale. -/
def lcE (n : Nat) (f : Nat → R3) (k s h L l : Int) : Int := if lsE n f k s h L ≠ 0 then lsE n f k s h L else if l < 0 ∨ L ≤ l then 4 else 0
noncomputable def c_listed : Con := fun args => match args with
  | [.agg [.row [.int .i64, .int .i64, .int .i64] n f, .lit (.int .i64 k), .lit (.int .i64 s), .lit (.int .i64 h)], .lit (.int .i64 L)] => .ask (Row64 n f) (.ret (.lit (.int .i64 (lk lsE n f k s h L))))
  | _ => .stuck 1
noncomputable def c_located : Con := fun args => match args with
  | [.agg [.row [.int .i64, .int .i64, .int .i64] n f, .lit (.int .i64 k), .lit (.int .i64 s), .lit (.int .i64 h)], .lit (.int .i64 L), .lit (.int .i64 l)] => .ask (Row64 n f) (.ret (.lit (.int .i64 (lk lcE n f k s h L l))))
  | _ => .stuck 1
/-- The second number of an index, or 0. -/
def prY (n : Nat) (e : Nat → R1) : Int := if n = 1 then 0 else nv e 1
noncomputable def c_pair : Con := fun args => match args with
  | [.row [.int .i64] n e] => .ask (n = 1 ∨ n = 2) (.ret (.agg [.lit (.int .i64 (lk nv e 0)), .lit (.int .i64 (lk prY n e))]))
  | _ => .stuck 1
def OwAsk (n : Nat) (f : Nat → R3) (k s h L x y : Int) : Prop := dmE n f k s h L = 0 ∧ hasR (f 0) x = true ∧ I64 y
noncomputable def c_owner : Con := fun args => match args with
  | [.agg [.row [.int .i64, .int .i64, .int .i64] n f, .lit (.int .i64 k), .lit (.int .i64 s), .lit (.int .i64 h)], .lit (.int .i64 L), .agg [.lit (.int .i64 x), .lit (.int .i64 y)]] =>
    .ask (lk OwAsk n f k s h L x y) (.ret (.lit (.int .i64 (lk owX n f k s h L (lk ixF x y)))))
  | _ => .stuck 1
end Go.RX.Span

/- Domain maps: the small functions. -/
set_option linter.unusedVariables false
set_option linter.unusedSimpArgs false
set_option maxRecDepth 100000
namespace Go.RX.Span
open Go Go.RX
attribute [local irreducible] sx conB

--%R ofList\s+\[\((\S+),\s+\(\)\) => ofList (ss := [.int .i64]) [(\1, ())
--%R ↑\((2) : Nat\) => ((\1 : Nat) : Int)
--%R ↑\(\(0 : Nat\) \+ n \+ \(1 : Nat\)\) => (((0 : Nat) + n + (1 : Nat) : Nat) : Int)
set_option maxRecDepth 100000 in
theorem t_dmCheck (n : Nat) (f : Nat → R3) (k s h L : Int) : conB Go.Proofs.Try.prog (conOf kU0) noLoops 10 40 [.agg [.row [.int .i64, .int .i64, .int .i64] n f, .lit (.int .i64 k), .lit (.int .i64 s), .lit (.int .i64 h)], .lit (.int .i64 L)] =
    T.br (U.lt L (1 : Int)) (.ret (.lit (.int .i64 4))) (.br (U.gt L (8 : Int)) (.ret (.lit (.int .i64 4))) (.ask (Row64 n f) (.br (U.ne (lk chD n f k s h) (0 : Int)) (.ret (.lit (.int
      .i64 (lk chD n f k s h)))) (.br (U.eq k (0 : Int)) (.br (U.ge h L) (.ret (.lit (.int .i64 70))) (.ret (.lit (.int .i64 0)))) (.ret (.lit (.int .i64 0))))))) := by kernel_rfl
set_option maxRecDepth 100000 in
theorem t_listed (n : Nat) (f : Nat → R3) (k s h L : Int) : conB Go.Proofs.Try.prog (conOf ((40, c_dmCheck) :: kU0)) noLoops 10 129 [.agg [.row [.int .i64, .int .i64, .int .i64] n f, .lit (.int .i64 k), .lit (.int .i64 s), .lit (.int .i64 h)], .lit (.int .i64 L)] =
    T.ask (Row64 n f) (.br (U.ne (lk dmE n f k s h L) (0 : Int)) (.ret (.lit (.int .i64 (lk dmE n f k s h L)))) (.ask (Row64 n f) (.br (U.gt (lk szD n f k s h) (5000 : Int)) (.ret (.lit
      (.int .i64 7))) (.ret (.lit (.int .i64 0)))))) := by kernel_rfl
set_option maxRecDepth 100000 in
theorem t_located (n : Nat) (f : Nat → R3) (k s h L l : Int) : conB Go.Proofs.Try.prog (conOf [(129, c_listed)]) noLoops 10 134 [.agg [.row [.int .i64, .int .i64, .int .i64] n f, .lit (.int .i64 k), .lit (.int .i64 s), .lit (.int .i64 h)], .lit (.int .i64 L), .lit (.int .i64 l)] =
    T.ask (Row64 n f) (.br (U.ne (lk lsE n f k s h L) (0 : Int)) (.ret (.lit (.int .i64 (lk lsE n f k s h L)))) (.br (U.lt l (0 : Int)) (.ret (.lit (.int .i64 4))) (.br (U.ge l L) (.ret
      (.lit (.int .i64 4))) (.ret (.lit (.int .i64 0)))))) := by kernel_rfl
set_option maxRecDepth 100000 in
theorem t_owner (n : Nat) (f : Nat → R3) (k s h L x y : Int) : conB Go.Proofs.Try.prog (conOf kU0) noLoops 10 135 [.agg [.row [.int .i64, .int .i64, .int .i64] n f, .lit (.int .i64 k), .lit (.int .i64 s), .lit (.int .i64 h)], .lit (.int .i64 L), .agg [.lit (.int .i64 x), .lit (.int .i64 y)]] =
    T.ask ((0 : Int) ≤ (0 : Int) ∧ (0 : Int) < ↑n) (.ask (I64 (f (U.toNat (0 : Int))).1 ∧ I64 (f (U.toNat (0 : Int))).2.1 ∧ I64 (f (U.toNat (0 : Int))).2.2.1) (.br (U.eq k (0 : Int))
      (.ret (.lit (.int .i64 h))) (.br (U.eq k (1 : Int)) (.ask ((0 : Int) ≤ (0 : Int) ∧ (0 : Int) < ↑n) (.ask (I64 (f (U.toNat (0 : Int))).1 ∧ I64 (f (U.toNat (0 : Int))).2.1 ∧ I64 (f
      (U.toNat (0 : Int))).2.2.1) (.ask (lk size (f (U.toNat (0 : Int))).1 (f (U.toNat (0 : Int))).2.1 (f (U.toNat (0 : Int))).2.2.1 ≠ (0 : Int)) (.ret (.lit (.int .i64 (U.quo .i64 (U.mul
      .i64 (lk pos (f (U.toNat (0 : Int))).1 (f (U.toNat (0 : Int))).2.1 (f (U.toNat (0 : Int))).2.2.1 x) L) (lk size (f (U.toNat (0 : Int))).1 (f (U.toNat (0 : Int))).2.1 (f (U.toNat (0
      : Int))).2.2.1)))))))) (.br (U.eq k (2 : Int)) (.ask (L ≠ (0 : Int)) (.ret (.lit (.int .i64 (U.rem (lk pos (f (U.toNat (0 : Int))).1 (f (U.toNat (0 : Int))).2.1 (f (U.toNat (0 :
      Int))).2.2.1 x) L))))) (.br (U.eq k (3 : Int)) (.ask (s ≠ (0 : Int)) (.ask (L ≠ (0 : Int)) (.ret (.lit (.int .i64 (U.rem (U.quo .i64 (lk pos (f (U.toNat (0 : Int))).1 (f (U.toNat (0
      : Int))).2.1 (f (U.toNat (0 : Int))).2.2.1 x) s) L)))))) (.br (U.eq k (4 : Int)) (.ask ((0 : Int) ≤ Int.ofNat n ∧ Int.ofNat n ≤ ((2 : Nat) : Int)) (.ask (U.toNat (Int.ofNat n) ≤
      (1000000 : Nat) ∧ I64s (U.toNat (Int.ofNat n)) (ofList (ss := [.int .i64]) [(y, ()), (x, ())].reverse)) (.ask (L ≠ (0 : Int)) (.ret (.lit (.int .i64 (U.rem (lk hashN (ofList (ss :=
      [.int .i64]) [(y, ()), (x, ())].reverse) (U.toNat (Int.ofNat n))) L))))))) (.stuck (nat_lit 41)))))))) := by kernel_rfl
set_option maxRecDepth 100000 in
theorem t_pair (n : Nat) (e : Nat → R1) : conB Go.Proofs.Try.prog (conOf []) noLoops 10 136 [.row [.int .i64] n e] =
    T.ask ((0 : Nat) < n) (.ask (((0 : Nat) + n) * nat_lit 8 ≤ nat_lit 140737488351232) (.ask (((0 : Nat) + n + (1 : Nat)) * nat_lit 8 ≤ nat_lit 140737488351232) (.ask ((0 : Int) ≤ (0 :
      Int) ∧ (0 : Int) ≤ (2 : Int) ∧ (2 : Int) ≤ (((0 : Nat) + n + (1 : Nat) : Nat) : Int)) (.ask (nat_lit 1 + (1 : Nat) ≤ U.toNat (2 : Int)) (.ret (.agg [.lit (.int .i64 (cutF none
      (U.cat ((0 : Nat) + n) (U.cat (0 : Nat) (fun x => zeroEs [.int .i64]) (castEls rfl e)) (ofList [((0 : Int), ())].reverse)) (0 : Int) (0 : Nat)).1), .lit (.int .i64 (cutF none (U.cat
      ((0 : Nat) + n) (U.cat (0 : Nat) (fun x => zeroEs [.int .i64]) (castEls rfl e)) (ofList [((0 : Int), ())].reverse)) (0 : Int) ((0 : Nat) + (1 : Nat))).1)])))))) := by kernel_rfl
theorem tnO0 : U.toNat (0 : Int) = 0 := tn 0
theorem tnOf (n : Nat) : U.toNat (Int.ofNat n) = n := tn n
theorem dmCheck_ok : ConOK P 40 c_dmCheck := con_of (allOK mixed kU0_ok) 10 40 fun args r h => by
  unfold c_dmCheck at h
  split at h
  · rename_i n f k s h' L
    have d := (T.is_ask h).1
    obtain rfl := T.is_ret (T.is_ask h).2
    rw [t_dmCheck]
    simp only [lk_eq]
    have key : ∀ x, x = dmE n f k s h' L → (SV.lit (.int .i64 x)) = SV.lit (.int .i64 (dmE n f k s h' L)) := fun x hx => by rw [hx]
    refine ⟨fun g => key _ ?_, fun g => ⟨fun g2 => key _ ?_, fun g2 => ⟨d, fun g3 => key _ ?_, fun g3 => ⟨fun g4 => ⟨fun g5 => key _ ?_, fun g5 => key _ ?_⟩, fun g4 => key _ ?_⟩⟩⟩⟩
    all_goals unfold dmE
    · have := U.lt_t.mp g; rw [if_pos (by omega)]
    · have := U.gt_t.mp g2; rw [if_pos (by omega)]
    · have a := U.lt_f.mp g; have b := U.gt_f.mp g2; have c := U.ne_t.mp g3
      rw [if_neg (by omega), if_pos c]
    · have a := U.lt_f.mp g; have b := U.gt_f.mp g2; have c := U.ne_f.mp g3
      have e := U.eq_t.mp g4; have e2 := U.ge_t.mp g5
      rw [if_neg (by omega), if_neg (by simp [c]), if_pos (by omega)]
    · have a := U.lt_f.mp g; have b := U.gt_f.mp g2; have c := U.ne_f.mp g3
      have e := U.eq_t.mp g4; have e2 := U.ge_f.mp g5
      rw [if_neg (by omega), if_neg (by simp [c]), if_neg (by omega)]
    · have a := U.lt_f.mp g; have b := U.gt_f.mp g2; have c := U.ne_f.mp g3
      have e := U.eq_f.mp g4
      rw [if_neg (by omega), if_neg (by simp [c]), if_neg (fun w => e w.1)]
  · exact h.elim
noncomputable abbrev kU1 : List (Nat × Con) := (40, c_dmCheck) :: kU0 --%K
theorem kU1_ok : ∀ p ∈ kU1, ConOK P p.1 p.2 := by
  intro p hp
  simp only [kU1, List.mem_cons] at hp
  rcases hp with rfl | hp
  · exact dmCheck_ok
  · exact kU0_ok p (by simpa [kU0] using hp)
theorem listed_ok : ConOK P 129 c_listed := con_of (allOK mixed kU1_ok) 10 129 fun args r h => by
  unfold c_listed at h
  split at h
  · rename_i n f k s h' L
    have d := (T.is_ask h).1
    obtain rfl := T.is_ret (T.is_ask h).2
    refine T.all_of_eq (t_listed n f k s h' L) ?_
    simp only [lk_eq]
    have key : ∀ x, x = lsE n f k s h' L → (SV.lit (.int .i64 x)) = SV.lit (.int .i64 (lsE n f k s h' L)) := fun x hx => by rw [hx]
    refine ⟨d, fun g => key _ ?_, fun g => ⟨d, fun g2 => key _ ?_, fun g2 => key _ ?_⟩⟩
    all_goals unfold lsE
    · have a := U.ne_t.mp g; rw [if_pos a]
    · have a := U.ne_f.mp g; have b := U.gt_t.mp g2; rw [if_neg (by simp [a]), if_pos b]
    · have a := U.ne_f.mp g; have b := U.gt_f.mp g2; rw [if_neg (by simp [a]), if_neg (by omega)]
  · exact h.elim
theorem kL1_ok : ∀ p ∈ [(129, c_listed)], ConOK P p.1 p.2 := by
  intro p hp
  simp only [List.mem_singleton] at hp
  subst hp
  exact listed_ok
theorem located_ok : ConOK P 134 c_located := con_of (allOK mixed kL1_ok) 10 134 fun args r h => by
  unfold c_located at h
  split at h
  · rename_i n f k s h' L l
    have d := (T.is_ask h).1
    obtain rfl := T.is_ret (T.is_ask h).2
    rw [t_located]
    simp only [lk_eq]
    have key : ∀ x, x = lcE n f k s h' L l → (SV.lit (.int .i64 x)) = SV.lit (.int .i64 (lcE n f k s h' L l)) := fun x hx => by rw [hx]
    refine ⟨d, fun g => key _ ?_, fun g => ⟨fun g2 => key _ ?_, fun g2 => ⟨fun g3 => key _ ?_, fun g3 => key _ ?_⟩⟩⟩
    all_goals unfold lcE
    · have a := U.ne_t.mp g; rw [if_pos a]
    · have a := U.ne_f.mp g; have b := U.lt_t.mp g2; rw [if_neg (by simp [a]), if_pos (by omega)]
    · have a := U.ne_f.mp g; have b := U.lt_f.mp g2; have c := U.ge_t.mp g3; rw [if_neg (by simp [a]), if_pos (by omega)]
    · have a := U.ne_f.mp g; have b := U.lt_f.mp g2; have c := U.ge_f.mp g3; rw [if_neg (by simp [a]), if_neg (by omega)]
  · exact h.elim
end Go.RX.Span

/- Domain maps: the owner of an index. -/
set_option linter.unusedVariables false
set_option linter.unusedSimpArgs false
set_option maxRecDepth 100000
namespace Go.RX.Span
open Go Go.RX
attribute [local irreducible] sx conB

section
variable {e z g : Nat → R1} {n : Nat}
theorem pr_0 (h : 0 < n) : nv (U.cat (0 + n) (U.cat 0 z e) g) 0 = nv e 0 := by
  show (U.cat (0 + n) (U.cat 0 z e) g 0).1 = _
  rw [U.cat_eq, if_pos (by omega), U.cat_eq, if_neg (by omega)]; rfl
theorem pr_1 (h : 1 < n) : nv (U.cat (0 + n) (U.cat 0 z e) g) (0 + 1) = nv e 1 := by
  show (U.cat (0 + n) (U.cat 0 z e) g (0 + 1)).1 = _
  rw [U.cat_eq, if_pos (by omega), U.cat_eq, if_neg (by omega)]; rfl
theorem pr_2 (h : n = 1) : nv (U.cat (0 + n) (U.cat 0 z e) g) (0 + 1) = nv g 0 := by
  subst h
  show (U.cat (0 + 1) (U.cat 0 z e) g (0 + 1)).1 = _
  rw [U.cat_eq, if_neg (by omega)]; rfl
end
theorem pair_ok : ConOK P 136 c_pair := con_of (allOK mixed none_ok) 10 136 fun args r h => by
  unfold c_pair at h
  split at h
  · rename_i n e
    have hn := (T.is_ask h).1
    obtain rfl := T.is_ret (T.is_ask h).2
    rw [t_pair]
    simp only [lk_eq]
    have key : ∀ x y, x = nv e 0 → y = prY n e → SV.agg [.lit (.int .i64 x), .lit (.int .i64 y)] = SV.agg [.lit (.int .i64 (nv e 0)), .lit (.int .i64 (prY n e))] := fun x y h1 h2 => by rw [h1, h2]
    refine ⟨by omega, by omega, by omega, ⟨by omega, by omega, by omega⟩, by rw [show U.toNat (2 : Int) = 2 from tn 2]; exact Nat.le_refl _, key _ _ ?_ ?_⟩
    · exact pr_0 (by omega)
    · unfold prY
      rcases hn with rfl | rfl
      · rw [if_pos rfl]; exact pr_2 rfl
      · rw [if_neg (by omega)]; exact pr_1 (by omega)
  · exact h.elim
/-- The k of a right map. -/
theorem fit_k {k s h : Int} (hf : fitB k s h = true) : k = 0 ∨ k = 1 ∨ k = 2 ∨ (k = 3 ∧ 1 ≤ s ∧ s ≤ 1000) ∨ k = 4 := by
  have := of_decide_eq_true hf
  omega
theorem posR_lt {r : R3} (h : RR r) {v : Int} (hv : hasR r v = true) : 0 ≤ posR r v ∧ posR r v < szR r := by
  have e : posR r v = (v - rA r) / rC r := by
    show pos (rA r) (rB r) (rC r) v = _
    unfold pos
    rw [if_pos hv, if_neg (by have := h.2; omega)]
  obtain ⟨_, h1, h2, _⟩ := (of_decide_eq_true hv : chk (rA r) (rB r) (rC r) = 0 ∧ rA r ≤ v ∧ v ≤ rB r ∧ (v - rA r) % rC r = 0)
  have h2' := h.2
  rw [(rr_size h).1, e]
  unfold ofC
  rw [if_neg (by omega), if_neg (by omega)]
  have := Int.ediv_le_ediv h2' (show v - rA r ≤ rB r - rA r by omega)
  exact ⟨Int.ediv_nonneg (by omega) (by omega), by omega⟩
theorem ixF_congr (n : Nat) (e : Nat → R1) (hn : n = 1 ∨ n = 2) : ∀ i, i < n → nv (ixF (nv e 0) (prY n e)) i = nv e i := fun i hi => by
  rcases (show i = 0 ∨ i = 1 by omega) with rfl | rfl
  · rfl
  · show prY n e = _
    unfold prY; rw [if_neg (by omega)]
section
variable {n : Nat} {f : Nat → R3} {k s h L : Int}
theorem mul_small {q : Int} (h0 : 0 ≤ q) (h1 : q ≤ 5000000) (l0 : 0 ≤ L) (l8 : L ≤ 8) : I64 (q * L) := by
  have a := Int.mul_nonneg h0 l0
  have b := Int.mul_le_mul h1 l8 l0 (by omega)
  unfold I64; omega
theorem quo_pos {a b : Int} (ha : 0 ≤ a) (hb : 0 < b) (hl : a ≤ 9223372036854775807) : U.quo .i64 a b = a.tdiv b := by
  rw [U.quo_eq]
  have e := Int.tdiv_eq_ediv_of_nonneg ha (b := b)
  have h1 := Int.ediv_nonneg ha (show 0 ≤ b by omega)
  have h2 := Int.ediv_le_self b ha
  rw [e]
  have := U.add64 (a := a / b) (b := 0) (by unfold I64; omega)
  rw [U.add_eq, Int.add_zero] at this
  exact this
/-- What the five functions return. -/
theorem ow_0 (hk : k = 0) (q : Int) (e : Nat → R1) : owQ n f k s h L q e = h := by unfold owQ; rw [if_pos hk]
theorem ow_1 (hk : k = 1) (q : Int) (e : Nat → R1) (l1 : 0 ≤ L) (l8 : L ≤ 8) (h0 : 0 ≤ q) (h1 : q ≤ 5000000) (hs : 0 < szR (f 0)) : U.quo .i64 (U.mul .i64 q L) (szR (f 0)) = owQ n f k s h L q e := by
  have m := mul_small h0 h1 l1 l8
  unfold owQ
  rw [if_neg (by omega), if_pos hk, U.mul64 m, quo_pos (Int.mul_nonneg h0 l1) hs (by unfold I64 at m; omega)]
theorem ow_2 (hk : k = 2) (q : Int) (e : Nat → R1) : U.rem q L = owQ n f k s h L q e := by
  unfold owQ
  rw [if_neg (by omega), if_neg (by omega), if_pos hk, U.rem_eq]
theorem ow_3 (hk : k = 3) (q : Int) (e : Nat → R1) (h0 : 0 ≤ q) (h1 : q ≤ 5000000) (hs : 0 < s) : U.rem (U.quo .i64 q s) L = owQ n f k s h L q e := by
  unfold owQ
  rw [if_neg (by omega), if_neg (by omega), if_neg (by omega), if_pos hk, U.rem_eq, quo_pos h0 hs (by omega)]
theorem ow_4 (hk : k = 4) (q : Int) (e : Nat → R1) : U.rem (hashN e n) L = owQ n f k s h L q e := by
  unfold owQ
  rw [if_neg (by omega), if_neg (by omega), if_neg (by omega), if_neg (by omega), U.rem_eq]
end
theorem owner_ok : ConOK P 135 c_owner := con_of (allOK mixed kU0_ok) 10 135 fun args r h => by
  unfold c_owner at h
  split at h
  · rename_i n f k s h' L x y
    obtain ⟨hd, hx, iy⟩ := (lk_eq OwAsk ▸ (T.is_ask h).1 : OwAsk n f k s h' L x y)
    obtain rfl := T.is_ret (T.is_ask h).2
    obtain ⟨l1, l8, hc, hl⟩ := dmE_zero.1 hd
    obtain ⟨d1, fit⟩ := chD_zero.1 hc
    have hn := d1.1
    have r0 := d1.2 0 (by omega)
    have i0 := rr_64 r0
    obtain ⟨q0, q1⟩ := posR_lt r0 hx
    have hsz := rr_size r0
    have q5 : posR (f 0) x ≤ 5000000 := by omega
    have s0 : 0 < szR (f 0) := by omega
    have ix : I64 x := by
      obtain ⟨_, h1, h2, _⟩ := (of_decide_eq_true hx : chk (rA (f 0)) (rB (f 0)) (rC (f 0)) = 0 ∧ rA (f 0) ≤ x ∧ x ≤ rB (f 0) ∧ (x - rA (f 0)) % rC (f 0) = 0)
      obtain ⟨a1, a2, _⟩ := i0
      unfold I64 at *; omega
    refine T.all_of_eq (t_owner n f k s h' L x y) ?_
    simp only [lk_eq, tnO0, tnOf]
    have key : ∀ v, v = owQ n f k s h' L (posR (f 0) x) (ixF x y) → SV.lit (.int .i64 v) = SV.lit (.int .i64 (owX n f k s h' L (ixF x y))) := fun v hv => by rw [hv]; rfl
    refine ⟨⟨by omega, by omega⟩, i0, fun g => key _ (ow_0 (U.eq_t.mp g) _ _).symm, fun g0 => ⟨fun g => ⟨⟨by omega, by omega⟩, i0, ?_, key _ (ow_1 (U.eq_t.mp g) _ _ (by omega) l8 q0 q5 s0)⟩,
      fun g1 => ⟨fun g => ⟨by omega, key _ (ow_2 (U.eq_t.mp g) _ _)⟩, fun g2 => ⟨fun g => ⟨?_, by omega, key _ (ow_3 (U.eq_t.mp g) _ _ q0 q5 ?_)⟩,
      fun g3 => ⟨fun g => ⟨⟨Int.natCast_nonneg n, ?_⟩, ⟨by omega, ?_⟩, by omega, key _ (ow_4 (U.eq_t.mp g) _ _)⟩, fun g4 => ?_⟩⟩⟩⟩⟩
    · show szR (f 0) ≠ 0
      omega
    · have := fit_k fit; have e := U.eq_t.mp g; omega
    · have := fit_k fit; have e := U.eq_t.mp g; omega
    · simp only [Int.ofNat_eq_natCast]; omega
    · intro i hi
      rcases (show i = 0 ∨ i = 1 by omega) with rfl | rfl
      · exact ix
      · exact iy
    · have := fit_k fit
      have a0 := U.eq_f.mp g0; have a1 := U.eq_f.mp g1; have a2 := U.eq_f.mp g2; have a3 := U.eq_f.mp g3; have a4 := U.eq_f.mp g4
      omega
  · exact h.elim
end Go.RX.Span

/- Domain maps: Owner and OwnerAt, of the program and of the reference. -/
set_option linter.unusedVariables false
set_option linter.unusedSimpArgs false
set_option maxRecDepth 100000
namespace Go.RX.Span
open Go Go.RX
attribute [local irreducible] sx conB

section
variable (n : Nat) (f : Nat → R3) (k s h L : Int) (m : Nat) (e : Nat → R1) (p : Int)
noncomputable def orE : Int := if dmE n f k s h L ≠ 0 then dmE n f k s h L else if hasD n f k s h m e = true then 0 else 22
noncomputable def orV : Int := if orE n f k s h L m e ≠ 0 then 0 else owX n f k s h L e
noncomputable def oaE : Int := if dmE n f k s h L ≠ 0 then dmE n f k s h L else if dnE n f k s h p ≠ 0 then 22 else 0
noncomputable def oaV : Int := if oaE n f k s h L p ≠ 0 then 0 else owX n f k s h L (dnF n f p)
end
noncomputable def c_Owner : Con := fun args => match args with
  | [.agg [.row [.int .i64, .int .i64, .int .i64] n f, .lit (.int .i64 k), .lit (.int .i64 s), .lit (.int .i64 h)], .lit (.int .i64 L), .row [.int .i64] m e] =>
    .ask (Row64 n f ∧ I64s m e) (.ret (.tup [.lit (.int .i64 (lk orV n f k s h L m e)), .lit (.int .i64 (lk orE n f k s h L m e))]))
  | _ => .stuck 1
noncomputable def c_OwnerAt : Con := fun args => match args with
  | [.agg [.row [.int .i64, .int .i64, .int .i64] n f, .lit (.int .i64 k), .lit (.int .i64 s), .lit (.int .i64 h)], .lit (.int .i64 L), .lit (.int .i64 p)] =>
    .ask (Row64 n f ∧ I64 p) (.ret (.tup [.lit (.int .i64 (lk oaV n f k s h L p)), .lit (.int .i64 (lk oaE n f k s h L p))]))
  | _ => .stuck 1
noncomputable abbrev kU2 : List (Nat × Con) := (135, c_owner) :: (136, c_pair) :: kU1 --%K
theorem kU2_ok : ∀ p ∈ kU2, ConOK P p.1 p.2 := by
  intro p hp
  simp only [kU2, List.mem_cons] at hp
  rcases hp with rfl | rfl | hp
  · exact owner_ok
  · exact pair_ok
  · exact kU1_ok p (by simpa [kU1, kU0] using hp)
set_option maxRecDepth 100000 in
theorem t_Owner (n : Nat) (f : Nat → R3) (k s h L : Int) (m : Nat) (e : Nat → R1) : conB Go.Proofs.Try.prog (conOf kU2) noLoops 10 48 [.agg [.row [.int .i64, .int .i64, .int .i64] n f, .lit (.int .i64 k), .lit (.int .i64 s), .lit (.int .i64 h)], .lit (.int .i64 L), .row [.int .i64] m e] =
    T.ask (Row64 n f) (.br (U.ne (lk dmE n f k s h L) (0 : Int)) (.ret (.tup [.lit (.int .i64 0), .lit (.int .i64 (lk dmE n f k s h L))])) (.ask (Row64 n f) (.br (U.not (lk hasD n f k s
      h m e)) (.ret (.tup [.lit (.int .i64 0), .lit (.int .i64 22)])) (.ask (m = (1 : Nat) ∨ m = (2 : Nat)) (.ask (lk OwAsk n f k s h L (lk nv e (nat_lit 0)) (lk prY m e)) (.ret (.tup
      [.lit (.int .i64 (lk owX n f k s h L (lk ixF (lk nv e (nat_lit 0)) (lk prY m e)))), .lit (.int .i64 0)]))))))) := by kernel_rfl
set_option maxRecDepth 100000 in
theorem t_OwnerAt (n : Nat) (f : Nat → R3) (k s h L p : Int) : conB Go.Proofs.Try.prog (conOf kU2) noLoops 10 50 [.agg [.row [.int .i64, .int .i64, .int .i64] n f, .lit (.int .i64 k), .lit (.int .i64 s), .lit (.int .i64 h)], .lit (.int .i64 L), .lit (.int .i64 p)] =
    T.ask (Row64 n f) (.br (U.ne (lk dmE n f k s h L) (0 : Int)) (.ret (.tup [.lit (.int .i64 0), .lit (.int .i64 (lk dmE n f k s h L))])) (.ask (Row64 n f ∧ I64 p) (.br (U.ne (lk dnE n
      f k s h p) (0 : Int)) (.ret (.tup [.lit (.int .i64 0), .lit (.int .i64 22)])) (.ask (lk dnN n f k s h p = (1 : Nat) ∨ lk dnN n f k s h p = (2 : Nat)) (.ask (lk OwAsk n f k s h L (lk
      nv (lk dnF n f p) (nat_lit 0)) (lk prY (lk dnN n f k s h p) (lk dnF n f p))) (.ret (.tup [.lit (.int .i64 (lk owX n f k s h L (lk ixF (lk nv (lk dnF n f p) (nat_lit 0)) (lk prY (lk
      dnN n f k s h p) (lk dnF n f p))))), .lit (.int .i64 0)]))))))) := by kernel_rfl
theorem has_64 {r : R3} (h : RR r) {v : Int} (hv : hasR r v = true) : I64 v := by
  obtain ⟨a1, a2, _⟩ := rr_64 h
  obtain ⟨_, h1, h2, _⟩ := (of_decide_eq_true hv : chk (rA r) (rB r) (rC r) = 0 ∧ rA r ≤ v ∧ v ≤ rB r ∧ (v - rA r) % rC r = 0)
  unfold I64 at *; omega
section
variable {n : Nat} {f : Nat → R3} {k s h L : Int} {m : Nat} {e : Nat → R1} {p : Int}
theorem hasD_has (hh : hasD n f k s h m e = true) : chD n f k s h = 0 ∧ m = n ∧ hasR (f 0) (nv e 0) = true ∧ (n = 2 → hasR (f 1) (nv e 1) = true) := of_decide_eq_true hh
theorem ask_of (hd : dmE n f k s h L = 0) (hh : hasD n f k s h m e = true) : (m = 1 ∨ m = 2) ∧ OwAsk n f k s h L (nv e 0) (prY m e) ∧ owX n f k s h L (ixF (nv e 0) (prY m e)) = owX n f k s h L e := by
  obtain ⟨hc, rfl, h1, h2⟩ := hasD_has hh
  obtain ⟨d1, _⟩ := chD_zero.1 hc
  have hn := d1.1
  refine ⟨hn, ⟨hd, h1, ?_⟩, owX_congr (by omega) (ixF_congr m e hn)⟩
  unfold prY
  split
  · unfold I64; omega
  · exact has_64 (d1.2 1 (by omega)) (h2 (by omega))
/-- What Nth finds. -/
theorem dn_has (hc : chD n f k s h = 0) (he : dnE n f k s h p = 0) : dnN n f k s h p = n ∧ hasD n f k s h n (dnF n f p) = true ∧ ∃ i : Nat, p = (i : Int) ∧ i < szDn n f k s h := by
  have hz := (dr_prod (chD_zero.1 hc).1).1
  have hi : ¬ (p < 0 ∨ szR (f 0) * colD n f ≤ p) := fun w => by
    unfold dnE at he
    rw [if_neg (by simp [hc]), if_pos (by rw [szD_right hc]; exact w)] at he; omega
  have hlt : p.toNat < szDn n f k s h := by unfold szDn; rw [szD_right hc]; omega
  have ep : p = (p.toNat : Int) := by omega
  obtain ⟨i1, i2, i3⟩ := ix_all hc hlt
  obtain ⟨z1, z2⟩ := dn_zero hc hlt
  rw [← ep] at z2
  refine ⟨z2, ?_, p.toNat, ep, hlt⟩
  obtain ⟨_, _, g1, g2⟩ := hasD_has i2
  have hn := (chD_zero.1 hc).1.1
  have e0 := i1 0 (by omega)
  rw [← ep] at e0 i1
  refine decide_eq_true ⟨hc, rfl, ?_, fun h2 => ?_⟩
  · rw [e0]; exact g1
  · rw [i1 1 (by omega)]; exact g2 h2
theorem oa_at (hd : dmE n f k s h L = 0) {i : Nat} (hi : i < szDn n f k s h) : oaE n f k s h L i = 0 ∧ oaV n f k s h L i = owP n f k s h L i := by
  have hc := (dmE_zero.1 hd).2.2.1
  obtain ⟨z1, z2⟩ := dn_zero hc hi
  have e0 : oaE n f k s h L i = 0 := by unfold oaE; rw [if_neg (by simp [hd]), if_neg (by simp [z1])]
  refine ⟨e0, ?_⟩
  unfold oaV
  rw [if_neg (by simp [e0]), ← owX_eq hc hi]
  have hn := (chD_zero.1 hc).1.1
  exact owX_congr (by omega) fun j hj => by
    show (dnF n f i j).1 = _
    rw [(ix_all hc hi).1 j hj]; rfl
end
theorem Owner_ok : ConOK P 48 c_Owner := con_of (allOK mixed kU2_ok) 10 48 fun args r hh => by
  unfold c_Owner at hh
  split at hh
  · rename_i n f k s h L m e
    obtain ⟨d, ie⟩ := (T.is_ask hh).1
    obtain rfl := T.is_ret (T.is_ask hh).2
    refine T.all_of_eq (t_Owner n f k s h L m e) ?_
    simp only [lk_eq]
    have key : ∀ v x, v = orV n f k s h L m e → x = orE n f k s h L m e → SV.tup [.lit (.int .i64 v), .lit (.int .i64 x)] = SV.tup [.lit (.int .i64 (orV n f k s h L m e)), .lit (.int .i64 (orE n f k s h L m e))] := fun v x h1 h2 => by rw [h1, h2]
    have eV : orE n f k s h L m e ≠ 0 → 0 = orV n f k s h L m e := fun w => by unfold orV; rw [if_pos w]
    refine ⟨d, fun g => ?_, fun g => ⟨d, fun g2 => ?_, fun g2 => ?_⟩⟩
    · have g := U.ne_t.mp g
      have e1 : dmE n f k s h L = orE n f k s h L m e := by unfold orE; rw [if_pos g]
      exact key _ _ (eV (by rw [← e1]; exact g)) e1
    · have g := U.ne_f.mp g
      have g2 := U.not_t.mp g2
      have e1 : 22 = orE n f k s h L m e := by unfold orE; rw [if_neg (by simp [g]), if_neg (by simp [g2])]
      exact key _ _ (eV (by omega)) e1
    · have g := U.ne_f.mp g
      have g2 := U.not_f.mp g2
      obtain ⟨a1, a2, a3⟩ := ask_of (L := L) g g2
      have e1 : orE n f k s h L m e = 0 := by unfold orE; rw [if_neg (by simp [g]), if_pos g2]
      exact ⟨a1, a2, key _ _ (by rw [a3]; unfold orV; rw [if_neg (by simp [e1])]) e1.symm⟩
  · exact hh.elim
theorem OwnerAt_ok : ConOK P 50 c_OwnerAt := con_of (allOK mixed kU2_ok) 10 50 fun args r hh => by
  unfold c_OwnerAt at hh
  split at hh
  · rename_i n f k s h L p
    obtain ⟨d, ip⟩ := (T.is_ask hh).1
    obtain rfl := T.is_ret (T.is_ask hh).2
    refine T.all_of_eq (t_OwnerAt n f k s h L p) ?_
    simp only [lk_eq]
    have key : ∀ v x, v = oaV n f k s h L p → x = oaE n f k s h L p → SV.tup [.lit (.int .i64 v), .lit (.int .i64 x)] = SV.tup [.lit (.int .i64 (oaV n f k s h L p)), .lit (.int .i64 (oaE n f k s h L p))] := fun v x h1 h2 => by rw [h1, h2]
    have eV : oaE n f k s h L p ≠ 0 → 0 = oaV n f k s h L p := fun w => by unfold oaV; rw [if_pos w]
    refine ⟨d, fun g => ?_, fun g => ⟨⟨d, ip⟩, fun g2 => ?_, fun g2 => ?_⟩⟩
    · have g := U.ne_t.mp g
      have e1 : dmE n f k s h L = oaE n f k s h L p := by unfold oaE; rw [if_pos g]
      exact key _ _ (eV (by rw [← e1]; exact g)) e1
    · have g := U.ne_f.mp g
      have g2 := U.ne_t.mp g2
      have e1 : 22 = oaE n f k s h L p := by unfold oaE; rw [if_neg (by simp [g]), if_pos g2]
      exact key _ _ (eV (by omega)) e1
    · have g := U.ne_f.mp g
      have g2 := U.ne_f.mp g2
      obtain ⟨b1, b2, _⟩ := dn_has (dmE_zero.1 g).2.2.1 g2
      obtain ⟨a1, a2, a3⟩ := ask_of (L := L) g b2
      have e1 : oaE n f k s h L p = 0 := by unfold oaE; rw [if_neg (by simp [g]), if_neg (by simp [g2])]
      rw [b1]
      exact ⟨a1, a2, key _ _ (by rw [a3]; unfold oaV; rw [if_neg (by simp [e1])]) e1.symm⟩
  · exact hh.elim
end Go.RX.Span

/- Domain maps: the reference's Check, Owner, OwnerAt. -/
set_option linter.unusedVariables false
set_option linter.unusedSimpArgs false
set_option maxRecDepth 100000
namespace Go.RX.Span
open Go Go.RX
attribute [local irreducible] sx conB

theorem I64s_hasD {n : Nat} {f : Nat → R3} {k s h : Int} {m : Nat} {e : Nat → R1} (hh : hasD n f k s h m e = true) : I64s n e := fun i hi => by
  obtain ⟨hc, rfl, h1, h2⟩ := hasD_has hh
  obtain ⟨d1, _⟩ := chD_zero.1 hc
  have hn := d1.1
  rcases (show i = 0 ∨ i = 1 by omega) with rfl | rfl
  · exact has_64 (d1.2 0 (by omega)) h1
  · exact has_64 (d1.2 1 (by omega)) (h2 (by omega))
end Go.RX.Span

/- Domain maps: the functions that say who owns: contracts. -/
set_option linter.unusedVariables false
set_option linter.unusedSimpArgs false
set_option maxRecDepth 100000
namespace Go.RX.Span
open Go Go.RX
attribute [local irreducible] sx conB

def dK (d : DE) : Int := d.2.1
def dS (d : DE) : Int := d.2.2.1
def dN (d : DE) : Nat := d.1.1
/-- The owner that the functions return, by what they have captured. -/
noncomputable def owC (d : DE) (L q x y : Int) : Int := owQ d.1.1 d.1.2 d.2.1 d.2.2.1 d.2.2.2.1 L q (ixF x y)
def OcAsk (w : Int) (d : DE) (L q x y : Int) : Prop := dmE d.1.1 d.1.2 d.2.1 d.2.2.1 d.2.2.2.1 L = 0 ∧ dK d = w ∧ 0 ≤ q ∧ q < szR (d.1.2 0) ∧ I64 x ∧ I64 y
def OcHome (d : DE) : Prop := dK d = 0
noncomputable abbrev ssL : List Sh := [.int .i64]
noncomputable abbrev rpL (fl : Nat → R1) : SV := .rptr [.int .i64] 1 fl 0 0
noncomputable def c_ow0 : Con := fun args => match args with
  | [.lit (.int .i64 q), .agg [.lit (.int .i64 x), .lit (.int .i64 y)], .rptr [.sl [.int .i64, .int .i64, .int .i64], .int .i64, .int .i64, .int .i64] 1 fd 0 0] => .ask (lk OcHome (fd 0)) (.ret (.lit (.int .i64 (lk owC (fd 0) 0 q x y))))
  | _ => .stuck 1
noncomputable def c_ow1 (w : Int) : Con := fun args => match args with
  | [.lit (.int .i64 q), .agg [.lit (.int .i64 x), .lit (.int .i64 y)], .rptr [.int .i64] 1 fl 0 0, .rptr [.sl [.int .i64, .int .i64, .int .i64], .int .i64, .int .i64, .int .i64] 1 fd 0 0] => .ask (lk OcAsk w (fd 0) (lk nv fl 0) q x y) (.ret (.lit (.int .i64 (lk owC (fd 0) (lk nv fl 0) q x y))))
  | _ => .stuck 1
noncomputable def c_ow2 (w : Int) : Con := fun args => match args with
  | [.lit (.int .i64 q), .agg [.lit (.int .i64 x), .lit (.int .i64 y)], .rptr [.sl [.int .i64, .int .i64, .int .i64], .int .i64, .int .i64, .int .i64] 1 fd 0 0, .rptr [.int .i64] 1 fl 0 0] => .ask (lk OcAsk w (fd 0) (lk nv fl 0) q x y) (.ret (.lit (.int .i64 (lk owC (fd 0) (lk nv fl 0) q x y))))
  | _ => .stuck 1
noncomputable def c_ow3 : Con := fun args => match args with
  | [.lit (.int .i64 q), .agg [.lit (.int .i64 x), .lit (.int .i64 y)], .rptr [.int .i64] 1 fl 0 0] => .ask (lk nv fl 0 ≠ 0) (.ret (.lit (.int .i64 (U.rem q (lk nv fl 0)))))
  | _ => .stuck 1
noncomputable def c_owners : Con := fun args => match args with
  | [.agg [.row [.int .i64, .int .i64, .int .i64] n f, .lit (.int .i64 k), .lit (.int .i64 s), .lit (.int .i64 h)], .lit (.int .i64 L)] =>
    .ret (.agg [.fn (.func 224) [] [rpD fun _ => ((n, f), k, s, h, ())], .fn (.func 225) [] [rpL fun _ => (L, ()), rpD fun _ => ((n, f), k, s, h, ())], .fn (.func 226) [] [rpL fun _ => (L, ())], .fn (.func 227) [] [rpD fun _ => ((n, f), k, s, h, ()), rpL fun _ => (L, ())], .fn (.func 228) [] [rpD fun _ => ((n, f), k, s, h, ()), rpL fun _ => (L, ())]])
  | _ => .stuck 1
end Go.RX.Span

/- Domain maps: the functions that say who owns. -/
set_option linter.unusedVariables false
set_option linter.unusedSimpArgs false
set_option maxRecDepth 100000
namespace Go.RX.Span
open Go Go.RX
attribute [local irreducible] sx conB

--%R ofList\s+\[\((\S+),\s+\(\)\) => ofList (ss := [.int .i64]) [(\1, ())
--%R ↑\((2) : Nat\) => ((\1 : Nat) : Int)
set_option maxRecDepth 100000 in
theorem t_ow0 (fd : Nat → DE) (q x y : Int) : conB Go.Proofs.Try.prog (conOf kU0) noLoops 10 224 [.lit (.int .i64 q), .agg [.lit (.int .i64 x), .lit (.int .i64 y)], rpD fd] =
    T.ret (.lit (.int .i64 (fd (0 : Nat)).2.2.2.1)) := by kernel_rfl
set_option maxRecDepth 100000 in
theorem t_ow1 (fd : Nat → DE) (fl : Nat → R1) (q x y : Int) : conB Go.Proofs.Try.prog (conOf kU0) noLoops 10 225 [.lit (.int .i64 q), .agg [.lit (.int .i64 x), .lit (.int .i64 y)], rpL fl, rpD fd] =
    T.ask ((0 : Int) ≤ (0 : Int) ∧ (0 : Int) < ↑(fd (0 : Nat)).fst.1) (.ask (I64 ((fd (0 : Nat)).fst.snd (U.toNat (0 : Int))).1 ∧ I64 ((fd (0 : Nat)).fst.snd (U.toNat (0 : Int))).2.1 ∧
      I64 ((fd (0 : Nat)).fst.snd (U.toNat (0 : Int))).2.2.1) (.ask (lk size ((fd (0 : Nat)).fst.snd (U.toNat (0 : Int))).1 ((fd (0 : Nat)).fst.snd (U.toNat (0 : Int))).2.1 ((fd (0 :
      Nat)).fst.snd (U.toNat (0 : Int))).2.2.1 ≠ (0 : Int)) (.ret (.lit (.int .i64 (U.quo .i64 (U.mul .i64 q (fl (0 : Nat)).1) (lk size ((fd (0 : Nat)).fst.snd (U.toNat (0 : Int))).1 ((fd
      (0 : Nat)).fst.snd (U.toNat (0 : Int))).2.1 ((fd (0 : Nat)).fst.snd (U.toNat (0 : Int))).2.2.1))))))) := by kernel_rfl
set_option maxRecDepth 100000 in
theorem t_ow2 (fl : Nat → R1) (q x y : Int) : conB Go.Proofs.Try.prog (conOf kU0) noLoops 10 226 [.lit (.int .i64 q), .agg [.lit (.int .i64 x), .lit (.int .i64 y)], rpL fl] =
    T.ask ((fl (0 : Nat)).1 ≠ (0 : Int)) (.ret (.lit (.int .i64 (U.rem q (fl (0 : Nat)).1)))) := by kernel_rfl
set_option maxRecDepth 100000 in
theorem t_ow3 (fd : Nat → DE) (fl : Nat → R1) (q x y : Int) : conB Go.Proofs.Try.prog (conOf kU0) noLoops 10 227 [.lit (.int .i64 q), .agg [.lit (.int .i64 x), .lit (.int .i64 y)], rpD fd, rpL fl] =
    T.ask ((fd (0 : Nat)).2.2.1 ≠ (0 : Int)) (.ask ((fl (0 : Nat)).1 ≠ (0 : Int)) (.ret (.lit (.int .i64 (U.rem (U.quo .i64 q (fd (0 : Nat)).2.2.1) (fl (0 : Nat)).1))))) := by kernel_rfl
set_option maxRecDepth 100000 in
theorem t_ow4 (fd : Nat → DE) (fl : Nat → R1) (q x y : Int) : conB Go.Proofs.Try.prog (conOf kU0) noLoops 10 228 [.lit (.int .i64 q), .agg [.lit (.int .i64 x), .lit (.int .i64 y)], rpD fd, rpL fl] =
    T.ask ((0 : Int) ≤ Int.ofNat (fd (0 : Nat)).fst.1 ∧ Int.ofNat (fd (0 : Nat)).fst.1 ≤ ((2 : Nat) : Int)) (.ask (U.toNat (Int.ofNat (fd (0 : Nat)).fst.1) ≤ (1000000 : Nat) ∧ I64s
      (U.toNat (Int.ofNat (fd (0 : Nat)).fst.1)) (ofList (ss := [.int .i64]) [(y, ()), (x, ())].reverse)) (.ask ((fl (0 : Nat)).1 ≠ (0 : Int)) (.ret (.lit (.int .i64 (U.rem (lk hashN
      (ofList (ss := [.int .i64]) [(y, ()), (x, ())].reverse) (U.toNat (Int.ofNat (fd (0 : Nat)).fst.1))) (fl (0 : Nat)).1)))))) := by kernel_rfl
set_option maxRecDepth 100000 in
theorem t_owners (n : Nat) (f : Nat → R3) (k s h L : Int) : conB Go.Proofs.Try.prog (conOf kU0) noLoops 10 188 [.agg [.row [.int .i64, .int .i64, .int .i64] n f, .lit (.int .i64 k), .lit (.int .i64 s), .lit (.int .i64 h)], .lit (.int .i64 L)] =
    T.ret (.agg [SV.fn (Fn.func (nat_lit 224)) [] [SV.rptr [.sl [.int .i64, .int .i64, .int .i64], .int .i64, .int .i64, .int .i64] (nat_lit 1) (fun x => ((n, f), k, s, h, PUnit.unit))
      (nat_lit 0) (nat_lit 0)], SV.fn (Fn.func (nat_lit 225)) [] [SV.rptr [.int .i64] (nat_lit 1) (fun x => (L, PUnit.unit)) (nat_lit 0) (nat_lit 0), SV.rptr [.sl [.int .i64, .int .i64,
      .int .i64], .int .i64, .int .i64, .int .i64] (nat_lit 1) (fun x => ((n, f), k, s, h, PUnit.unit)) (nat_lit 0) (nat_lit 0)], SV.fn (Fn.func (nat_lit 226)) [] [SV.rptr [.int .i64]
      (nat_lit 1) (fun x => (L, PUnit.unit)) (nat_lit 0) (nat_lit 0)], SV.fn (Fn.func (nat_lit 227)) [] [SV.rptr [.sl [.int .i64, .int .i64, .int .i64], .int .i64, .int .i64, .int .i64]
      (nat_lit 1) (fun x => ((n, f), k, s, h, PUnit.unit)) (nat_lit 0) (nat_lit 0), SV.rptr [.int .i64] (nat_lit 1) (fun x => (L, PUnit.unit)) (nat_lit 0) (nat_lit 0)], SV.fn (Fn.func
      (nat_lit 228)) [] [SV.rptr [.sl [.int .i64, .int .i64, .int .i64], .int .i64, .int .i64, .int .i64] (nat_lit 1) (fun x => ((n, f), k, s, h, PUnit.unit)) (nat_lit 0) (nat_lit 0),
      SV.rptr [.int .i64] (nat_lit 1) (fun x => (L, PUnit.unit)) (nat_lit 0) (nat_lit 0)]]) := by kernel_rfl
theorem owners_ok : ConOK P 188 c_owners := con_of (allOK mixed kU0_ok) 10 188 fun args r h => by
  unfold c_owners at h
  split at h
  · rename_i n f k s h' L
    obtain rfl := T.is_ret h
    rw [t_owners]
    rfl
  · exact h.elim
theorem ow0_ok : ConOK P 224 c_ow0 := con_of (allOK mixed kU0_ok) 10 224 fun args r h => by
  unfold c_ow0 at h
  split at h
  · rename_i q x y fd
    have h0 := (lk_eq OcHome ▸ (T.is_ask h).1 : OcHome (fd 0))
    obtain rfl := T.is_ret (T.is_ask h).2
    refine T.all_of_eq (t_ow0 fd q x y) ?_
    simp only [lk_eq]
    have e : owC (fd 0) 0 q x y = (fd 0).2.2.2.1 := ow_0 h0 q _
    rw [e]; rfl
  · exact h.elim
theorem oc_facts {w : Int} {d : DE} {L q x y : Int} (h : OcAsk w d L q x y) : 1 ≤ L ∧ L ≤ 8 ∧ (dN d = 1 ∨ dN d = 2) ∧ (I64 (d.1.2 0).1 ∧ I64 (d.1.2 0).2.1 ∧ I64 (d.1.2 0).2.2.1) ∧ 0 < szR (d.1.2 0) ∧ q ≤ 5000000 ∧ (dK d = 3 → 0 < dS d) := by
  obtain ⟨hd, hk, q0, q1, ix, iy⟩ := h
  obtain ⟨l1, l8, hc, _⟩ := dmE_zero.1 hd
  obtain ⟨d1, fit⟩ := chD_zero.1 hc
  have hn := d1.1
  have r0 := d1.2 0 (by omega)
  have hsz := rr_size r0
  refine ⟨l1, l8, hn, rr_64 r0, by omega, by omega, fun e => ?_⟩
  have := fit_k fit
  have this : dK d = 0 ∨ dK d = 1 ∨ dK d = 2 ∨ (dK d = 3 ∧ 1 ≤ dS d ∧ dS d ≤ 1000) ∨ dK d = 4 := this
  omega
theorem ow1_ok : ConOK P 225 (c_ow1 1) := con_of (allOK mixed kU0_ok) 10 225 fun args r h => by
  unfold c_ow1 at h
  split at h
  · rename_i q x y fl fd
    have h0 := (lk_eq OcAsk ▸ (T.is_ask h).1 : OcAsk 1 (fd 0) (lk nv fl 0) q x y)
    obtain rfl := T.is_ret (T.is_ask h).2
    rw [lk_eq] at h0
    obtain ⟨l1, l8, hn, i0, s0, q5, _⟩ := oc_facts h0
    refine T.all_of_eq (t_ow1 fd fl q x y) ?_
    simp only [lk_eq, tnO0]
    refine ⟨⟨by omega, ?_⟩, i0, ?_, ?_⟩
    · show (0 : Int) < ((dN (fd 0) : Nat) : Int)
      omega
    · show szR ((fd 0).1.2 0) ≠ 0
      omega
    · have e := ow_1 (n := (fd 0).1.1) (f := (fd 0).1.2) (s := (fd 0).2.2.1) (h := (fd 0).2.2.2.1) (L := nv fl 0) h0.2.1 q (ixF x y) (by omega) l8 h0.2.2.1 q5 s0
      exact congrArg (fun v => SV.lit (.int .i64 v)) e
  · exact h.elim
theorem ow3_ok : ConOK P 226 c_ow3 := con_of (allOK mixed kU0_ok) 10 226 fun args r h => by
  unfold c_ow3 at h
  split at h
  · rename_i q x y fl
    have h0 := (T.is_ask h).1
    obtain rfl := T.is_ret (T.is_ask h).2
    refine T.all_of_eq (t_ow2 fl q x y) ?_
    rw [lk_eq] at h0 ⊢
    exact ⟨h0, rfl⟩
  · exact h.elim
theorem ow2_ok : ConOK P 227 (c_ow2 3) := con_of (allOK mixed kU0_ok) 10 227 fun args r h => by
  unfold c_ow2 at h
  split at h
  · rename_i q x y fd fl
    have h0 := (lk_eq OcAsk ▸ (T.is_ask h).1 : OcAsk 3 (fd 0) (lk nv fl 0) q x y)
    obtain rfl := T.is_ret (T.is_ask h).2
    rw [lk_eq] at h0
    obtain ⟨l1, l8, hn, i0, s0, q5, hs⟩ := oc_facts h0
    have hs := hs h0.2.1
    refine T.all_of_eq (t_ow3 fd fl q x y) ?_
    simp only [lk_eq]
    refine ⟨?_, ?_, ?_⟩
    · show dS (fd 0) ≠ 0
      omega
    · show nv fl 0 ≠ 0
      omega
    · have e := ow_3 (n := (fd 0).1.1) (f := (fd 0).1.2) (s := (fd 0).2.2.1) (h := (fd 0).2.2.2.1) (L := nv fl 0) h0.2.1 q (ixF x y) h0.2.2.1 q5 hs
      exact congrArg (fun v => SV.lit (.int .i64 v)) e
  · exact h.elim
theorem ow4_ok : ConOK P 228 (c_ow2 4) := con_of (allOK mixed kU0_ok) 10 228 fun args r h => by
  unfold c_ow2 at h
  split at h
  · rename_i q x y fd fl
    have h0 := (lk_eq OcAsk ▸ (T.is_ask h).1 : OcAsk 4 (fd 0) (lk nv fl 0) q x y)
    obtain rfl := T.is_ret (T.is_ask h).2
    rw [lk_eq] at h0
    obtain ⟨l1, l8, hn, i0, s0, q5, _⟩ := oc_facts h0
    obtain ⟨_, hk4, _, _, ix, iy⟩ := h0
    refine T.all_of_eq (t_ow4 fd fl q x y) ?_
    simp only [lk_eq, tnOf]
    refine ⟨⟨Int.natCast_nonneg _, ?_⟩, ⟨?_, fun i hi => ?_⟩, ?_, ?_⟩
    · show ((dN (fd 0) : Nat) : Int) ≤ 2
      omega
    · show dN (fd 0) ≤ 1000000
      omega
    · have hi : i < dN (fd 0) := hi
      rcases (show i = 0 ∨ i = 1 by omega) with rfl | rfl
      · exact ix
      · exact iy
    · show nv fl 0 ≠ 0
      omega
    · have e := ow_4 (n := (fd 0).1.1) (f := (fd 0).1.2) (s := (fd 0).2.2.1) (h := (fd 0).2.2.2.1) (L := nv fl 0) hk4 q (ixF x y)
      exact congrArg (fun v => SV.lit (.int .i64 v)) e
  · exact h.elim
noncomputable abbrev kA0 : List (Nat × Con) := [(224, c_ow0), (225, c_ow1 1), (226, c_ow3), (227, c_ow2 3), (228, c_ow2 4), (188, c_owners), (28, c_Size), (172, c_DAll)] --%K
theorem kA0_ok : ∀ p ∈ kA0, ConOK P p.1 p.2 := by
  intro p hp
  simp only [kA0, List.mem_cons, List.not_mem_nil, or_false] at hp
  rcases hp with rfl | rfl | rfl | rfl | rfl | rfl | rfl | rfl
  · exact ow0_ok
  · exact ow1_ok
  · exact ow3_ok
  · exact ow2_ok
  · exact ow4_ok
  · exact owners_ok
  · exact Size_ok
  · exact DAll_ok
end Go.RX.Span

/- Domain maps: all positions with their owners: the states. -/
set_option linter.unusedVariables false
set_option linter.unusedSimpArgs false
set_option maxRecDepth 100000
namespace Go.RX.Span
open Go Go.RX
attribute [local irreducible] sx conB

/-- The function that says who owns, by the kind of the map. -/
noncomputable def ofV (k : Int) (d : DE) (L : Int) : SV :=
  if k = 0 then .fn (.func 224) [] [rpD fun _ => d] else if k = 1 then .fn (.func 225) [] [rpL fun _ => (L, ()), rpD fun _ => d] else if k = 2 then .fn (.func 226) [] [rpL fun _ => (L, ())]
  else if k = 3 then .fn (.func 227) [] [rpD fun _ => d, rpL fun _ => (L, ())] else .fn (.func 228) [] [rpD fun _ => d, rpL fun _ => (L, ())]
noncomputable def dOw (d : DE) (L : Int) (p : Nat) : Int := owP d.1.1 d.1.2 d.2.1 d.2.2.1 d.2.2.2.1 L p
def dSz (d : DE) : Nat := szDn d.1.1 d.1.2 d.2.1 d.2.2.1 d.2.2.2.1
def dDm (d : DE) (L : Int) : Int := dmE d.1.1 d.1.2 d.2.1 d.2.2.1 d.2.2.2.1 L
def dCol (d : DE) : Int := ((colN d.1.1 d.1.2 : Nat) : Int)
/-- What is yielded. -/
noncomputable def elA (d : DE) (L : Int) (p : Nat) : List Value := [.int .i64 (p : Int), .int .i64 (dOw d L p)]
def PreA (n0 : Nat) (K : Cons) (d : DE) (L : Int) (c : Nat) (el : Nat → List Value) : Prop := n0 ≤ 4 ∧ K.P = P ∧ dDm d L = 0 ∧ c = dSz d ∧ el = elD d.1.1 d.1.2 ∧ K.n = c ∧ K.el = elA d L
structure XA where
  (K : Cons) (fd : Nat → DE) (fl : Nat → R1) (c : Nat) (el : Nat → List Value)
noncomputable abbrev slA (fd : Nat → DE) (fl : Nat → R1) : List SV := [rpD fd, rpL fl, .ptr 1 0, .ptr 2 0, .ptr 3 0]
noncomputable abbrev memA (K : Cons) (i : Nat) (fv : SV) (C : Int) : Mem := [(0, some (.seq true K i)), (0, some (.cells [yieldV K] 44)), (0, some (.cells [fv] 182)), (0, some (.cells [.lit (.int .i64 C)] 3))]
noncomputable abbrev memA' (K : Cons) (i : Nat) : Mem := [(0, some (.seq false K i)), (0, none), (0, none), (0, none)]
def ColOk (cv : SV) (C : Int) : Prop := cv = .lit (.int .i64 C) ∨ (cv = .ki .i64 1 ∧ C = 1)
noncomputable def gA : Nat → Nat → (Nat → List Value) → Few → T (Ex × Few)
  | n0, c, el, ([.rptr ss 1 fd 0 0, .rptr ss2 1 fl 0 0, .ptr 1 0, .ptr 2 0, .ptr 3 0], [(_, some (.seq true K 0)), (_, some (.cells [.lit (.func (.yield l) ⟨[]⟩ ⟨[]⟩)] t1)), (_, some (.cells [fv] t2)), (_, some (.cells [cv] t3))]) =>
    if e : eqShs ss ssD = true ∧ eqShs ss2 ssL = true then
      .ask (lk PreA n0 K (castEls e.1 fd 0) (lk nv (castEls e.2 fl) 0) c el ∧ fv = ofV (dK (castEls e.1 fd 0)) (castEls e.1 fd 0) (lk nv (castEls e.2 fl) 0) ∧ ColOk cv (lk dCol (castEls e.1 fd 0)) ∧ K.l = l ∧ t1 = 44 ∧ t2 = 182 ∧ t3 = 3)
        (.br (lk okB K 0 c) (.ret (.normal, (slA (castEls e.1 fd) (castEls e.2 fl), memA K c fv (lk dCol (castEls e.1 fd 0))))) (.ret (.ret, (slA (castEls e.1 fd) (castEls e.2 fl), memA' K (lk stopA K 0 c + 1)))))
    else .stuck 2
  | _, _, _, _ => .stuck 1
noncomputable abbrev cdA : Code := rangeOf P 223 1006 --%K
noncomputable abbrev asA : Code := match rangeOf P 223 1006 with | .rangeFunc _ _ a _ => a | _ => .skip --%K
noncomputable abbrev bdA : Code := match rangeOf P 223 1006 with | .rangeFunc _ _ _ b => b | _ => .skip --%K
noncomputable abbrev EA : Env := ⟨P, conOf kA0, scall P (conOf kA0) noLoops 10⟩
end Go.RX.Span

/- Domain maps: all positions with their owners: the walk. -/
set_option linter.unusedVariables false
set_option linter.unusedSimpArgs false
set_option maxRecDepth 100000
namespace Go.RX.Span
open Go Go.RX
attribute [local irreducible] sx conB

set_option maxRecDepth 100000 in
theorem t_A0 (K : Cons) (fd : Nat → DE) (fl : Nat → R1) (i : Nat) (p x y C : Int) : (sxR EA [] 4 #[26, 27] asA bdA [.int .i64 p, .agg #[.int .i64 x, .int .i64 y]] (mkS 38 [1,2,3,4,5] (slA fd fl), memA K i (.fn (.func 224) [] [rpD fun _ => fd 0]) C)).bind (fun r => .ret (r.1, r.2.2)) =
    T.ask (C ≠ (0 : Int)) (.ask (lk OcHome ((fun x => fd (0 : Nat)) (0 : Nat))) (.ask (YldAsk EA.P K.5 K i [.int .i64 p, .int .i64 (lk owC (fd (nat_lit 0)) (0 : Int) (U.quo .i64 p C) x
      y)]) (.br (K.4 i) (.ret (Ex.normal, [(nat_lit 1, some (Blk.seq true K (i.add (nat_lit 1)))), (nat_lit 0, some (Blk.cells [.lit (Value.func (Fn.yield K.5) { toList := [] } { toList
      := [] })] (nat_lit 44))), (nat_lit 0, some (Blk.cells [SV.fn (Fn.func (nat_lit 224)) [] [SV.rptr [.sl [.int .i64, .int .i64, .int .i64], .int .i64, .int .i64, .int .i64] (nat_lit 1)
      (fun x => fd (nat_lit 0)) (nat_lit 0) (nat_lit 0)]] (nat_lit 182))), (nat_lit 0, some (Blk.cells [.lit (.int .i64 C)] (nat_lit 3))), (nat_lit 1, some (Blk.cells [.lit (.int .i64 x),
      .lit (.int .i64 y)] (nat_lit 103)))])) (.ret (Ex.ret, [(nat_lit 1, some (Blk.seq false K (i.add (nat_lit 1)))), (nat_lit 0, some (Blk.cells [.lit (Value.func (Fn.yield K.5) { toList
      := [] } { toList := [] })] (nat_lit 44))), (nat_lit 0, some (Blk.cells [SV.fn (Fn.func (nat_lit 224)) [] [SV.rptr [.sl [.int .i64, .int .i64, .int .i64], .int .i64, .int .i64, .int
      .i64] (nat_lit 1) (fun x => fd (nat_lit 0)) (nat_lit 0) (nat_lit 0)]] (nat_lit 182))), (nat_lit 0, some (Blk.cells [.lit (.int .i64 C)] (nat_lit 3))), (nat_lit 1, some (Blk.cells
      [.lit (.int .i64 x), .lit (.int .i64 y)] (nat_lit 103)))]))))) := by kernel_rfl
set_option maxRecDepth 100000 in
theorem t_A1 (K : Cons) (fd : Nat → DE) (fl : Nat → R1) (i : Nat) (p x y C : Int) : (sxR EA [] 4 #[26, 27] asA bdA [.int .i64 p, .agg #[.int .i64 x, .int .i64 y]] (mkS 38 [1,2,3,4,5] (slA fd fl), memA K i (.fn (.func 225) [] [rpL fun _ => (nv fl 0, ()), rpD fun _ => fd 0]) C)).bind (fun r => .ret (r.1, r.2.2)) =
    T.ask (C ≠ (0 : Int)) (.ask (lk OcAsk (1 : Int) ((fun x => fd (0 : Nat)) (0 : Nat)) (lk nv (fun x => ((fl (0 : Nat)).1, PUnit.unit)) (nat_lit 0)) (U.quo .i64 p C) x y) (.ask (YldAsk
      EA.P K.5 K i [.int .i64 p, .int .i64 (lk owC (fd (nat_lit 0)) (lk nv (fun x => ((fl (0 : Nat)).1, PUnit.unit)) (nat_lit 0)) (U.quo .i64 p C) x y)]) (.br (K.4 i) (.ret (Ex.normal,
      [(nat_lit 1, some (Blk.seq true K (i.add (nat_lit 1)))), (nat_lit 0, some (Blk.cells [.lit (Value.func (Fn.yield K.5) { toList := [] } { toList := [] })] (nat_lit 44))), (nat_lit 0,
      some (Blk.cells [SV.fn (Fn.func (nat_lit 225)) [] [SV.rptr [.int .i64] (nat_lit 1) (fun x => ((fl (0 : Nat)).1, PUnit.unit)) (nat_lit 0) (nat_lit 0), SV.rptr [.sl [.int .i64, .int
      .i64, .int .i64], .int .i64, .int .i64, .int .i64] (nat_lit 1) (fun x => fd (nat_lit 0)) (nat_lit 0) (nat_lit 0)]] (nat_lit 182))), (nat_lit 0, some (Blk.cells [.lit (.int .i64 C)]
      (nat_lit 3))), (nat_lit 1, some (Blk.cells [.lit (.int .i64 x), .lit (.int .i64 y)] (nat_lit 103)))])) (.ret (Ex.ret, [(nat_lit 1, some (Blk.seq false K (i.add (nat_lit 1)))),
      (nat_lit 0, some (Blk.cells [.lit (Value.func (Fn.yield K.5) { toList := [] } { toList := [] })] (nat_lit 44))), (nat_lit 0, some (Blk.cells [SV.fn (Fn.func (nat_lit 225)) []
      [SV.rptr [.int .i64] (nat_lit 1) (fun x => ((fl (0 : Nat)).1, PUnit.unit)) (nat_lit 0) (nat_lit 0), SV.rptr [.sl [.int .i64, .int .i64, .int .i64], .int .i64, .int .i64, .int .i64]
      (nat_lit 1) (fun x => fd (nat_lit 0)) (nat_lit 0) (nat_lit 0)]] (nat_lit 182))), (nat_lit 0, some (Blk.cells [.lit (.int .i64 C)] (nat_lit 3))), (nat_lit 1, some (Blk.cells [.lit
      (.int .i64 x), .lit (.int .i64 y)] (nat_lit 103)))]))))) := by kernel_rfl
set_option maxRecDepth 100000 in
theorem t_A2 (K : Cons) (fd : Nat → DE) (fl : Nat → R1) (i : Nat) (p x y C : Int) : (sxR EA [] 4 #[26, 27] asA bdA [.int .i64 p, .agg #[.int .i64 x, .int .i64 y]] (mkS 38 [1,2,3,4,5] (slA fd fl), memA K i (.fn (.func 226) [] [rpL fun _ => (nv fl 0, ())]) C)).bind (fun r => .ret (r.1, r.2.2)) =
    T.ask (C ≠ (0 : Int)) (.ask (lk nv (fun x => ((fl (0 : Nat)).1, PUnit.unit)) (nat_lit 0) ≠ (0 : Int)) (.ask (YldAsk EA.P K.5 K i [.int .i64 p, .int .i64 (U.rem (U.quo .i64 p C) (lk
      nv (fun x => ((fl (0 : Nat)).1, PUnit.unit)) (nat_lit 0)))]) (.br (K.4 i) (.ret (Ex.normal, [(nat_lit 1, some (Blk.seq true K (i.add (nat_lit 1)))), (nat_lit 0, some (Blk.cells
      [.lit (Value.func (Fn.yield K.5) { toList := [] } { toList := [] })] (nat_lit 44))), (nat_lit 0, some (Blk.cells [SV.fn (Fn.func (nat_lit 226)) [] [SV.rptr [.int .i64] (nat_lit 1)
      (fun x => ((fl (0 : Nat)).1, PUnit.unit)) (nat_lit 0) (nat_lit 0)]] (nat_lit 182))), (nat_lit 0, some (Blk.cells [.lit (.int .i64 C)] (nat_lit 3))), (nat_lit 1, some (Blk.cells
      [.lit (.int .i64 x), .lit (.int .i64 y)] (nat_lit 103)))])) (.ret (Ex.ret, [(nat_lit 1, some (Blk.seq false K (i.add (nat_lit 1)))), (nat_lit 0, some (Blk.cells [.lit (Value.func
      (Fn.yield K.5) { toList := [] } { toList := [] })] (nat_lit 44))), (nat_lit 0, some (Blk.cells [SV.fn (Fn.func (nat_lit 226)) [] [SV.rptr [.int .i64] (nat_lit 1) (fun x => ((fl (0 :
      Nat)).1, PUnit.unit)) (nat_lit 0) (nat_lit 0)]] (nat_lit 182))), (nat_lit 0, some (Blk.cells [.lit (.int .i64 C)] (nat_lit 3))), (nat_lit 1, some (Blk.cells [.lit (.int .i64 x),
      .lit (.int .i64 y)] (nat_lit 103)))]))))) := by kernel_rfl
set_option maxRecDepth 100000 in
theorem t_A3 (K : Cons) (fd : Nat → DE) (fl : Nat → R1) (i : Nat) (p x y C : Int) : (sxR EA [] 4 #[26, 27] asA bdA [.int .i64 p, .agg #[.int .i64 x, .int .i64 y]] (mkS 38 [1,2,3,4,5] (slA fd fl), memA K i (.fn (.func 227) [] [rpD fun _ => fd 0, rpL fun _ => (nv fl 0, ())]) C)).bind (fun r => .ret (r.1, r.2.2)) =
    T.ask (C ≠ (0 : Int)) (.ask (lk OcAsk (3 : Int) ((fun x => fd (0 : Nat)) (0 : Nat)) (lk nv (fun x => ((fl (0 : Nat)).1, PUnit.unit)) (nat_lit 0)) (U.quo .i64 p C) x y) (.ask (YldAsk
      EA.P K.5 K i [.int .i64 p, .int .i64 (lk owC (fd (nat_lit 0)) (lk nv (fun x => ((fl (0 : Nat)).1, PUnit.unit)) (nat_lit 0)) (U.quo .i64 p C) x y)]) (.br (K.4 i) (.ret (Ex.normal,
      [(nat_lit 1, some (Blk.seq true K (i.add (nat_lit 1)))), (nat_lit 0, some (Blk.cells [.lit (Value.func (Fn.yield K.5) { toList := [] } { toList := [] })] (nat_lit 44))), (nat_lit 0,
      some (Blk.cells [SV.fn (Fn.func (nat_lit 227)) [] [SV.rptr [.sl [.int .i64, .int .i64, .int .i64], .int .i64, .int .i64, .int .i64] (nat_lit 1) (fun x => fd (nat_lit 0)) (nat_lit 0)
      (nat_lit 0), SV.rptr [.int .i64] (nat_lit 1) (fun x => ((fl (0 : Nat)).1, PUnit.unit)) (nat_lit 0) (nat_lit 0)]] (nat_lit 182))), (nat_lit 0, some (Blk.cells [.lit (.int .i64 C)]
      (nat_lit 3))), (nat_lit 1, some (Blk.cells [.lit (.int .i64 x), .lit (.int .i64 y)] (nat_lit 103)))])) (.ret (Ex.ret, [(nat_lit 1, some (Blk.seq false K (i.add (nat_lit 1)))),
      (nat_lit 0, some (Blk.cells [.lit (Value.func (Fn.yield K.5) { toList := [] } { toList := [] })] (nat_lit 44))), (nat_lit 0, some (Blk.cells [SV.fn (Fn.func (nat_lit 227)) []
      [SV.rptr [.sl [.int .i64, .int .i64, .int .i64], .int .i64, .int .i64, .int .i64] (nat_lit 1) (fun x => fd (nat_lit 0)) (nat_lit 0) (nat_lit 0), SV.rptr [.int .i64] (nat_lit 1) (fun
      x => ((fl (0 : Nat)).1, PUnit.unit)) (nat_lit 0) (nat_lit 0)]] (nat_lit 182))), (nat_lit 0, some (Blk.cells [.lit (.int .i64 C)] (nat_lit 3))), (nat_lit 1, some (Blk.cells [.lit
      (.int .i64 x), .lit (.int .i64 y)] (nat_lit 103)))]))))) := by kernel_rfl
set_option maxRecDepth 100000 in
theorem t_A4 (K : Cons) (fd : Nat → DE) (fl : Nat → R1) (i : Nat) (p x y C : Int) : (sxR EA [] 4 #[26, 27] asA bdA [.int .i64 p, .agg #[.int .i64 x, .int .i64 y]] (mkS 38 [1,2,3,4,5] (slA fd fl), memA K i (.fn (.func 228) [] [rpD fun _ => fd 0, rpL fun _ => (nv fl 0, ())]) C)).bind (fun r => .ret (r.1, r.2.2)) =
    T.ask (C ≠ (0 : Int)) (.ask (lk OcAsk (4 : Int) ((fun x => fd (0 : Nat)) (0 : Nat)) (lk nv (fun x => ((fl (0 : Nat)).1, PUnit.unit)) (nat_lit 0)) (U.quo .i64 p C) x y) (.ask (YldAsk
      EA.P K.5 K i [.int .i64 p, .int .i64 (lk owC (fd (nat_lit 0)) (lk nv (fun x => ((fl (0 : Nat)).1, PUnit.unit)) (nat_lit 0)) (U.quo .i64 p C) x y)]) (.br (K.4 i) (.ret (Ex.normal,
      [(nat_lit 1, some (Blk.seq true K (i.add (nat_lit 1)))), (nat_lit 0, some (Blk.cells [.lit (Value.func (Fn.yield K.5) { toList := [] } { toList := [] })] (nat_lit 44))), (nat_lit 0,
      some (Blk.cells [SV.fn (Fn.func (nat_lit 228)) [] [SV.rptr [.sl [.int .i64, .int .i64, .int .i64], .int .i64, .int .i64, .int .i64] (nat_lit 1) (fun x => fd (nat_lit 0)) (nat_lit 0)
      (nat_lit 0), SV.rptr [.int .i64] (nat_lit 1) (fun x => ((fl (0 : Nat)).1, PUnit.unit)) (nat_lit 0) (nat_lit 0)]] (nat_lit 182))), (nat_lit 0, some (Blk.cells [.lit (.int .i64 C)]
      (nat_lit 3))), (nat_lit 1, some (Blk.cells [.lit (.int .i64 x), .lit (.int .i64 y)] (nat_lit 103)))])) (.ret (Ex.ret, [(nat_lit 1, some (Blk.seq false K (i.add (nat_lit 1)))),
      (nat_lit 0, some (Blk.cells [.lit (Value.func (Fn.yield K.5) { toList := [] } { toList := [] })] (nat_lit 44))), (nat_lit 0, some (Blk.cells [SV.fn (Fn.func (nat_lit 228)) []
      [SV.rptr [.sl [.int .i64, .int .i64, .int .i64], .int .i64, .int .i64, .int .i64] (nat_lit 1) (fun x => fd (nat_lit 0)) (nat_lit 0) (nat_lit 0), SV.rptr [.int .i64] (nat_lit 1) (fun
      x => ((fl (0 : Nat)).1, PUnit.unit)) (nat_lit 0) (nat_lit 0)]] (nat_lit 182))), (nat_lit 0, some (Blk.cells [.lit (.int .i64 C)] (nat_lit 3))), (nat_lit 1, some (Blk.cells [.lit
      (.int .i64 x), .lit (.int .i64 y)] (nat_lit 103)))]))))) := by kernel_rfl
end Go.RX.Span

/- Domain maps: all positions with their owners: the loop. -/
set_option linter.unusedVariables false
set_option linter.unusedSimpArgs false
set_option maxRecDepth 100000
namespace Go.RX.Span
open Go Go.RX
attribute [local irreducible] sx conB

section
variable {n : Nat} {f : Nat → R3} {k s h : Int}
theorem colN_pos (hc : chD n f k s h = 0) {p : Nat} (hp : p < szDn n f k s h) : 0 < colN n f ∧ colN n f ≤ 2000001 := by
  obtain ⟨d1, _⟩ := chD_zero.1 hc
  have hn := d1.1
  rw [szDn_right hc] at hp
  unfold colN
  by_cases h1 : n = 1
  · rw [if_pos h1]; omega
  · rw [if_neg h1] at hp ⊢
    have e1 := szN_R (d1.2 1 (by omega))
    have := rr_size (d1.2 1 (by omega))
    refine ⟨Nat.pos_of_ne_zero fun h0 => by rw [h0, Nat.mul_zero] at hp; omega, by omega⟩
theorem id_64 (hc : chD n f k s h = 0) {p : Nat} (hp : p < szDn n f k s h) : I64 (idX n f p) ∧ I64 (idY n f p) := by
  obtain ⟨d1, _⟩ := chD_zero.1 hc
  have hn := d1.1
  obtain ⟨_, h2, _⟩ := ix_all hc hp
  obtain ⟨_, _, g1, g2⟩ := hasD_has h2
  refine ⟨has_64 (d1.2 0 (by omega)) g1, ?_⟩
  by_cases h1 : n = 1
  · unfold idY; rw [if_pos h1]; unfold I64; omega
  · exact has_64 (d1.2 1 (by omega)) (g2 (by omega))
end
theorem dSz_bnd {d : DE} {L : Int} (hd : dDm d L = 0) : dSz d ≤ 5000000000000 := by
  have hc := (dmE_zero.1 hd).2.2.1
  have := (dr_prod (chD_zero.1 hc).1).2
  show szDn _ _ _ _ _ ≤ _
  unfold szDn
  rw [szD_right hc]; omega
theorem oc_of {d : DE} {L : Int} (hd : dDm d L = 0) {i : Nat} (hi : i < dSz d) :
    U.quo .i64 (i : Int) (dCol d) = ((i / colN d.1.1 d.1.2 : Nat) : Int) ∧ dCol d ≠ 0 ∧ OcAsk (dK d) d L ((i / colN d.1.1 d.1.2 : Nat) : Int) (idX d.1.1 d.1.2 i) (idY d.1.1 d.1.2 i) ∧ owC d L ((i / colN d.1.1 d.1.2 : Nat) : Int) (idX d.1.1 d.1.2 i) (idY d.1.1 d.1.2 i) = dOw d L i := by
  have hc := (dmE_zero.1 hd).2.2.1
  have hi : i < szDn d.1.1 d.1.2 d.2.1 d.2.2.1 d.2.2.2.1 := hi
  obtain ⟨c1, c2⟩ := colN_pos hc hi
  obtain ⟨r1, r2⟩ := row_lt hc hi
  obtain ⟨i1, i2⟩ := id_64 hc hi
  have hb : szDn d.1.1 d.1.2 d.2.1 d.2.2.1 d.2.2.2.1 ≤ 5000000000000 := dSz_bnd hd
  refine ⟨?_, ?_, ⟨hd, rfl, Int.natCast_nonneg _, r1, i1, i2⟩, rfl⟩
  · unfold dCol
    rw [quo_pos (Int.natCast_nonneg _) (by omega) (by omega)]
    exact (Int.ofNat_tdiv i (colN d.1.1 d.1.2)).symm
  · unfold dCol; omega
theorem ow_none {d : DE} {L q x y : Int} (h : dK d = 0) : owC d 0 q x y = owC d L q x y := (ow_0 h q _).trans (ow_0 h q _).symm
theorem ow_cyc {d : DE} {L q x y : Int} (h : dK d = 2) : U.rem q L = owC d L q x y := ow_2 h q _
theorem rl_ofV (ρ : Ren) (k : Int) (d : DE) (L : Int) : Rl ρ (ofV k d L) (ofV k d L) := by
  unfold ofV
  split
  · exact ⟨rfl, trivial, ⟨rfl, rfl, rfl, sameRowD⟩, trivial⟩
  split
  · exact ⟨rfl, trivial, ⟨rfl, rfl, rfl, row1H fun _ _ => rfl⟩, ⟨rfl, rfl, rfl, sameRowD⟩, trivial⟩
  split
  · exact ⟨rfl, trivial, ⟨rfl, rfl, rfl, row1H fun _ _ => rfl⟩, trivial⟩
  split
  · exact ⟨rfl, trivial, ⟨rfl, rfl, rfl, sameRowD⟩, ⟨rfl, rfl, rfl, row1H fun _ _ => rfl⟩, trivial⟩
  · exact ⟨rfl, trivial, ⟨rfl, rfl, rfl, sameRowD⟩, ⟨rfl, rfl, rfl, row1H fun _ _ => rfl⟩, trivial⟩
noncomputable abbrev mA (q : XA) (i : Nat) : Mem := memA q.K i (ofV (dK (q.fd 0)) (q.fd 0) (nv q.fl 0)) (dCol (q.fd 0))
def ZA (q : XA) (o : Ex × Few) : Prop := (okB q.K 0 q.c = true → o = (.normal, (slA q.fd q.fl, mA q q.c))) ∧ (okB q.K 0 q.c = false → o = (.ret, (slA q.fd q.fl, memA' q.K (lk stopA q.K 0 q.c + 1))))
def PhiA (n0 : Nat) (q : XA) : Prop := PreA n0 q.K (q.fd 0) (nv q.fl 0) q.c q.el
theorem ren4A {k : Nat} (hk : k ≤ 4) : ∀ b, b < k → Ren.of (idR 4) b = some b := renId hk
theorem slA_rl {ρ : Ren} (fd : Nat → DE) (fl : Nat → R1) (h1 : ρ.of 1 = some 1) (h2 : ρ.of 2 = some 2) (h3 : ρ.of 3 = some 3) : RlL ρ (slA fd fl) (slA fd fl) := ⟨⟨rfl, rfl, rfl, sameRowD⟩, ⟨rfl, rfl, rfl, row1H fun _ _ => rfl⟩, ⟨h1, rfl⟩, ⟨h2, rfl⟩, ⟨h3, rfl⟩, trivial⟩
/-- A round's end. -/
theorem endA {n0 : Nat} {q : XA} (hq : PhiA n0 q) {i : Nat} (hi : i < q.c) (hans : ∀ j, j < i → q.K.ans (0 + j) = true) {x y : Int} {g0 g1 g2 g3 g4 : Nat} {fv : SV} (hf : Rl (idR 4) fv (ofV (dK (q.fd 0)) (q.fd 0) (nv q.fl 0))) :
    (q.K.ans i = true → (∀ j, j < i + 1 → q.K.ans (0 + j) = true) ∧ Wk 38 [1,2,3,4,5] n0 (slA q.fd q.fl, [(g0, some (.seq true q.K (i + 1))), (g1, some (.cells [yieldV q.K] 44)), (g2, some (.cells [fv] 182)), (g3, some (.cells [.lit (.int .i64 (dCol (q.fd 0)))] 3)), (g4, some (.cells [.lit (.int .i64 x), .lit (.int .i64 y)] 103))]) (slA q.fd q.fl, mA q (i + 1))) ∧
    (q.K.ans i = false → ∃ s, ZA q (.ret, s) ∧ Wk 38 [1,2,3,4,5] n0 (slA q.fd q.fl, [(g0, some (.seq false q.K (i + 1))), (g1, some (.cells [yieldV q.K] 44)), (g2, some (.cells [fv] 182)), (g3, some (.cells [.lit (.int .i64 (dCol (q.fd 0)))] 3)), (g4, some (.cells [.lit (.int .i64 x), .lit (.int .i64 y)] 103))]) s) := by
  have h0 : n0 ≤ 4 := hq.1
  refine ⟨fun ha => ⟨fun j hj => ?_, ?_⟩, fun ha => ⟨(slA q.fd q.fl, memA' q.K (lk stopA q.K 0 q.c + 1)), ⟨fun h => ?_, fun _ => rfl⟩, ?_⟩⟩
  · rw [Nat.zero_add]
    by_cases e : j = i
    · subst e; exact ha
    · have := hans j (by omega); rwa [Nat.zero_add] at this
  · exact wk_of (idR 4) rfl h0 (ren4A h0) (slA_rl _ _ rfl rfl rfl) ⟨⟨rfl, rfl, rfl, rfl, rfl⟩, ⟨rfl, rfl, trivial⟩, ⟨rfl, hf, trivial⟩, ⟨rfl, rfl, trivial⟩, trivial⟩
  · rw [okB_f hi (by rw [Nat.zero_add]; exact ha)] at h; cases h
  · have hs0 : stopA q.K 0 q.c = i := stopA_eq hi (by rw [Nat.zero_add]; exact ha) hans
    exact wk_of (idR 4) rfl h0 (ren4A h0) (slA_rl _ _ rfl rfl rfl) ⟨⟨rfl, rfl, rfl, rfl, by rw [lk_eq, hs0]⟩, trivial⟩
theorem rangeA : RangeC P cdA (rfew 38 [1,2,3,4,5] gA) := by
  refine range_few (E := EA) (L := []) mixed (envOK (allOK mixed kA0_ok) 10) (g0 := .tmp 25) (ps := #[26, 27]) (assign := asA) (body := bdA) (by kernel_rfl) loopsOK_none loopsOK_none 38 [1,2,3,4,5] (by decide) (X := XA) gA
    (fun _ q => slA q.fd q.fl) (fun _ q i => mA q i) (fun q => q.c) (fun q => q.el) PhiA
    (fun _ q i => ∀ j, j < i → q.K.ans (0 + j) = true) (fun _ q o => ZA q o)
    (fun _ _ => rfl) ?_ ?_ ?_ ?_ ?_
  · intro m0 c0 el0 st r h
    unfold gA at h
    split at h
    · rename_i ss fd ss2 fl e0 K e1 l t1 e2 fv t2 e3 cv t3
      by_cases e : eqShs ss ssD = true ∧ eqShs ss2 ssL = true
      rotate_left
      · rw [dif_neg e] at h; exact h.elim
      rw [dif_pos e] at h
      have es := eqShs_eq _ _ e.1
      subst es
      have es2 := eqShs_eq _ _ e.2
      subst es2
      obtain ⟨hp, hfv, hcv, rfl, rfl, rfl, rfl⟩ := (T.is_ask h).1
      have hh := (T.is_ask h).2
      simp only [lk_eq] at hp hfv hcv hh
      have hfv : fv = ofV (dK (fd 0)) (fd 0) (nv fl 0) := hfv
      subst hfv
      have h0 : m0 ≤ 4 := hp.1
      have hcell : Rl (idR 4) cv (.lit (.int .i64 (dCol (fd 0)))) := by
        rcases hcv with rfl | ⟨rfl, hC⟩
        · exact rfl
        · show Value.int .i64 (dCol (fd 0)) = Value.int .i64 1
          exact congrArg _ hC
      have w : Wk 38 [1,2,3,4,5] m0 (slA fd fl, [(e0, some (.seq true K 0)), (e1, some (.cells [.lit (.func (.yield K.l) ⟨[]⟩ ⟨[]⟩)] 44)), (e2, some (.cells [ofV (dK (fd 0)) (fd 0) (nv fl 0)] 182)), (e3, some (.cells [cv] 3))]) (slA fd fl, mA ⟨K, fd, fl, c0, el0⟩ 0) :=
        wk_of (idR 4) rfl h0 (ren4A h0) (slA_rl _ _ rfl rfl rfl) ⟨⟨rfl, rfl, rfl, rfl, rfl⟩, ⟨rfl, rfl, trivial⟩, ⟨rfl, rl_ofV _ _ _ _, trivial⟩, ⟨rfl, hcell, trivial⟩, trivial⟩
      refine ⟨⟨K, fd, fl, c0, el0⟩, hp, rfl, rfl, w, fun j hj => absurd hj (Nat.not_lt_zero j), fun o ho => ?_⟩
      rcases hh with ⟨he, h⟩ | ⟨he, h⟩ <;> obtain rfl := T.is_ret h
      · exact ho.1 he
      · exact (ho.2 he).trans (by rw [lk_eq]; rfl)
    · exact h.elim
  · intro n0 q i hq hi
    have : q.el = elD _ _ := hq.2.2.2.2.1
    show (q.el i).length = 2
    rw [this]; rfl
  · intro n0 q i hq
    exact hq.1
  · intro n0 q i hq hi hans
    obtain ⟨K, fd, fl, c, el⟩ := q
    have hq' := hq
    obtain ⟨h0, hP, hd, hc, hel, hn, hK⟩ := hq'
    simp only [] at h0 hP hd hc hel hn hK hi
    have ex : el i = [.int .i64 (i : Int), .agg #[.int .i64 (idX (fd 0).1.1 (fd 0).1.2 i), .int .i64 (idY (fd 0).1.1 (fd 0).1.2 i)]] := by rw [hel]; unfold elD; rw [ixD_eq]; rfl
    have hi' : i < dSz (fd 0) := by omega
    obtain ⟨o1, o2, o3, o4⟩ := oc_of hd hi'
    have yk : ∀ v, v = dOw (fd 0) (nv fl 0) i → YldAsk P K.l K i [.int .i64 (i : Int), .int .i64 v] := fun v hv => ⟨hP, rfl, by omega, by rw [hK, hv]; rfl⟩
    have endA' := fun (fv : SV) (hf : fv = ofV (dK (fd 0)) (fd 0) (nv fl 0)) => endA (x := idX (fd 0).1.1 (fd 0).1.2 i) (y := idY (fd 0).1.1 (fd 0).1.2 i) (g0 := 1) (g1 := 0) (g2 := 0) (g3 := 0) (g4 := 1) (fv := fv) hq hi hans (by rw [hf]; exact rl_ofV _ _ _ _)
    have fit := fit_k (chD_zero.1 (dmE_zero.1 hd).2.2.1).2
    have fit : dK (fd 0) = 0 ∨ dK (fd 0) = 1 ∨ dK (fd 0) = 2 ∨ (dK (fd 0) = 3 ∧ _ ∧ _) ∨ dK (fd 0) = 4 := fit
    show ((sxR EA [] 4 #[26, 27] asA bdA (el i) (mkS 38 [1,2,3,4,5] (slA fd fl), memA K i (ofV (dK (fd 0)) (fd 0) (nv fl 0)) (dCol (fd 0)))).bind (fun r => .ret (r.1, r.2.2))).All _
    rw [ex]
    rcases fit with hk | hk | hk | ⟨hk, _⟩ | hk
    · have ev : ofV (dK (fd 0)) (fd 0) (nv fl 0) = .fn (.func 224) [] [rpD fun _ => fd 0] := by unfold ofV; rw [if_pos hk]
      obtain ⟨eN, eR⟩ := endA' _ ev.symm
      rw [ev]
      rw [t_A0]
      simp only [lk_eq, o1]
      exact ⟨o2, hk, yk _ ((ow_none hk).trans o4), eN, eR⟩
    · have ev : ofV (dK (fd 0)) (fd 0) (nv fl 0) = .fn (.func 225) [] [rpL fun _ => (nv fl 0, ()), rpD fun _ => fd 0] := by unfold ofV; rw [if_neg (by omega), if_pos hk]
      obtain ⟨eN, eR⟩ := endA' _ ev.symm
      rw [ev]
      rw [t_A1]
      simp only [lk_eq, o1]
      rw [hk] at o3
      exact ⟨o2, o3, yk _ o4, eN, eR⟩
    · have ev : ofV (dK (fd 0)) (fd 0) (nv fl 0) = .fn (.func 226) [] [rpL fun _ => (nv fl 0, ())] := by unfold ofV; rw [if_neg (by omega), if_neg (by omega), if_pos hk]
      obtain ⟨eN, eR⟩ := endA' _ ev.symm
      rw [ev]
      rw [t_A2]
      simp only [lk_eq, o1]
      exact ⟨o2, (by have := (dmE_zero.1 hd).1; show nv fl 0 ≠ 0; omega), yk _ ((ow_cyc hk).trans o4), eN, eR⟩
    · have ev : ofV (dK (fd 0)) (fd 0) (nv fl 0) = .fn (.func 227) [] [rpD fun _ => fd 0, rpL fun _ => (nv fl 0, ())] := by unfold ofV; rw [if_neg (by omega), if_neg (by omega), if_neg (by omega), if_pos hk]
      obtain ⟨eN, eR⟩ := endA' _ ev.symm
      rw [ev]
      rw [t_A3]
      simp only [lk_eq, o1]
      rw [hk] at o3
      exact ⟨o2, o3, yk _ o4, eN, eR⟩
    · have ev : ofV (dK (fd 0)) (fd 0) (nv fl 0) = .fn (.func 228) [] [rpD fun _ => fd 0, rpL fun _ => (nv fl 0, ())] := by unfold ofV; rw [if_neg (by omega), if_neg (by omega), if_neg (by omega), if_neg (by omega)]
      obtain ⟨eN, eR⟩ := endA' _ ev.symm
      rw [ev]
      rw [t_A4]
      simp only [lk_eq, o1]
      rw [hk] at o3
      exact ⟨o2, o3, yk _ o4, eN, eR⟩
  · intro n0 q hq hans
    have h0 : n0 ≤ 4 := hq.1
    have hall := okB_t.2 hans
    exact ⟨_, ⟨fun _ => rfl, fun h => absurd (hall.symm.trans h) (by decide)⟩, wk_of (idR 4) rfl h0 (ren4A h0) (slA_rl _ _ rfl rfl rfl) ⟨⟨rfl, rfl, rfl, rfl, rfl⟩, ⟨rfl, rfl, trivial⟩, ⟨rfl, rl_ofV _ _ _ _, trivial⟩, ⟨rfl, rfl, trivial⟩, trivial⟩⟩
end Go.RX.Span

/- Domain maps: all positions with their owners: what is yielded. -/
set_option linter.unusedVariables false
set_option linter.unusedSimpArgs false
set_option maxRecDepth 100000
namespace Go.RX.Span
open Go Go.RX
attribute [local irreducible] sx conB

noncomputable abbrev lA : List (Nat × Loops) := [(223, [(1006, .rng 209 sc209 (rfew 38 [1,2,3,4,5] gA))])] --%K
theorem lA_ok : ∀ p ∈ lA, LoopsOK P p.2 (bodyOf P p.1) := by
  intro p hp
  simp only [lA, List.mem_singleton] at hp
  subst hp
  refine loopsOK_ofR (by kernel_rfl) (by kernel_rfl) (fun k g hk => by simp at hk) fun k gf sc g hk => ?_
  simp only [List.mem_singleton, Prod.mk.injEq, LoopC.rng.injEq] at hk
  obtain ⟨rfl, rfl, rfl, rfl⟩ := hk
  exact ⟨sc209_ok, rangeA⟩
def DmAsk (d : DE) (L : Int) : Prop := dDm d L = 0
noncomputable def sc223 : SCon := fun args => match args with
  | [.rptr [.sl [.int .i64, .int .i64, .int .i64], .int .i64, .int .i64, .int .i64] 1 fd 0 0, .rptr [.int .i64] 1 fl 0 0] => .ask (lk DmAsk (fd 0) (lk nv fl 0)) (.ret (lk dSz (fd 0), lk elA (fd 0) (lk nv fl 0)))
  | _ => .stuck 1
noncomputable def c_all2 : Con := fun args => match args with
  | [.agg [.row [.int .i64, .int .i64, .int .i64] n f, .lit (.int .i64 k), .lit (.int .i64 s), .lit (.int .i64 h)], .lit (.int .i64 L)] => .ret (.fn (.func 223) [] [rpD fun _ => ((n, f), k, s, h, ()), rpL fun _ => (L, ())])
  | _ => .stuck 1
set_option maxRecDepth 100000 in
theorem t_all2 (n : Nat) (f : Nat → R3) (k s h L : Int) : conB Go.Proofs.Try.prog (conOf []) noLoops 10 187 [.agg [.row [.int .i64, .int .i64, .int .i64] n f, .lit (.int .i64 k), .lit (.int .i64 s), .lit (.int .i64 h)], .lit (.int .i64 L)] =
    T.ret (SV.fn (Fn.func (nat_lit 223)) [] [SV.rptr [.sl [.int .i64, .int .i64, .int .i64], .int .i64, .int .i64, .int .i64] (nat_lit 1) (fun x => ((n, f), k, s, h, PUnit.unit))
      (nat_lit 0) (nat_lit 0), SV.rptr [.int .i64] (nat_lit 1) (fun x => (L, PUnit.unit)) (nat_lit 0) (nat_lit 0)]) := by kernel_rfl
theorem all2_ok : ConOK P 187 c_all2 := con_of (allOK mixed none_ok) 10 187 fun args r h => by
  unfold c_all2 at h
  split at h
  · rename_i n f k s h' L
    obtain rfl := T.is_ret h
    rw [t_all2]
    rfl
  · exact h.elim
end Go.RX.Span

/- Domain maps: all positions with their owners: the iterator yields what is said. -/
set_option linter.unusedVariables false
set_option linter.unusedSimpArgs false
set_option maxRecDepth 100000
namespace Go.RX.Span
open Go Go.RX
attribute [local irreducible] sx conB

noncomputable abbrev dSz' (d : DE) : Nat := lk szDn d.1.1 d.1.2 d.2.1 d.2.2.1 d.2.2.2.1
/-- The walk behind the choice of the function. -/
noncomputable def tlA (K : Cons) (fd : Nat → DE) (fl : Nat → R1) (fv cv : SV) (g3 : Nat) : T (SV × Mem) :=
  .ask (Row64 (fd 0).1.1 (fd 0).1.2) (.ask (lk PreA 1 K (fd 0) (lk nv fl 0) (dSz' (fd 0)) (lk elD (fd 0).1.1 (fd 0).1.2) ∧ fv = ofV (dK (fd 0)) (fd 0) (lk nv fl 0) ∧ ColOk cv (lk dCol (fd 0)) ∧ K.l = K.l ∧ 44 = 44 ∧ 182 = 182 ∧ 3 = 3)
    (.br (lk okB K 0 (dSz' (fd 0))) (.ret (.tup [], [(1, some (.seq true K (dSz' (fd 0)))), (1, some (.cells [yieldV K] 44)), (2, some (.cells [fv] 182)), (g3, some (.cells [.lit (.int .i64 (lk dCol (fd 0)))] 3))]))
      (.ret (.tup [], [(1, some (.seq false K (lk stopA K 0 (dSz' (fd 0)) + 1))), (1, none), (2, none), (g3, none)]))))
noncomputable def brA (K : Cons) (fd : Nat → DE) (fl : Nat → R1) (fv : SV) : T (SV × Mem) :=
  .br (U.gt (Int.ofNat (fd 0).1.1) 1) (.ask ((0 : Int) ≤ 1 ∧ (1 : Int) < ((fd 0).1.1 : Int)) (.ask (I64 ((fd 0).1.2 (U.toNat 1)).1 ∧ I64 ((fd 0).1.2 (U.toNat 1)).2.1 ∧ I64 ((fd 0).1.2 (U.toNat 1)).2.2.1)
    (tlA K fd fl fv (.lit (.int .i64 (lk size ((fd 0).1.2 (U.toNat 1)).1 ((fd 0).1.2 (U.toNat 1)).2.1 ((fd 0).1.2 (U.toNat 1)).2.2.1))) 3))) (tlA K fd fl fv (.ki .i64 1) 2)
theorem t_223 (K : Cons) (fd : Nat → DE) (fl : Nat → R1) : scall P (conOf kA0) (loopsOf lA) 10 223 [yieldV K, rpD fd, rpL fl] [(0, some (.seq true K 0))] =
    .br (U.eq (dK (fd 0)) 0) (brA K fd fl (.fn (.func 224) [] [rpD fun _ => fd 0])) (.br (U.eq (dK (fd 0)) 1) (brA K fd fl (.fn (.func 225) [] [rpL fun _ => (nv fl 0, ()), rpD fun _ =>
      fd 0])) (.br (U.eq (dK (fd 0)) 2) (brA K fd fl (.fn (.func 226) [] [rpL fun _ => (nv fl 0, ())])) (.br (U.eq (dK (fd 0)) 3) (brA K fd fl (.fn (.func 227) [] [rpD fun _ => fd 0, rpL
      fun _ => (nv fl 0, ())])) (.br (U.eq (dK (fd 0)) 4) (brA K fd fl (.fn (.func 228) [] [rpD fun _ => fd 0, rpL fun _ => (nv fl 0, ())])) (.stuck 41))))) := by kernel_rfl
theorem tl_all {K : Cons} {fd : Nat → DE} {fl : Nat → R1} {fv cv : SV} {g3 : Nat} (hd : dDm (fd 0) (nv fl 0) = 0) (hK : K.P = P) (hn : K.n = dSz (fd 0)) (hel : K.el = elA (fd 0) (nv fl 0)) (hf : fv = ofV (dK (fd 0)) (fd 0) (nv fl 0)) (hc : ColOk cv (dCol (fd 0))) :
    (tlA K fd fl fv cv g3).All fun p => SeqEnd K p.2 := by
  have h64 : Row64 (fd 0).1.1 (fd 0).1.2 := dr_64 (chD_zero.1 (dmE_zero.1 hd).2.2.1).1
  unfold tlA
  simp only [dSz', lk_eq]
  exact ⟨h64, ⟨⟨by decide, hK, hd, rfl, rfl, hn, hel⟩, hf, hc, trivial, trivial, trivial, trivial⟩, fun _ => .inl (by rw [hn]; rfl), fun _ => .inr ⟨_, rfl⟩⟩
theorem br_all {K : Cons} {fd : Nat → DE} {fl : Nat → R1} {fv : SV} (hd : dDm (fd 0) (nv fl 0) = 0) (hK : K.P = P) (hn : K.n = dSz (fd 0)) (hel : K.el = elA (fd 0) (nv fl 0)) (hf : fv = ofV (dK (fd 0)) (fd 0) (nv fl 0)) :
    (brA K fd fl fv).All fun p => SeqEnd K p.2 := by
  obtain ⟨d1, _⟩ := chD_zero.1 (dmE_zero.1 hd).2.2.1
  have hdn : dN (fd 0) = 1 ∨ dN (fd 0) = 2 := d1.1
  unfold brA
  have t1 : U.toNat (1 : Int) = 1 := tn 1
  simp only [lk_eq, t1]
  refine ⟨fun g => ?_, fun g => tl_all hd hK hn hel hf (.inr ⟨rfl, ?_⟩)⟩
  · have g : (1 : Int) < ((dN (fd 0) : Nat) : Int) := U.gt_t.mp g
    refine ⟨⟨by decide, g⟩, dr_64 d1 1 (show 1 < dN (fd 0) by omega), tl_all hd hK hn hel hf (.inl ?_)⟩
    have hr := d1.2 1 (show 1 < dN (fd 0) by omega)
    have e := szN_R hr
    have ec : dCol (fd 0) = szR ((fd 0).1.2 1) := by
      show ((colN (fd 0).1.1 (fd 0).1.2 : Nat) : Int) = _
      have : ¬ dN (fd 0) = 1 := by omega
      exact (congrArg (fun v : Nat => (v : Int)) (if_neg this)).trans e
    exact congrArg (fun v => SV.lit (.int .i64 v)) ec.symm
  · have g : ((dN (fd 0) : Nat) : Int) ≤ 1 := U.gt_f.mp g
    show ((colN (fd 0).1.1 (fd 0).1.2 : Nat) : Int) = 1
    have : dN (fd 0) = 1 := by omega
    exact congrArg (fun v : Nat => (v : Int)) (if_pos this)
theorem sc223_ok : SConOK P 223 sc223 := scon_of (allOKL mixed kA0_ok lA_ok) 10 223 fun args q h K hK hn hel => by
  unfold sc223 at h
  split at h
  · rename_i fd fl
    have hd : dDm (fd 0) (nv fl 0) = 0 := by have := (T.is_ask h).1; simp only [lk_eq] at this; exact this
    obtain rfl := T.is_ret (T.is_ask h).2
    simp only [lk_eq] at hn hel
    refine T.all_of_eq (t_223 K fd fl) ?_
    have fit := fit_k (chD_zero.1 (dmE_zero.1 hd).2.2.1).2
    have fit : dK (fd 0) = 0 ∨ dK (fd 0) = 1 ∨ dK (fd 0) = 2 ∨ (dK (fd 0) = 3 ∧ _ ∧ _) ∨ dK (fd 0) = 4 := fit
    refine ⟨fun g => br_all hd hK hn hel ?_, fun g0 => ⟨fun g => br_all hd hK hn hel ?_, fun g1 => ⟨fun g => br_all hd hK hn hel ?_, fun g2 => ⟨fun g => br_all hd hK hn hel ?_, fun g3 => ⟨fun g => br_all hd hK hn hel ?_, fun g4 => ?_⟩⟩⟩⟩⟩
    · have g := U.eq_t.mp g; unfold ofV; rw [if_pos g]
    · have g := U.eq_t.mp g; unfold ofV; rw [if_neg (by omega), if_pos g]
    · have g := U.eq_t.mp g; unfold ofV; rw [if_neg (by omega), if_neg (by omega), if_pos g]
    · have g := U.eq_t.mp g; unfold ofV; rw [if_neg (by omega), if_neg (by omega), if_neg (by omega), if_pos g]
    · have g := U.eq_t.mp g; unfold ofV; rw [if_neg (by omega), if_neg (by omega), if_neg (by omega), if_neg (by omega)]
    · have a0 := U.eq_f.mp g0; have a1 := U.eq_f.mp g1; have a2 := U.eq_f.mp g2; have a3 := U.eq_f.mp g3; have a4 := U.eq_f.mp g4
      omega
  · exact h.elim
end Go.RX.Span

/- Domain maps: the local parts of all locales: the states. -/
set_option linter.unusedVariables false
set_option linter.unusedSimpArgs false
set_option maxRecDepth 100000
namespace Go.RX.Span
open Go Go.RX
attribute [local irreducible] sx conB

abbrev NF := Nat → Bool × Nat × (Nat → R1)
noncomputable abbrev cdPt : Code := rangeOf P 131 1003 --%K
noncomputable abbrev asPt : Code := match rangeOf P 131 1003 with | .rangeFunc _ _ a _ => a | _ => .skip --%K
noncomputable abbrev bdPt : Code := match rangeOf P 131 1003 with | .rangeFunc _ _ _ b => b | _ => .skip --%K
noncomputable abbrev EPt : Env := ⟨P, conOf [], scall P (conOf []) noLoops 10⟩
noncomputable abbrev memPt (N : Nat) (F : NF) : Mem := [(0, none), (0, some (.nest N [.int .i64] F none 35 3)), (0, some (.cells [.own false 1 N] 134))]
/-- The positions of a locale among the first so many. -/
def pkL (ow : Nat → Int) (i : Nat) (l : Int) : List Nat := (List.range i).filter fun p => decide (ow p = l)
noncomputable def nFd (d : DE) (L : Int) (i : Nat) : NF := fun l => (decide (pkL (dOw d L) i l = []), (pkL (dOw d L) i l).length, rowN (pkL (dOw d L) i l))
/-- The local parts, as rows. -/
noncomputable def paF (d : DE) (L : Int) (l : Nat) : Els [.sl [.int .i64]] := (((partL d.1.1 d.1.2 d.2.1 d.2.2.1 d.2.2.2.1 L l).length, rowN (partL d.1.1 d.1.2 d.2.1 d.2.2.1 d.2.2.2.1 L l)), ())
def PrePt (n0 : Nat) (d : DE) (L : Int) (c : Nat) (el : Nat → List Value) (N : Nat) (F : NF) : Prop := n0 ≤ 3 ∧ dDm d L = 0 ∧ c = dSz d ∧ el = elA d L ∧ N = U.toNat L ∧ c ≤ 5000 ∧ ∀ l, l < N → (F l).1 = true ∧ (F l).2.1 = 0
noncomputable def gPt : Nat → Nat → (Nat → List Value) → Few → T (Ex × Few)
  | n0, c, el, ([.lit (.int .i64 L), .ptr 2 0], [(_, some (.cells [.row [.int .i64, .int .i64, .int .i64] n f, .lit (.int .i64 k), .lit (.int .i64 s), .lit (.int .i64 h)] t0)), (_, some (.nest N [.int .i64] F none t1 t2)), (_, some (.cells [.own false 1 N'] t3))]) =>
    .ask (lk PrePt n0 ((n, f), k, s, h, ()) L c el N F ∧ N' = N ∧ t0 = 49 ∧ t1 = 35 ∧ t2 = 3 ∧ t3 = 134) (.ret (.normal, ([.lit (.int .i64 L), .ptr 2 0], memPt N (lk nFd ((n, f), k, s, h, ()) L c))))
  | _, _, _, _ => .stuck 1
structure XPt where
  (d : DE) (L : Int) (c : Nat) (el : Nat → List Value) (N : Nat) (F : NF)
end Go.RX.Span

/- Domain maps: the local parts of all locales: the walk. -/
set_option linter.unusedVariables false
set_option linter.unusedSimpArgs false
set_option maxRecDepth 100000
namespace Go.RX.Span
open Go Go.RX
attribute [local irreducible] sx conB

set_option maxRecDepth 100000 in
theorem t_Pt (N : Nat) (F : NF) (L p l : Int) : (sxR EPt [] 3 #[13, 14] asPt bdPt [.int .i64 p, .int .i64 l] (mkS 26 [1, 5] [.lit (.int .i64 L), .ptr 2 0], memPt N F)).bind (fun r => .ret (r.1, unf r.2.2)) =
    T.ask ((0 : Int) ≤ l ∧ l < ↑N) (.ask (U.toNat l < N) (.ask (((F (U.toNat l)).2.1 + (1 : Nat)) * nat_lit 8 ≤ nat_lit 140737488351232) (.ask ((0 : Int) ≤ l ∧ l < ↑N) (.ask (U.toNat l
      = U.toNat l) (.ret (Ex.normal, [(nat_lit 0, none), (nat_lit 3, some (Blk.nest N [.int .i64] (U.upd F (U.toNat l) (false, (F (U.toNat l)).2.1.add (nat_lit 1), U.cat (F (U.toNat
      l)).2.1 (F (U.toNat l)).snd.2 fun x => (p, PUnit.unit))) none (nat_lit 35) (nat_lit 3))), (nat_lit 0, some (Blk.cells [SV.own false (nat_lit 1) N] (nat_lit 134))), (nat_lit 1,
      none), (nat_lit 0, some (Blk.cells [.lit (.int .i64 p)] (nat_lit 3))), (nat_lit 1, none)])))))) := by kernel_rfl
theorem pk_s (ow : Nat → Int) (i : Nat) (l : Int) : pkL ow (i + 1) l = pkL ow i l ++ (if ow i = l then [i] else []) := by
  unfold pkL
  rw [List.range_succ, List.filter_append]
  by_cases h : ow i = l <;> simp [h]
theorem pk_len (ow : Nat → Int) (i : Nat) (l : Int) : (pkL ow i l).length ≤ i := Nat.le_trans (List.length_filter_le _ _) (by simp)
def oneR (x : Int) : R1 := (x, ())
theorem rowN_app (l : List Nat) (p : Nat) (x : Int) (hx : x = (p : Int)) : ∀ i, i < l.length + 1 → U.cat l.length (rowN l) (fun _ => oneR x) i = rowN (l ++ [p]) i := fun i hi => by
  refine (U.cat_eq _ _ _ _).trans ?_
  subst hx
  by_cases h : i < l.length
  · rw [if_pos h]; unfold rowN
    rw [List.getD_eq_getElem?_getD, List.getD_eq_getElem?_getD, List.getElem?_append_left h]
  · rw [if_neg h]
    obtain rfl : i = l.length := by omega
    unfold rowN
    rw [List.getD_eq_getElem?_getD, List.getElem?_append_right (Nat.le_refl _), Nat.sub_self]; rfl
theorem nat64 {x : Int} (h : 0 ≤ x) : ((U.toNat x : Nat) : Int) = x := by rw [U.toNat_eq]; omega
theorem rangePt : RangeC P cdPt (rfewN 26 [1, 5] gPt) := by
  refine range_fewN (E := EPt) (L := []) mixed (envOK (allOK mixed none_ok) 10) (g0 := .tmp 12) (ps := #[13, 14]) (assign := asPt) (body := bdPt) (by kernel_rfl) loopsOK_none loopsOK_none 26 [1, 5] (by decide) (X := XPt) gPt
    (fun _ q => [.lit (.int .i64 q.L), .ptr 2 0]) (fun _ q i => memPt q.N (nFd q.d q.L i)) (fun q => q.c) (fun q => q.el) (fun n0 q => PrePt n0 q.d q.L q.c q.el q.N q.F)
    (fun _ _ _ => True) (fun _ q o => o = (.normal, ([.lit (.int .i64 q.L), .ptr 2 0], memPt q.N (nFd q.d q.L q.c))))
    (fun _ _ => rfl) ?_ ?_ ?_ ?_ ?_
  · intro m0 c0 el0 st r h
    unfold gPt at h
    split at h
    · rename_i L e0 n f k s h' t0 e1 N F t1 t2 e2 N' t3
      obtain ⟨hp, rfl, rfl, rfl, rfl, rfl⟩ := (T.is_ask h).1
      obtain rfl := T.is_ret (T.is_ask h).2
      rw [lk_eq] at hp
      have h0 : m0 ≤ 3 := hp.1
      refine ⟨⟨((n, f), k, s, h', ()), L, c0, el0, N', F⟩, hp, rfl, rfl, ?_, trivial, fun o ho => by rw [ho]; simp only [lk_eq]⟩
      refine wk_of (idR 3) rfl h0 (renId h0) ⟨rfl, ⟨rfl, rfl⟩, trivial⟩ ⟨⟨rfl, rfl, rfl, rfl, eqShs_refl _, fun i hi => ?_⟩, ⟨rfl, ⟨rfl, rfl, rfl⟩, trivial⟩, trivial⟩
      obtain ⟨a1, a2⟩ := hp.2.2.2.2.2.2 i hi
      exact ⟨a1, a2, eqShs_refl _, fun j hj => absurd hj (Nat.not_lt_zero j)⟩
    · exact h.elim
  · intro n0 q i hq hi
    have : q.el = elA _ _ := hq.2.2.2.1
    show (q.el i).length = 2
    rw [this]; rfl
  · intro n0 q i hq
    exact hq.1
  · intro n0 q i hq hi _
    obtain ⟨d, L, c, el, N, F⟩ := q
    obtain ⟨h0, hd, hc, hel, hN, h5, _⟩ := hq
    simp only [] at h0 hd hc hel hN h5 hi
    subst hel hN
    obtain ⟨l1, l8, hch, _⟩ := dmE_zero.1 hd
    obtain ⟨o1, o2⟩ := owP_bnd (L := L) hd (show i < szDn d.1.1 d.1.2 d.2.1 d.2.2.1 d.2.2.2.1 from (by omega : i < dSz d))
    have o1 : 0 ≤ dOw d L i := o1
    have o2 : dOw d L i < L := o2
    have eo := nat64 o1
    have eL := nat64 (show 0 ≤ L by omega)
    have lp := pk_len (dOw d L) i ((U.toNat (dOw d L i) : Nat) : Int)
    refine T.all_of_eq (t_Pt (U.toNat L) (nFd d L i) L (i : Int) (dOw d L i)) ?_
    refine ⟨⟨o1, by omega⟩, by omega, ?_, ⟨o1, by omega⟩, rfl, trivial, ?_⟩
    · show ((pkL (dOw d L) i ((U.toNat (dOw d L i) : Nat) : Int)).length + 1) * 8 ≤ 140737488351232
      omega
    · refine wk_of (idR 3) rfl h0 (renId h0) ⟨rfl, ⟨rfl, rfl⟩, trivial⟩ ⟨⟨rfl, rfl, rfl, rfl, eqShs_refl _, fun j hj => ?_⟩, ⟨rfl, ⟨rfl, rfl, rfl⟩, trivial⟩, trivial⟩
      by_cases e : j = U.toNat (dOw d L i)
      · have eu : ∀ v, U.upd (nFd d L i) (U.toNat (dOw d L i)) v j = v := fun v => (U.upd_eq _ _ _ _).trans (if_pos e)
        have ep : pkL (dOw d L) (i + 1) (j : Int) = pkL (dOw d L) i (j : Int) ++ [i] := by rw [pk_s, if_pos (by rw [e, eo])]
        rw [eu]
        subst e
        refine ⟨?_, ?_, eqShs_refl _, fun x hx => ?_⟩
        · show false = decide (pkL (dOw d L) (i + 1) _ = [])
          rw [ep]; simp
        · show (pkL (dOw d L) i _).length + 1 = (pkL (dOw d L) (i + 1) _).length
          rw [ep, List.length_append]; rfl
        · have hx : x < (pkL (dOw d L) (i + 1) ((U.toNat (dOw d L i) : Nat) : Int)).length := hx
          rw [ep, List.length_append] at hx
          have := rowN_app (pkL (dOw d L) i ((U.toNat (dOw d L i) : Nat) : Int)) i (i : Int) rfl x hx
          rw [← ep] at this
          exact this
      · have eu : ∀ v, U.upd (nFd d L i) (U.toNat (dOw d L i)) v j = nFd d L i j := fun v => (U.upd_eq _ _ _ _).trans (if_neg e)
        have ep : pkL (dOw d L) (i + 1) (j : Int) = pkL (dOw d L) i (j : Int) := by rw [pk_s, if_neg (by omega), List.append_nil]
        rw [eu]
        have en : nFd d L (i + 1) j = nFd d L i j := by unfold nFd; rw [ep]
        rw [en]
        exact ⟨rfl, rfl, eqShs_refl _, fun x hx => rfl⟩
  · intro n0 q hq _
    have h0 : n0 ≤ 3 := hq.1
    exact ⟨_, rfl, wk_of (idR 3) rfl h0 (renId h0) ⟨rfl, ⟨rfl, rfl⟩, trivial⟩ ⟨⟨rfl, rfl, rfl, rfl, eqShs_refl _, fun j hj => ⟨rfl, rfl, eqShs_refl _, fun x hx => rfl⟩⟩, ⟨rfl, ⟨rfl, rfl, rfl⟩, trivial⟩, trivial⟩⟩
end Go.RX.Span

/- Domain maps: the local parts of all locales; Part. -/
set_option linter.unusedVariables false
set_option linter.unusedSimpArgs false
set_option maxRecDepth 100000
namespace Go.RX.Span
open Go Go.RX
attribute [local irreducible] sx conB

noncomputable abbrev lPt : List (Nat × Loops) := [(131, [(1003, .rng 223 sc223 (rfewN 26 [1, 5] gPt))])] --%K
theorem lPt_ok : ∀ p ∈ lPt, LoopsOK P p.2 (bodyOf P p.1) := by
  intro p hp
  simp only [lPt, List.mem_singleton] at hp
  subst hp
  refine loopsOK_ofR (by kernel_rfl) (by kernel_rfl) (fun k g hk => by simp at hk) fun k gf sc g hk => ?_
  simp only [List.mem_singleton, Prod.mk.injEq, LoopC.rng.injEq] at hk
  obtain ⟨rfl, rfl, rfl, rfl⟩ := hk
  exact ⟨sc223_ok, rangePt⟩
noncomputable abbrev kPt : List (Nat × Con) := [(187, c_all2)] --%K
theorem kPt_ok : ∀ p ∈ kPt, ConOK P p.1 p.2 := by
  intro p hp
  simp only [kPt, List.mem_singleton] at hp
  subst hp
  exact all2_ok
def PaAsk (n : Nat) (f : Nat → R3) (k s h L : Int) : Prop := dmE n f k s h L = 0 ∧ szDn n f k s h ≤ 5000
noncomputable def c_parts : Con := fun args => match args with
  | [.agg [.row [.int .i64, .int .i64, .int .i64] n f, .lit (.int .i64 k), .lit (.int .i64 s), .lit (.int .i64 h)], .lit (.int .i64 L)] => .ask (lk PaAsk n f k s h L) (.ret (.row [.sl [.int .i64]] (U.toNat L) (lk paF ((n, f), k, s, h, ()) L)))
  | _ => .stuck 1
set_option maxRecDepth 100000 in
theorem t_parts (n : Nat) (f : Nat → R3) (k s h L : Int) : conB Go.Proofs.Try.prog (conOf kPt) (loopsOf lPt) 10 131 [.agg [.row [.int .i64, .int .i64, .int .i64] n f, .lit (.int .i64 k), .lit (.int .i64 s), .lit (.int .i64 h)], .lit (.int .i64 L)] =
    T.ask ((0 : Int) ≤ L ∧ L ≤ L ∧ ↑(nat_lit 24) * L ≤ (281474976710656 : Int) ∧ L ≤ (140737488351232 : Int)) (.ask (lk DmAsk ((fun x => ((n, f), k, s, h, ())) (0 : Nat)) (lk nv (fun x
      => (L, PUnit.unit)) (nat_lit 0))) (.ask ((lk PrePt (nat_lit 0) ((n, f), k, s, h, ()) L (lk dSz ((n, f), k, s, h, PUnit.unit)) (lk dSz ((n, f), k, s, h, PUnit.unit), lk elA ((fun x
      => ((n, f), k, s, h, ())) (0 : Nat)) (lk nv (fun x => (L, PUnit.unit)) (nat_lit 0))).snd (U.toNat L) fun x => (true, (0 : Nat), fun x => zeroEs [.int .i64])) ∧ U.toNat L = U.toNat L
      ∧ (49 : Nat) = (49 : TypeId) ∧ (35 : Nat) = (35 : TypeId) ∧ (3 : Nat) = (3 : TypeId) ∧ (134 : Nat) = (134 : TypeId)) (.ret (.row [.sl [.int .i64]] (U.toNat L) fun i => (((lk nFd
      ((n, f), k, s, h, ()) L (lk dSz ((fun x => ((n, f), k, s, h, ())) (0 : Nat)), lk elA ((fun x => ((n, f), k, s, h, ())) (0 : Nat)) (lk nv (fun x => (L, ())) (0 : Nat))).fst i).2.1,
      (lk nFd ((n, f), k, s, h, ()) L (lk dSz ((fun x => ((n, f), k, s, h, ())) (0 : Nat)), lk elA ((fun x => ((n, f), k, s, h, ())) (0 : Nat)) (lk nv (fun x => (L, ())) (0 : Nat))).fst
      i).snd.2), PUnit.unit))))) := by kernel_rfl
theorem parts_ok : ConOK P 131 c_parts := con_cl (allOKL mixed kPt_ok lPt_ok) 10 131 fun args r hh => by
  unfold c_parts at hh
  split at hh
  · rename_i n f k s h L
    obtain ⟨hd, h5⟩ := (lk_eq PaAsk ▸ (T.is_ask hh).1 : PaAsk n f k s h L)
    obtain rfl := T.is_ret (T.is_ask hh).2
    obtain ⟨l1, l8, _⟩ := dmE_zero.1 hd
    refine T.all_of_eq (t_parts n f k s h L) ?_
    simp only [lk_eq]
    refine ⟨⟨by omega, by omega, ?_, by omega⟩, hd, ⟨⟨by decide, hd, rfl, rfl, rfl, h5, fun l hl => ⟨rfl, rfl⟩⟩, trivial, trivial, trivial, trivial, trivial⟩, rfl, eqShs_refl _, fun i hi => rfl⟩
    show (24 : Int) * L ≤ 281474976710656
    omega
  · exact hh.elim
end Go.RX.Span

/- Domain maps: Part, the awake's contracts. -/
set_option linter.unusedVariables false
set_option linter.unusedSimpArgs false
set_option maxRecDepth 100000
namespace Go.RX.Span
open Go Go.RX
attribute [local irreducible] sx conB

/-- The part of a locale, as a row; its length. -/
noncomputable def ptE (n : Nat) (f : Nat → R3) (k s h L l : Int) : Int := lcE n f k s h L l
noncomputable def ptN (n : Nat) (f : Nat → R3) (k s h L l : Int) : Nat := if lcE n f k s h L l ≠ 0 then 0 else (partL n f k s h L l).length
noncomputable def ptF (n : Nat) (f : Nat → R3) (k s h L l : Int) : Nat → R1 := rowN (partL n f k s h L l)
noncomputable def c_Part : Con := fun args => match args with
  | [.agg [.row [.int .i64, .int .i64, .int .i64] n f, .lit (.int .i64 k), .lit (.int .i64 s), .lit (.int .i64 h)], .lit (.int .i64 L), .lit (.int .i64 l)] => .ask (Row64 n f) (.ret (.tup [.row [.int .i64] (lk ptN n f k s h L l) (lk ptF n f k s h L l), .lit (.int .i64 (lk ptE n f k s h L l))]))
  | _ => .stuck 1
noncomputable abbrev kPp : List (Nat × Con) := [(134, c_located), (129, c_listed), (131, c_parts)] --%K
theorem kPp_ok : ∀ p ∈ kPp, ConOK P p.1 p.2 := by
  intro p hp
  simp only [kPp, List.mem_cons, List.not_mem_nil, or_false] at hp
  rcases hp with rfl | rfl | rfl
  · exact located_ok
  · exact listed_ok
  · exact parts_ok
end Go.RX.Span

/- Domain maps: Part. -/
set_option linter.unusedVariables false
set_option linter.unusedSimpArgs false
set_option maxRecDepth 100000
namespace Go.RX.Span
open Go Go.RX
attribute [local irreducible] sx conB

set_option maxRecDepth 100000 in
theorem t_Part (n : Nat) (f : Nat → R3) (k s h L l : Int) : conB Go.Proofs.Try.prog (conOf kPp) noLoops 10 47 [.agg [.row [.int .i64, .int .i64, .int .i64] n f, .lit (.int .i64 k), .lit (.int .i64 s), .lit (.int .i64 h)], .lit (.int .i64 L), .lit (.int .i64 l)] =
    T.ask (Row64 n f) (.br (U.ne (lk lcE n f k s h L l) (0 : Int)) (.ret (.tup [.lit (.slice none (nat_lit 0) (nat_lit 0)), .lit (.int .i64 (lk lcE n f k s h L l))])) (.ask (lk PaAsk n
      f k s h L) (.ask ((0 : Int) ≤ l ∧ l < ↑(U.toNat L)) (.ret (.tup [.row [.int .i64] (lk paF ((n, f), k, s, h, ()) L (U.toNat l)).fst.1 (lk paF ((n, f), k, s, h, ()) L (U.toNat
      l)).fst.2, .lit (.int .i64 0)]))))) := by kernel_rfl
section
variable {n : Nat} {f : Nat → R3} {k s h L l : Int}
theorem lsE_zero : lsE n f k s h L = 0 ↔ dmE n f k s h L = 0 ∧ szD n f k s h ≤ 5000 := by
  unfold lsE
  by_cases h1 : dmE n f k s h L = 0
  · rw [if_neg (by simp [h1])]
    by_cases h2 : 5000 < szD n f k s h
    · rw [if_pos h2]; exact ⟨fun g => by omega, fun g => by omega⟩
    · rw [if_neg h2]; exact ⟨fun _ => ⟨h1, by omega⟩, fun _ => rfl⟩
  · rw [if_pos h1]; exact ⟨fun g => absurd g h1, fun g => absurd g.1 h1⟩
theorem lcE_zero : lcE n f k s h L l = 0 ↔ lsE n f k s h L = 0 ∧ 0 ≤ l ∧ l < L := by
  unfold lcE
  by_cases h1 : lsE n f k s h L = 0
  · rw [if_neg (by simp [h1])]
    by_cases h2 : l < 0 ∨ L ≤ l
    · rw [if_pos h2]; exact ⟨fun g => by omega, fun g => by omega⟩
    · rw [if_neg h2]; exact ⟨fun _ => ⟨h1, by omega⟩, fun _ => rfl⟩
  · rw [if_pos h1]; exact ⟨fun g => absurd g h1, fun g => absurd g.1 h1⟩
theorem pa_ask (h0 : lsE n f k s h L = 0) : PaAsk n f k s h L := by
  obtain ⟨h1, h2⟩ := lsE_zero.1 h0
  refine ⟨h1, ?_⟩
  unfold szDn; omega
end
theorem Part_ok : ConOK P 47 c_Part := con_cl (allOK mixed kPp_ok) 10 47 fun args r hh => by
  unfold c_Part at hh
  split at hh
  · rename_i n f k s h L l
    have d := (T.is_ask hh).1
    obtain rfl := T.is_ret (T.is_ask hh).2
    refine T.all_of_eq (t_Part n f k s h L l) ?_
    simp only [lk_eq]
    refine ⟨d, fun g => ?_, fun g => ?_⟩
    · have g := U.ne_t.mp g
      have e : ptN n f k s h L l = 0 := by unfold ptN; rw [if_pos g]
      rw [e]
      exact ⟨cl_nil, .inl rfl, rfl⟩
    · have g := U.ne_f.mp g
      obtain ⟨g1, g2, g3⟩ := lcE_zero.1 g
      have e : ptN n f k s h L l = (partL n f k s h L l).length := by unfold ptN; rw [if_neg (by simp [g])]
      have el := nat64 g2
      have eL := nat64 (show 0 ≤ L by omega)
      rw [e]
      refine ⟨pa_ask g1, ⟨g2, by omega⟩, ⟨?_, eqShs_refl _, fun i hi => ?_⟩, .inl (congrArg (fun v => SV.lit (.int .i64 v)) g), rfl⟩
      · show (partL n f k s h L ((U.toNat l : Nat) : Int)).length = _
        rw [el]
      · show rowN (partL n f k s h L ((U.toNat l : Nat) : Int)) i = rowN (partL n f k s h L l) i
        rw [el]
  · exact hh.elim
end Go.RX.Span

/- Domain maps: the example of the laws: contracts. -/
set_option linter.unusedVariables false
set_option linter.unusedSimpArgs false
set_option maxRecDepth 100000
namespace Go.RX.Span
open Go Go.RX
attribute [local irreducible] sx conB

noncomputable abbrev kW0 : List (Nat × Con) := [(47, c_Part), (53, c_Hash), (30, c_Equal)] --%K
theorem kW0_ok : ∀ p ∈ kW0, ConOK P p.1 p.2 := by
  intro p hp
  simp only [kW0, List.mem_cons, List.not_mem_nil, or_false] at hp
  rcases hp with rfl | rfl | rfl
  · exact Part_ok
  · exact Hash_ok
  · exact Equal_ok
end Go.RX.Span

/- Domain maps: the example of the laws. -/
set_option linter.unusedVariables false
set_option linter.unusedSimpArgs false
set_option maxRecDepth 100000
namespace Go.RX.Span
open Go Go.RX
attribute [local irreducible] sx conB

def exD : Nat → R3 := fun _ => ((0 : Int), (9 : Int), (1 : Int), ())
def ex5 : Nat → R1 := fun _ => oneR 5
def exL : List R1 := [oneR 0, oneR 1, oneR 8, oneR 9]
theorem t_awake5 : (conB P (conOf kW0) noLoops 10 42 []).force [true, true] = .ask (Row64 1 exD) (.ask (U.eq (lk ptE 1 exD 3 2 0 4 0) 0 = true) (.ask (lk ptN 1 exD 3 2 0 4 0 ≤ 9223372036854775807)
    (.ask (lk eqR (lk ptN 1 exD 3 2 0 4 0) (lk ptF 1 exD 3 2 0 4 0) 4 (U.nth exL (oneR 0)) = true) (.ask (1 ≤ 1000000 ∧ I64s 1 ex5) (.ret (.lit (.bool (U.eq (lk hashN ex5 1) 222)))))))) := by kernel_rfl
theorem exPt : ptE 1 exD 3 2 0 4 0 = 0 := by decide +kernel
theorem exPl : partL 1 exD 3 2 0 4 0 = [0, 1, 8, 9] := by decide +kernel
theorem exH : hashN ex5 1 = 222 := by decide +kernel
theorem awake5_ok : ConOK P 42 c_true := con_force (allOK mixed kW0_ok) 10 42 fun args r h => by
  unfold c_true at h
  split at h
  · obtain rfl := T.is_ret h
    have eN : ptN 1 exD 3 2 0 4 0 = 4 := by unfold ptN; rw [if_neg (by have : lcE 1 exD 3 2 0 4 0 = 0 := exPt; simp [this]), exPl]; rfl
    refine ⟨_, T.all_of_eq t_awake5 ?_⟩
    simp only [lk_eq]
    refine ⟨fun i hi => (show I64 0 ∧ I64 9 ∧ I64 1 by unfold I64; omega), U.eq_t.mpr exPt, by rw [eN]; decide, eqR_t.2 ⟨eN, fun i hi => ?_⟩, ⟨by decide, fun i hi => (show I64 5 by unfold I64; omega)⟩, .inl ?_⟩
    · rw [eN] at hi
      show (rowN (partL 1 exD 3 2 0 4 0) i).1 = (U.nth exL (oneR 0) i).1
      rw [exPl, U.nth_eq]
      rcases (show i = 0 ∨ i = 1 ∨ i = 2 ∨ i = 3 by omega) with rfl | rfl | rfl | rfl <;> rfl
    · rw [U.eq_t.mpr exH]
  · exact h.elim
end Go.RX.Span

/- Domain maps: Counts, the least and the greatest of a list: the states. -/
set_option linter.unusedVariables false
set_option linter.unusedSimpArgs false
set_option maxRecDepth 100000
namespace Go.RX.Span
open Go Go.RX
attribute [local irreducible] sx conB

abbrev RL := Els [.sl [.int .i64]]
/-- The lengths of lists. -/
def lenL (F : Nat → RL) (i : Nat) : Int := (((F i).1.1 : Nat) : Int)
def lenF (F : Nat → RL) (i : Nat) : R1 := oneR (lenL F i)
noncomputable abbrev slMp (n : Nat) (F : Nat → RL) (u : Bool) (j : Nat) (i : Int) : List SV := [.fn (.func 132) [] [], .own u 0 j, .row [.sl [.int .i64]] n F, .lit (.int .i64 (n : Int)), .lit (.int .i64 i)]
noncomputable abbrev memMp (F : Nat → RL) (u : Bool) (j : Nat) (G : Nat → R1) : Mem := [(0, some (.row u j [.int .i64] G 3))]
noncomputable def gMp : Nat → Few → T (Ex × Few)
  | n0, ([.fn (.func 132) [] [], .lit (.slice none 0 0), .row [.sl [.int .i64]] n F, .lit (.int .i64 N'), .ki .i64 0], []) =>
    .ask (n0 = 0 ∧ n ≤ 100000 ∧ N' = (n : Int)) (.ret (.exit 0, (slMp n F (U.isz n) n (n : Int), memMp F (U.isz n) n (lk lenF F))))
  | _, _ => .stuck 1
noncomputable def c_mapped : Con := fun args => match args with
  | [.row [.sl [.int .i64]] n F, .fn (.func 132) [] []] => .ask (n ≤ 100000) (.ret (.row [.int .i64] n (lk lenF F)))
  | _ => .stuck 1
noncomputable abbrev lMp : List (Nat × Loops) := [(130, [(3, .sum (few 22 [1,5,8,9,10] gMp))])] --%K
/-- The greatest and the least of the first so many numbers. -/
def mmN (b : Bool) (e : Nat → R1) : Nat → Int
  | 0 => nv e 0
  | j + 1 => if b = true then max (mmN b e j) (nv e j) else min (mmN b e j) (nv e j)
noncomputable def ctN (n : Nat) (f : Nat → R3) (k s h L : Int) : Nat := if lsE n f k s h L ≠ 0 then 0 else U.toNat L
noncomputable def ctF (n : Nat) (f : Nat → R3) (k s h L : Int) (l : Nat) : R1 := oneR (((partL n f k s h L l).length : Nat) : Int)
noncomputable def c_Counts : Con := fun args => match args with
  | [.agg [.row [.int .i64, .int .i64, .int .i64] n f, .lit (.int .i64 k), .lit (.int .i64 s), .lit (.int .i64 h)], .lit (.int .i64 L)] => .ask (Row64 n f) (.ret (.tup [.row [.int .i64] (lk ctN n f k s h L) (lk ctF n f k s h L), .lit (.int .i64 (lk lsE n f k s h L))]))
  | _ => .stuck 1
noncomputable def fewB (n : Nat) (f : Nat → R3) (k s h : Int) (w : Int) : Bool := decide (n ≤ 10 ∧ (szD n f k s h ≤ w ∨ 5000 < szD n f k s h))
noncomputable def c_Few : Con := fun args => match args with
  | [.agg [.row [.int .i64, .int .i64, .int .i64] n f, .lit (.int .i64 k), .lit (.int .i64 s), .lit (.int .i64 h)], .lit (.int .i64 w)] => .ask (Row64 n f) (.ret (.lit (.bool (lk fewB n f k s h w))))
  | _ => .stuck 1
end Go.RX.Span

/- Domain maps: Counts, the least and the greatest of a list: the walks. -/
set_option linter.unusedVariables false
set_option linter.unusedSimpArgs false
set_option maxRecDepth 100000
namespace Go.RX.Span
open Go Go.RX
attribute [local irreducible] sx conB

--%R ↑n = ↑n => ((n : Nat) : Int) = ((n : Nat) : Int)
set_option maxRecDepth 100000 in
theorem t_Mp (n : Nat) (F : Nat → RL) (u : Bool) (j : Nat) (i : Int) (G : Nat → R1) : (sx E0 [] 0 (loopOf P 130 3) (mkS 22 [1,5,8,9,10] (slMp n F u j i), memMp F u j G)).bind (proj 22 [1,5,8,9,10]) =
    T.br (U.lt i (Int.ofNat n)) (.ask ((0 : Int) ≤ i ∧ i < ↑n) (.ask ((j + (1 : Nat)) * nat_lit 8 ≤ nat_lit 140737488351232) (.ret (Ex.normal, [SV.fn (Fn.func (nat_lit 132)) [] [],
      SV.own false (nat_lit 2) (j.add (nat_lit 1)), .row [.sl [.int .i64]] n F, .lit (.int .i64 (Int.ofNat n)), .lit (.int .i64 (U.add .i64 i (1 : Int)))], [(nat_lit 1, none), (nat_lit 0,
      some (Blk.cells [.lit (.int .i64 (Int.ofNat (F (U.toNat i)).fst.1))] (nat_lit 3))), (nat_lit 0, some (Blk.row false (j.add (nat_lit 1)) [.int .i64] (U.cat j G fun x => (Int.ofNat (F
      (U.toNat i)).fst.1, PUnit.unit)) (nat_lit 3)))])))) (.ret (Ex.exit (nat_lit 0), [SV.fn (Fn.func (nat_lit 132)) [] [], SV.own u (nat_lit 0) j, .row [.sl [.int .i64]] n F, .lit (.int
      .i64 (Int.ofNat n)), .lit (.int .i64 i)], [(nat_lit 0, some (Blk.row u j [.int .i64] G (nat_lit 3)))])) := by kernel_rfl
set_option maxRecDepth 100000 in
theorem t_mapped (n : Nat) (F : Nat → RL) : conB Go.Proofs.Try.prog (conOf []) (loopsOf lMp) 10 130 [.row [.sl [.int .i64]] n F, .fn (.func 132) [] []] =
    T.ask (nat_lit 0 = (0 : Nat) ∧ n ≤ (100000 : Nat) ∧ ((n : Nat) : Int) = ((n : Nat) : Int)) (.ret (.row [.int .i64] n (lk lenF F))) := by kernel_rfl
set_option maxRecDepth 100000 in
theorem t_Few (n : Nat) (f : Nat → R3) (k s h w : Int) : conB Go.Proofs.Try.prog (conOf kQ0) noLoops 10 39 [.agg [.row [.int .i64, .int .i64, .int .i64] n f, .lit (.int .i64 k), .lit (.int .i64 s), .lit (.int .i64 h)], .lit (.int .i64 w)] =
    T.ask (Row64 n f) (.br (U.le (Int.ofNat n) (10 : Int)) (.br (U.le (lk szD n f k s h) w) (.ret (.lit (.bool true))) (.ret (.lit (.bool (U.gt (lk szD n f k s h) (5000 : Int))))))
      (.ret (.lit (.bool false)))) := by kernel_rfl
set_option maxRecDepth 100000 in
theorem t_Counts (n : Nat) (f : Nat → R3) (k s h L : Int) : conB Go.Proofs.Try.prog (conOf ((130, c_mapped) :: kPp)) noLoops 10 43 [.agg [.row [.int .i64, .int .i64, .int .i64] n f, .lit (.int .i64 k), .lit (.int .i64 s), .lit (.int .i64 h)], .lit (.int .i64 L)] =
    T.ask (Row64 n f) (.br (U.ne (lk lsE n f k s h L) (0 : Int)) (.ret (.tup [.lit (.slice none (nat_lit 0) (nat_lit 0)), .lit (.int .i64 (lk lsE n f k s h L))])) (.ask (lk PaAsk n f k
      s h L) (.ask (U.toNat L ≤ (100000 : Nat)) (.ret (.tup [.row [.int .i64] (U.toNat L) (lk lenF (lk paF ((n, f), k, s, h, PUnit.unit) L)), .lit (.int .i64 0)]))))) := by kernel_rfl
end Go.RX.Span

/- Domain maps: Counts, the least and the greatest of a list: the contracts. -/
set_option linter.unusedVariables false
set_option linter.unusedSimpArgs false
set_option maxRecDepth 100000
namespace Go.RX.Span
open Go Go.RX
attribute [local irreducible] sx conB

structure XMp where
  (n : Nat) (F : Nat → RL) (j : Nat)
noncomputable abbrev VMp (q : XMp) : Few := (slMp q.n q.F (U.isz q.j) q.j (q.j : Int), memMp q.F (U.isz q.j) q.j (lenF q.F))
noncomputable def OMp (q : XMp) : Ex × Few := (.exit 0, VMp { q with j := q.n })
def PhiMp (n0 : Nat) (q : XMp) : Prop := n0 = 0 ∧ q.n ≤ 100000 ∧ q.j ≤ q.n
theorem rowRL {n : Nat} {f g : Nat → RL} (h : ∀ i, i < n → f i = g i) : sameRow n f g := ⟨eqShs_refl _, fun i hi => h i hi⟩
theorem ren1z (ρ : Ren) : ∀ b, b < 0 → ρ.of b = some b := fun b hb => absurd hb (Nat.not_lt_zero b)
theorem isz_s (j : Nat) : U.isz (j + 1) = false := by rw [U.isz_eq]; simp
theorem roundMp (n0 : Nat) (q : XMp) (hq : PhiMp n0 q) : ((sx E0 [] n0 (loopOf P 130 3) (mkS 22 [1,5,8,9,10] (VMp q).1, (VMp q).2)).bind (proj 22 [1,5,8,9,10])).All fun r => match r.1 with
      | .normal => ∃ q', PhiMp n0 q' ∧ q'.n - q'.j < q.n - q.j ∧ Wk 22 [1,5,8,9,10] n0 r.2 (VMp q') ∧ ∀ o, o = OMp q' → o = OMp q
      | e => ∃ s, (e, s) = OMp q ∧ Wk 22 [1,5,8,9,10] n0 r.2 s := by
  obtain ⟨n, F, j⟩ := q
  obtain ⟨h0, hn, hj⟩ := hq
  simp only [] at h0 hn hj
  subst h0
  refine T.all_of_eq (t_Mp n F (U.isz j) j (j : Int) (lenF F)) ?_
  have e2 : U.add .i64 (j : Int) 1 = ((j + 1 : Nat) : Int) := by rw [U.add64 (by unfold I64; omega)]; omega
  simp only [tnH, e2]
  by_cases hlt : j < n
  · refine ⟨fun _ => ⟨⟨by omega, by omega⟩, ?_, ⟨n, F, j + 1⟩, ⟨rfl, hn, by simp only []; omega⟩, by simp only []; omega, ?_, fun o ho => ho⟩, fun h => absurd (U.lt_f.mp h) (by simp only [Int.ofNat_eq_natCast]; omega)⟩
    · show (j + 1) * 8 ≤ 140737488351232
      omega
    · refine wk_of [some 2] rfl (Nat.zero_le _) (ren1z _) ⟨⟨rfl, trivial, trivial⟩, ⟨(isz_s j).symm, rfl, rfl⟩, ⟨rfl, rowRL fun _ _ => rfl⟩, rfl, rfl, trivial⟩ ⟨⟨rfl, (isz_s j).symm, rfl, row1H fun i hi => ?_⟩, trivial⟩
      refine (U.cat_eq _ _ _ _).trans ?_
      by_cases hi' : i < j
      · exact if_pos hi'
      · have hi : i < j + 1 := hi
        obtain rfl : i = j := by omega
        exact if_neg hi'
  · obtain rfl : j = n := by omega
    refine ⟨fun h => absurd (U.lt_t.mp h) (by simp only [Int.ofNat_eq_natCast]; omega), fun _ => ⟨_, rfl, ?_⟩⟩
    exact wk_of [some 0] rfl (Nat.zero_le _) (ren1z _) ⟨⟨rfl, trivial, trivial⟩, ⟨rfl, rfl, rfl⟩, ⟨rfl, rowRL fun _ _ => rfl⟩, rfl, rfl, trivial⟩ ⟨⟨rfl, rfl, rfl, row1H fun _ _ => rfl⟩, trivial⟩
theorem loopMp : LoopOK P (loopOf P 130 3) (few 22 [1,5,8,9,10] gMp) :=
  loop_few (E := E0) mixed E0_ok loopsOK_none 22 [1,5,8,9,10] (X := XMp) gMp (fun _ x => VMp x) PhiMp (fun q => q.n - q.j) (fun _ x o => o = OMp x)
    (fun n0 st r h => by
      unfold gMp at h
      split at h
      · rename_i n0 n F N'
        obtain ⟨h0, hn, rfl⟩ := (T.is_ask h).1
        obtain rfl := T.is_ret (T.is_ask h).2
        subst h0
        have z0 : U.isz 0 = true := by rw [U.isz_eq]; rfl
        exact ⟨⟨n, F, 0⟩, ⟨rfl, hn, Nat.zero_le _⟩, wk_of [none] rfl (Nat.zero_le _) (ren1z _) ⟨⟨rfl, trivial, trivial⟩, ⟨rfl, z0, rfl⟩, ⟨rfl, rowRL fun _ _ => rfl⟩, rfl, rfl, trivial⟩ ⟨⟨z0, rfl⟩, trivial⟩, fun o ho => by rw [ho]; simp only [lk_eq]; rfl⟩
      · exact h.elim)
    roundMp
theorem lMp_ok : ∀ p ∈ lMp, LoopsOK P p.2 (bodyOf P p.1) := by
  intro p hp
  simp only [lMp, List.mem_singleton] at hp
  subst hp
  refine loopsOK_of (by kernel_rfl) fun k g hk => ?_
  simp only [List.mem_singleton, Prod.mk.injEq, LoopC.sum.injEq] at hk
  obtain ⟨rfl, rfl⟩ := hk
  exact loopMp
theorem mapped_ok : ConOK P 130 c_mapped := con_of (allOKL mixed none_ok lMp_ok) 10 130 fun args r h => by
  unfold c_mapped at h
  split at h
  · rename_i n F
    have hn := (T.is_ask h).1
    obtain rfl := T.is_ret (T.is_ask h).2
    rw [t_mapped]
    exact ⟨⟨rfl, hn, rfl⟩, rfl⟩
  · exact h.elim
theorem Few_ok : ConOK P 39 c_Few := con_of (allOK mixed kQ0_ok) 10 39 fun args r h => by
  unfold c_Few at h
  split at h
  · rename_i n f k s h' w
    have d := (T.is_ask h).1
    obtain rfl := T.is_ret (T.is_ask h).2
    refine T.all_of_eq (t_Few n f k s h' w) ?_
    simp only [lk_eq]
    have key : ∀ x, x = fewB n f k s h' w → SV.lit (.bool x) = SV.lit (.bool (fewB n f k s h' w)) := fun x hx => by rw [hx]
    refine ⟨d, fun g => ⟨fun g2 => key _ ?_, fun g2 => key _ ?_⟩, fun g => key _ ?_⟩
    · have a := U.le_t.mp g; have b := U.le_t.mp g2
      simp only [Int.ofNat_eq_natCast] at a
      exact (decide_eq_true ⟨by omega, .inl b⟩).symm
    · have a := U.le_t.mp g; have b := U.le_f.mp g2
      simp only [Int.ofNat_eq_natCast] at a
      unfold fewB
      rw [Bool.eq_iff_iff, U.gt_t, decide_eq_true_eq]
      constructor
      · intro c; exact ⟨by omega, .inr c⟩
      · rintro ⟨_, c | c⟩ <;> omega
    · have a := U.le_f.mp g
      simp only [Int.ofNat_eq_natCast] at a
      exact (decide_eq_false fun c => by omega).symm
  · exact h.elim
noncomputable abbrev kCt : List (Nat × Con) := (130, c_mapped) :: kPp
theorem kCt_ok : ∀ p ∈ kCt, ConOK P p.1 p.2 := by
  intro p hp
  simp only [kCt, List.mem_cons] at hp
  rcases hp with rfl | hp
  · exact mapped_ok
  · exact kPp_ok p (by simpa [kPp] using hp)
theorem Counts_ok : ConOK P 43 c_Counts := con_cl (allOK mixed kCt_ok) 10 43 fun args r hh => by
  unfold c_Counts at hh
  split at hh
  · rename_i n f k s h L
    have d := (T.is_ask hh).1
    obtain rfl := T.is_ret (T.is_ask hh).2
    refine T.all_of_eq (t_Counts n f k s h L) ?_
    simp only [lk_eq]
    refine ⟨d, fun g => ?_, fun g => ?_⟩
    · have g := U.ne_t.mp g
      have e : ctN n f k s h L = 0 := by unfold ctN; rw [if_pos g]
      rw [e]
      exact ⟨cl_nil, .inl rfl, rfl⟩
    · have g := U.ne_f.mp g
      have e : ctN n f k s h L = U.toNat L := by unfold ctN; rw [if_neg (by simp [g])]
      obtain ⟨l1, l8, _⟩ := dmE_zero.1 (lsE_zero.1 g).1
      have eL := nat64 (show 0 ≤ L by omega)
      rw [e]
      exact ⟨pa_ask g, by omega, ⟨rfl, row1H fun i hi => rfl⟩, .inl (congrArg (fun v => SV.lit (.int .i64 v)) g), rfl⟩
  · exact hh.elim
end Go.RX.Span

/- Domain maps: Global, Local: plain; BinarySearch: its loop. -/
set_option linter.unusedVariables false
set_option linter.unusedSimpArgs false
set_option maxRecDepth 100000
namespace Go.RX.Span
open Go Go.RX
attribute [local irreducible] sx conB

/-- How many numbers of an ascending list are less. -/
def bsI (n : Nat) (e : Nat → R1) (x : Int) : Nat := ((List.range n).filter fun i => decide (nv e i < x)).length
def BsAsk (n : Nat) (e : Nat → R1) : Prop := n ≤ 100000 ∧ ∀ i j, i < j → j < n → nv e i < nv e j
section
variable (n : Nat) (f : Nat → R3) (k s h L : Int)
end
end Go.RX.Span

/- Domain maps: Global, Local, BinarySearch: the walks. -/
set_option linter.unusedVariables false
set_option linter.unusedSimpArgs false
set_option maxRecDepth 100000
namespace Go.RX.Span
open Go Go.RX
attribute [local irreducible] sx conB

--%R ↑n = ↑n => ((n : Nat) : Int) = ((n : Nat) : Int)
--%R ↑\((lk\s+bsI\s+n\s+e\s+x)\) => ((\1 : Nat) : Int)
end Go.RX.Span

/- Domain maps: Global, Local, BinarySearch: the contracts. -/
set_option linter.unusedVariables false
set_option linter.unusedSimpArgs false
set_option maxRecDepth 100000
namespace Go.RX.Span
open Go Go.RX
attribute [local irreducible] sx conB

theorem bsI_of {n : Nat} {e : Nat → R1} {x : Int} {lo : Nat} (hn : lo ≤ n) (h1 : ∀ i, i < lo → nv e i < x) (h2 : ∀ i, lo ≤ i → i < n → x ≤ nv e i) : bsI n e x = lo := by
  unfold bsI
  have : n = lo + (n - lo) := by omega
  rw [this, List.range_add, List.filter_append, List.length_append]
  rw [List.filter_eq_self.2 fun i hi => decide_eq_true (h1 i (List.mem_range.1 hi)), List.length_range]
  have : ((List.range (n - lo)).map (lo + ·)).filter (fun i => decide (nv e i < x)) = [] := List.filter_eq_nil_iff.2 fun i hi => by
    obtain ⟨j, hj, rfl⟩ := List.mem_map.1 hi
    have hj := List.mem_range.1 hj
    have := h2 (lo + j) (by omega) (by omega)
    simp only [decide_eq_true_eq]; omega
  rw [this]; rfl
end Go.RX.Span

/- Domain maps: Global, Local. -/
set_option linter.unusedVariables false
set_option linter.unusedSimpArgs false
set_option maxRecDepth 100000
namespace Go.RX.Span
open Go Go.RX
attribute [local irreducible] sx conB

theorem rowN_get {l : List Nat} {i : Nat} (h : i < l.length) : nv (rowN l) i = ((l[i] : Nat) : Int) := by
  show ((l.getD i 0 : Nat) : Int) = _
  rw [List.getD_eq_getElem?_getD, List.getElem?_eq_getElem h]; rfl
section
variable {n : Nat} {f : Nat → R3} {k s h L : Int}
theorem bs_part (h5 : szDn n f k s h ≤ 5000) (l : Int) : BsAsk (partL n f k s h L l).length (rowN (partL n f k s h L l)) := by
  refine ⟨Nat.le_trans (partL_len l) (by omega), fun i j hij hj => ?_⟩
  rw [rowN_get (by omega), rowN_get hj]
  have := List.pairwise_iff_getElem.1 (partL_sorted (n := n) (f := f) (k := k) (s := s) (h := h) (L := L) l) i j (by omega) hj hij
  omega
theorem part_split {i : Nat} (hi : i ≤ szDn n f k s h) (l : Int) : ∃ r : List Nat, partL n f k s h L l = pkL (owP n f k s h L) i l ++ r ∧ ∀ p ∈ r, i ≤ p := by
  refine ⟨((List.range (szDn n f k s h - i)).map (i + ·)).filter fun p => decide (owP n f k s h L p = l), ?_, fun p hp => ?_⟩
  · unfold partL pkL
    rw [show szDn n f k s h = i + (szDn n f k s h - i) by omega, List.range_add, List.filter_append]
    rw [show i + (szDn n f k s h - i) - i = szDn n f k s h - i by omega]
  · obtain ⟨j, _, rfl⟩ := List.mem_map.1 (List.mem_filter.1 hp).1
    omega
theorem bs_pos {i : Nat} (hi : i ≤ szDn n f k s h) (l : Int) : bsI (partL n f k s h L l).length (rowN (partL n f k s h L l)) (i : Int) = (pkL (owP n f k s h L) i l).length := by
  obtain ⟨r, e, hr⟩ := part_split (L := L) hi l
  refine bsI_of (by rw [e, List.length_append]; omega) (fun j hj => ?_) fun j h1 h2 => ?_
  · rw [rowN_get (by rw [e, List.length_append]; omega)]
    have : (partL n f k s h L l)[j]'(by rw [e, List.length_append]; omega) = (pkL (owP n f k s h L) i l)[j] := by
      simp only [e]; rw [List.getElem_append_left hj]
    rw [this]
    have := (List.mem_filter.1 (List.getElem_mem hj)).1
    have := List.mem_range.1 this
    omega
  · rw [rowN_get h2]
    have hlen : j - (pkL (owP n f k s h L) i l).length < r.length := by rw [e, List.length_append] at h2; omega
    have : (partL n f k s h L l)[j] = r[j - (pkL (owP n f k s h L) i l).length] := by
      simp only [e]; rw [List.getElem_append_right h1]
    rw [this]
    have := hr _ (List.getElem_mem hlen)
    omega
end
end Go.RX.Span

/- Domain maps: how many indices the locales have, in plain Lean. -/
set_option linter.unusedVariables false
set_option linter.unusedSimpArgs false
namespace Go.RX.Span
open Go Go.RX

section
variable {n : Nat} {f : Nat → R3} {k s h L : Int}
end
end Go.RX.Span

/- Domain maps: the law of balance. -/
set_option linter.unusedVariables false
set_option linter.unusedSimpArgs false
set_option maxRecDepth 100000
namespace Go.RX.Span
open Go Go.RX
attribute [local irreducible] sx conB

section
variable (n : Nat) (f : Nat → R3) (k s h L : Int)
noncomputable def hB (t : T SV) : T SV := .ask (Row64 n f) (.ask (U.not (lk fewB n f k s h 300) = false) (.ask (Row64 n f) (.ask (U.ne (lk dmE n f k s h L) 0 = false) (.ask (Row64 n f) (.ask (U.gt (lk szD n f k s h) 300 = false) (.ask (Row64 n f) (.ask (U.ne (lk lsE n f k s h L) 0 = false) (.ask (U.ne (Int.ofNat (lk ctN n f k s h L)) L = false) t))))))))
noncomputable def eB (b : Bool) (t : T SV) : T SV := .ask (U.ne k 0 = b) t
end
section
variable {n : Nat} {f : Nat → R3} {k s h L : Int} {K : SV → Prop} {t : T SV}
theorem szD_nn (hc : chD n f k s h = 0) : ((szDn n f k s h : Nat) : Int) = szD n f k s h := by
  have := (dr_prod (chD_zero.1 hc).1).1
  unfold szDn
  rw [szD_right hc]; omega
theorem ls_of (hd : dmE n f k s h L = 0) (h3 : szD n f k s h ≤ 300) : lsE n f k s h L = 0 := lsE_zero.2 ⟨hd, by omega⟩
theorem ct_of (hd : dmE n f k s h L = 0) (h3 : szD n f k s h ≤ 300) : ctN n f k s h L = U.toNat L ∧ ((ctN n f k s h L : Nat) : Int) = L := by
  have e : ctN n f k s h L = U.toNat L := by unfold ctN; rw [if_neg (by simp [ls_of hd h3])]
  have := (dmE_zero.1 hd).1
  exact ⟨e, by rw [e, nat64 (by omega)]⟩
end
end Go.RX.Span

/- Domain maps: the law of inverses: plain facts, the loops' states. -/
set_option linter.unusedVariables false
set_option linter.unusedSimpArgs false
set_option maxRecDepth 100000
namespace Go.RX.Span
open Go Go.RX
attribute [local irreducible] sx conB

section
variable {n : Nat} {f : Nat → R3} {k s h L : Int}
/-- A number of a part: the position, and back. -/
theorem part_get {l : Int} {j : Nat} (hj : j < (partL n f k s h L l).length) : (partL n f k s h L l)[j] < szDn n f k s h ∧ owP n f k s h L (partL n f k s h L l)[j] = l ∧ (pkL (owP n f k s h L) (partL n f k s h L l)[j] l).length = j := by
  obtain ⟨m1, m2⟩ := mem_partL.1 (List.getElem_mem hj)
  refine ⟨m1, m2, ?_⟩
  rw [← bs_pos (Nat.le_of_lt m1) l]
  have srt := List.pairwise_iff_getElem.1 (partL_sorted (n := n) (f := f) (k := k) (s := s) (h := h) (L := L) l)
  refine bsI_of (Nat.le_of_lt hj) (fun i hi => ?_) fun i h1 h2 => ?_
  · rw [rowN_get (by omega)]
    have := srt i j (by omega) hj hi
    omega
  · rw [rowN_get h2]
    by_cases e : i = j
    · subst e; omega
    · have := srt j i hj h2 (by omega); omega
theorem get_part {p : Nat} (hp : p < szDn n f k s h) : ∃ hj : (pkL (owP n f k s h L) p (owP n f k s h L p)).length < (partL n f k s h L (owP n f k s h L p)).length, (partL n f k s h L (owP n f k s h L p))[(pkL (owP n f k s h L) p (owP n f k s h L p)).length] = p := by
  obtain ⟨r, e, _⟩ := part_split (L := L) (i := p + 1) hp (owP n f k s h L p)
  rw [pk_s, if_pos rfl] at e
  have hj : (pkL (owP n f k s h L) p (owP n f k s h L p)).length < (partL n f k s h L (owP n f k s h L p)).length := by rw [e]; simp
  refine ⟨hj, ?_⟩
  have : (partL n f k s h L (owP n f k s h L p))[(pkL (owP n f k s h L) p (owP n f k s h L p)).length]? = some p := by
    rw [e, List.append_assoc, List.getElem?_append_right (Nat.le_refl _), Nat.sub_self]; rfl
  rw [List.getElem?_eq_getElem hj] at this
  exact Option.some.inj this
end
noncomputable abbrev boxD (n : Nat) (f : Nat → R3) (k s h : Int) : Nat × Option Blk := (0, some (.cells [.row [.int .i64, .int .i64, .int .i64] n f, .lit (.int .i64 k), .lit (.int .i64 s), .lit (.int .i64 h)] 49))
end Go.RX.Span

/- Domain maps: the law of one owner: plain facts, the loops' states. -/
set_option linter.unusedVariables false
set_option linter.unusedSimpArgs false
set_option maxRecDepth 100000
namespace Go.RX.Span
open Go Go.RX
attribute [local irreducible] sx conB

/-- What has been seen: of the locales below l, and of l the first j. -/
noncomputable def seN (n : Nat) (f : Nat → R3) (k s h L : Int) (l : Int) (j p : Nat) : Int := open Classical in if owP n f k s h L p < l ∨ (owP n f k s h L p = l ∧ (pkL (owP n f k s h L) p l).length < j) then 1 else 0
noncomputable def seF (n : Nat) (f : Nat → R3) (k s h L : Int) (l : Int) (j p : Nat) : R1 := oneR (seN n f k s h L l j p)
section
variable {n : Nat} {f : Nat → R3} {k s h L l : Int}
theorem se_next {p : Nat} (hp : p < szDn n f k s h) : seN n f k s h L l (partL n f k s h L l).length p = seN n f k s h L (l + 1) 0 p := by
  unfold seN
  have e : (owP n f k s h L p < l ∨ (owP n f k s h L p = l ∧ (pkL (owP n f k s h L) p l).length < (partL n f k s h L l).length)) ↔ (owP n f k s h L p < l + 1 ∨ (owP n f k s h L p = l + 1 ∧ (pkL (owP n f k s h L) p (l + 1)).length < 0)) := by
    constructor
    · rintro (w | ⟨w, _⟩)
      · exact .inl (by omega)
      · exact .inl (by omega)
    · rintro (w | ⟨_, w⟩)
      · by_cases e : owP n f k s h L p = l
        · obtain ⟨hj, _⟩ := get_part (L := L) hp
          rw [e] at hj
          exact .inr ⟨e, hj⟩
        · exact .inl (by omega)
      · exact absurd w (Nat.not_lt_zero _)
  simp only [e]
theorem se_step {j : Nat} (hj : j < (partL n f k s h L l).length) {p : Nat} (hp : p < szDn n f k s h) :
    seN n f k s h L l (j + 1) p = if p = (partL n f k s h L l)[j] then 1 else seN n f k s h L l j p := by
  obtain ⟨g1, g2, g3⟩ := part_get hj
  by_cases e : p = (partL n f k s h L l)[j]
  · rw [if_pos e]
    unfold seN
    rw [if_pos (.inr ⟨by rw [e]; exact g2, by rw [e, g3]; omega⟩)]
  · rw [if_neg e]
    unfold seN
    have e2 : (owP n f k s h L p < l ∨ (owP n f k s h L p = l ∧ (pkL (owP n f k s h L) p l).length < j + 1)) ↔ (owP n f k s h L p < l ∨ (owP n f k s h L p = l ∧ (pkL (owP n f k s h L) p l).length < j)) := by
      constructor
      · rintro (w | ⟨w, w2⟩)
        · exact .inl w
        · refine .inr ⟨w, ?_⟩
          by_cases e3 : (pkL (owP n f k s h L) p l).length = j
          · obtain ⟨hq, hg⟩ := get_part (L := L) hp
            refine absurd ?_ e
            subst w
            subst e3
            exact hg.symm
          · omega
      · rintro (w | ⟨w, w2⟩)
        · exact .inl w
        · exact .inr ⟨w, by omega⟩
    simp only [e2]
theorem se_at {j : Nat} (hj : j < (partL n f k s h L l).length) : seN n f k s h L l j (partL n f k s h L l)[j] = 0 := by
  obtain ⟨g1, g2, g3⟩ := part_get hj
  unfold seN
  rw [if_neg]
  rintro (w | ⟨_, w⟩)
  · omega
  · rw [g3] at w; omega
theorem se_zero (hd : dmE n f k s h L = 0) {p : Nat} (hp : p < szDn n f k s h) : seN n f k s h L 0 0 p = 0 := by
  unfold seN
  rw [if_neg]
  rintro (w | ⟨_, w⟩)
  · have := (owP_bnd hd hp).1; omega
  · exact absurd w (Nat.not_lt_zero _)
theorem se_all (hd : dmE n f k s h L = 0) {p : Nat} (hp : p < szDn n f k s h) : seN n f k s h L L 0 p = 1 := by
  unfold seN
  rw [if_pos (.inl (owP_bnd hd hp).2)]
/-- What is asked of each position. -/
theorem one_of (hd : dmE n f k s h L = 0) {p : Nat} (hp : p < szDn n f k s h) : dnE n f k s h p = 0 ∧ dnN n f k s h p = n ∧ orE n f k s h L n (dnF n f p) = 0 ∧ orV n f k s h L n (dnF n f p) = owP n f k s h L p ∧ I64s n (dnF n f p) := by
  have hc := (dmE_zero.1 hd).2.2.1
  obtain ⟨z1, z2⟩ := dn_zero hc hp
  obtain ⟨_, b2, _⟩ := dn_has hc z1
  have e1 : orE n f k s h L n (dnF n f p) = 0 := by unfold orE; rw [if_neg (by simp [hd]), if_pos b2]
  refine ⟨z1, z2, e1, ?_, I64s_hasD b2⟩
  unfold orV
  rw [if_neg (by simp [e1]), ← owX_eq hc hp]
  have hn := (chD_zero.1 hc).1.1
  exact owX_congr (by omega) fun j hj => by
    show (dnF n f p j).1 = _
    rw [(ix_all hc hp).1 j hj]; rfl
end
def nxt (l : Int) : Int := l + 1
def PreOi (n0 n : Nat) (f : Nat → R3) (k s h L sz l : Int) (N : Nat) (G : Nat → R1) (pN : Nat) (pF : Nat → R1) : Prop :=
  n0 = 0 ∧ dmE n f k s h L = 0 ∧ szD n f k s h ≤ 300 ∧ sz = szD n f k s h ∧ 0 ≤ l ∧ l < L ∧ N = szDn n f k s h ∧ (∀ p, p < N → G p = seF n f k s h L l 0 p) ∧ pN = (partL n f k s h L l).length ∧ pF = rowN (partL n f k s h L l)
noncomputable abbrev slOi (L sz : Int) (cN : Nat) (cF : Nat → R1) (z : Bool) (N : Nat) (l : Int) (pN : Nat) (pF : Nat → R1) (i : Int) : List SV := [.lit (.int .i64 L), .ptr 0 0, .lit (.int .i64 sz), .row [.int .i64] cN cF, .own z 1 N, .lit (.int .i64 l), .lit (.int .i64 L), .lit (.int .i64 l), .row [.int .i64] pN pF, .lit (.int .i64 (pN : Int)), .lit (.int .i64 i)]
noncomputable abbrev memOn (n : Nat) (f : Nat → R3) (k s h : Int) (z : Bool) (N : Nat) (G : Nat → R1) : Mem := [boxD n f k s h, (0, some (.row z N [.int .i64] G 3))]
noncomputable def gOi : Nat → Few → T (Ex × Few)
  | n0, ([.lit (.int .i64 L), .ptr 0 0, .lit (.int .i64 sz), .row [.int .i64] cN cF, .own z b N, .lit (.int .i64 l), .lit (.int .i64 L'), .lit (.int .i64 l'), .row [.int .i64] pN pF, .lit (.int .i64 pN'), .ki .i64 0],
      [(_, some (.cells [.row [.int .i64, .int .i64, .int .i64] n f, .lit (.int .i64 k), .lit (.int .i64 s), .lit (.int .i64 h)] t0)), (_, some (.row z' N' [.int .i64] G t1))]) =>
    .ask (lk PreOi n0 n f k s h L sz l N G pN pF ∧ b = 1 ∧ L' = L ∧ l' = l ∧ pN' = (pN : Int) ∧ z' = z ∧ N' = N ∧ t0 = 49 ∧ t1 = 3) (.ret (.exit 2, (slOi L sz cN cF z N l pN pF (pN : Int), memOn n f k s h z N (lk seF n f k s h L (lk nxt l) 0))))
  | _, _ => .stuck 1
def PreOo (n0 n : Nat) (f : Nat → R3) (k s h L sz : Int) (cN : Nat) (cF : Nat → R1) (N : Nat) (G : Nat → R1) : Prop :=
  n0 = 0 ∧ dmE n f k s h L = 0 ∧ szD n f k s h ≤ 300 ∧ sz = szD n f k s h ∧ (cN : Int) = L ∧ cF = ctF n f k s h L ∧ N = szDn n f k s h ∧ ∀ p, p < N → G p = oneR 0
noncomputable abbrev slOo2 (L sz : Int) (cN : Nat) (cF : Nat → R1) (z : Bool) (N : Nat) (i : Int) : List SV := [.lit (.int .i64 L), .ptr 0 0, .lit (.int .i64 sz), .row [.int .i64] cN cF, .own z 1 N, .lit (.int .i64 L), .lit (.int .i64 i)]
noncomputable def gOo : Nat → Few → T (Ex × Few)
  | n0, ([.lit (.int .i64 L), .ptr 0 0, .lit (.int .i64 sz), .row [.int .i64] cN cF, .own z b N, .lit (.int .i64 L'), .ki .i64 0],
      [(_, some (.cells [.row [.int .i64, .int .i64, .int .i64] n f, .lit (.int .i64 k), .lit (.int .i64 s), .lit (.int .i64 h)] t0)), (_, some (.row z' N' [.int .i64] G t1))]) =>
    .ask (lk PreOo n0 n f k s h L sz cN cF N G ∧ b = 1 ∧ L' = L ∧ z' = z ∧ N' = N ∧ t0 = 49 ∧ t1 = 3) (.ret (.exit 0, (slOo2 L sz cN cF z N L, memOn n f k s h z N (lk seF n f k s h L L 0))))
  | _, _ => .stuck 1
/-- slices.IsSorted of an ascending list. -/
noncomputable def c_Srt : Con := fun args => match args with
  | [.row [.int .i64] n e] => .ask (lk BsAsk n e) (.ret (.lit (.bool true)))
  | _ => .stuck 1
noncomputable def gSo : Nat → Few → T (Ex × Few)
  | n0, ([.row [.int .i64] n e, .lit (.int .i64 i)], []) => .ask (n0 = 0 ∧ lk BsAsk n e ∧ i = U.sub .i64 (n : Int) 1) (.ret (.exit 0, ([.any, .any], [])))
  | _, _ => .stuck 1
noncomputable abbrev lSo : List (Nat × Loops) := [(67, [(2, .sum (few 21 [0,3] gSo))])] --%K
def AllOne (n : Nat) (e : Nat → R1) : Prop := n ≤ 100000 ∧ ∀ i, i < n → nv e i = 1
noncomputable def gAo : Nat → Few → T (Ex × Few)
  | n0, ([.row [.int .i64] n e, .fn (.func 70) [] [], .lit (.int .i64 N'), .ki .i64 0], []) => .ask (n0 = 0 ∧ lk AllOne n e ∧ N' = (n : Int)) (.ret (.exit 0, ([.any, .any, .any, .any], [])))
  | _, _ => .stuck 1
noncomputable abbrev lAo : List (Nat × Loops) := [(152, [(2, .sum (few 19 [0,1,7,8] gAo))])] --%K
noncomputable def c_Ao : Con := fun args => match args with
  | [.row [.int .i64] n e, .fn (.func 70) [] []] => .ask (lk AllOne n e) (.ret (.lit (.int .i64 (-1))))
  | _ => .stuck 1
noncomputable def c_Ac : Con := fun args => match args with
  | [.row [.int .i64] n e, .fn (.func 70) [] []] => .ask (lk AllOne n e) (.ret (.lit (.bool false)))
  | _ => .stuck 1
noncomputable abbrev kOn : List (Nat × Con) := [(39, c_Few), (40, c_dmCheck), (41, c_DSize), (42, c_true), (43, c_Counts), (47, c_Part), (48, c_Owner), (50, c_OwnerAt), (68, c_DNth), (67, c_Srt), (69, c_Ac)] --%K
noncomputable abbrev EOn : Env := ⟨P, conOf kOn, scall P (conOf kOn) noLoops 10⟩
noncomputable abbrev LOi : Loops := [(15, .sum (few 148 [1,2,5,6,8,9,54,55,81,82,83] gOi))]
end Go.RX.Span

/- Domain maps: the law of one owner: the walks. -/
set_option linter.unusedVariables false
set_option linter.unusedSimpArgs false
set_option maxRecDepth 100000
namespace Go.RX.Span
open Go Go.RX
attribute [local irreducible] sx conB

--%R ↑n = ↑n => ((n : Nat) : Int) = ((n : Nat) : Int)
--%R ↑pN = ↑pN => ((pN : Nat) : Int) = ((pN : Nat) : Int)
--%R U.sub IntKind.i64 ↑n \(1 : Int\) => U.sub IntKind.i64 ((n : Nat) : Int) (1 : Int)
--%R \(pF \(U.toNat i\)\).1 < ↑N => nv pF (U.toNat i) < ((N : Nat) : Int)
--%R ↑\(lk ptN n f k s h L i\) = ↑\(lk ptN n f k s h L i\) => ((lk ptN n f k s h L i : Nat) : Int) = ((lk ptN n f k s h L i : Nat) : Int)
set_option maxRecDepth 100000 in
theorem t_Oi (n : Nat) (f : Nat → R3) (k s h L sz : Int) (cN : Nat) (cF : Nat → R1) (z : Bool) (N : Nat) (G : Nat → R1) (l : Int) (pN : Nat) (pF : Nat → R1) (i : Int) : (sx EOn [] 0 (loopOf P 11 15) (mkS 148 [1,2,5,6,8,9,54,55,81,82,83] (slOi L sz cN cF z N l pN pF i), memOn n f k s h z N G)).bind (proj 148 [1,2,5,6,8,9,54,55,81,82,83]) =
    T.br (U.lt i (Int.ofNat pN)) (.ask ((0 : Int) ≤ i ∧ i < ↑pN) (.br (U.lt (pF (U.toNat i)).1 (0 : Int)) (.ret (Ex.ret, [.lit (.int .i64 L), SV.ptr (nat_lit 0) (nat_lit 0), .lit (.int
      .i64 sz), .row [.int .i64] cN cF, SV.own z (nat_lit 1) N, .lit (.int .i64 l), .lit (.int .i64 L), .lit (.int .i64 l), .row [.int .i64] pN pF, .lit (.int .i64 (Int.ofNat pN)), .lit
      (.int .i64 i)], [(nat_lit 0, some (Blk.cells [.row [.int .i64, .int .i64, .int .i64] n f, .lit (.int .i64 k), .lit (.int .i64 s), .lit (.int .i64 h)] (nat_lit 49))), (nat_lit 0,
      some (Blk.row z N [.int .i64] G (nat_lit 3)))])) (.br (U.ge (pF (U.toNat i)).1 sz) (.ret (Ex.ret, [.lit (.int .i64 L), SV.ptr (nat_lit 0) (nat_lit 0), .lit (.int .i64 sz), .row
      [.int .i64] cN cF, SV.own z (nat_lit 1) N, .lit (.int .i64 l), .lit (.int .i64 L), .lit (.int .i64 l), .row [.int .i64] pN pF, .lit (.int .i64 (Int.ofNat pN)), .lit (.int .i64 i)],
      [(nat_lit 0, some (Blk.cells [.row [.int .i64, .int .i64, .int .i64] n f, .lit (.int .i64 k), .lit (.int .i64 s), .lit (.int .i64 h)] (nat_lit 49))), (nat_lit 0, some (Blk.row z N
      [.int .i64] G (nat_lit 3)))])) (.ask ((0 : Int) ≤ (pF (U.toNat i)).1 ∧ nv pF (U.toNat i) < ((N : Nat) : Int)) (.ask (U.toNat (pF (U.toNat i)).1 < N) (.ask ((0 : Int) ≤ (pF (U.toNat
      i)).1 ∧ nv pF (U.toNat i) < ((N : Nat) : Int)) (.ask (U.toNat (pF (U.toNat i)).1 < N) (.ask (Row64 n f ∧ I64 (pF (U.toNat i)).1) (.ask (Row64 n f ∧ I64 (pF (U.toNat i)).1) (.ask
      (Row64 n f ∧ I64s (lk dnN n f k s h (pF (U.toNat i)).1) (lk dnF n f (pF (U.toNat i)).1)) (.br (U.ne (lk dnE n f k s h (pF (U.toNat i)).1) (0 : Int)) (.ret (Ex.ret, [.lit (.int .i64
      L), SV.ptr (nat_lit 0) (nat_lit 0), .lit (.int .i64 sz), .row [.int .i64] cN cF, SV.own z (nat_lit 1) N, .lit (.int .i64 l), .lit (.int .i64 L), .lit (.int .i64 l), .row [.int .i64]
      pN pF, .lit (.int .i64 (Int.ofNat pN)), .lit (.int .i64 i)], [(nat_lit 0, some (Blk.cells [.row [.int .i64, .int .i64, .int .i64] n f, .lit (.int .i64 k), .lit (.int .i64 s), .lit
      (.int .i64 h)] (nat_lit 49))), (nat_lit 1, some (Blk.row z N [.int .i64] (U.upd G (U.toNat (pF (U.toNat i)).1) (U.add .i64 (G (U.toNat (pF (U.toNat i)).fst)).1 (1 : Int),
      PUnit.unit)) (nat_lit 3)))])) (.br (U.ne (lk oaE n f k s h L (pF (U.toNat i)).1) (0 : Int)) (.ret (Ex.ret, [.lit (.int .i64 L), SV.ptr (nat_lit 0) (nat_lit 0), .lit (.int .i64 sz),
      .row [.int .i64] cN cF, SV.own z (nat_lit 1) N, .lit (.int .i64 l), .lit (.int .i64 L), .lit (.int .i64 l), .row [.int .i64] pN pF, .lit (.int .i64 (Int.ofNat pN)), .lit (.int .i64
      i)], [(nat_lit 0, some (Blk.cells [.row [.int .i64, .int .i64, .int .i64] n f, .lit (.int .i64 k), .lit (.int .i64 s), .lit (.int .i64 h)] (nat_lit 49))), (nat_lit 1, some (Blk.row
      z N [.int .i64] (U.upd G (U.toNat (pF (U.toNat i)).1) (U.add .i64 (G (U.toNat (pF (U.toNat i)).fst)).1 (1 : Int), PUnit.unit)) (nat_lit 3)))])) (.br (U.ne (lk orE n f k s h L (lk
      dnN n f k s h (pF (U.toNat i)).1) (lk dnF n f (pF (U.toNat i)).1)) (0 : Int)) (.ret (Ex.ret, [.lit (.int .i64 L), SV.ptr (nat_lit 0) (nat_lit 0), .lit (.int .i64 sz), .row [.int
      .i64] cN cF, SV.own z (nat_lit 1) N, .lit (.int .i64 l), .lit (.int .i64 L), .lit (.int .i64 l), .row [.int .i64] pN pF, .lit (.int .i64 (Int.ofNat pN)), .lit (.int .i64 i)],
      [(nat_lit 0, some (Blk.cells [.row [.int .i64, .int .i64, .int .i64] n f, .lit (.int .i64 k), .lit (.int .i64 s), .lit (.int .i64 h)] (nat_lit 49))), (nat_lit 1, some (Blk.row z N
      [.int .i64] (U.upd G (U.toNat (pF (U.toNat i)).1) (U.add .i64 (G (U.toNat (pF (U.toNat i)).fst)).1 (1 : Int), PUnit.unit)) (nat_lit 3)))])) (.br (U.ne (lk oaV n f k s h L (pF
      (U.toNat i)).1) l) (.ret (Ex.ret, [.lit (.int .i64 L), SV.ptr (nat_lit 0) (nat_lit 0), .lit (.int .i64 sz), .row [.int .i64] cN cF, SV.own z (nat_lit 1) N, .lit (.int .i64 l), .lit
      (.int .i64 L), .lit (.int .i64 l), .row [.int .i64] pN pF, .lit (.int .i64 (Int.ofNat pN)), .lit (.int .i64 i)], [(nat_lit 0, some (Blk.cells [.row [.int .i64, .int .i64, .int .i64]
      n f, .lit (.int .i64 k), .lit (.int .i64 s), .lit (.int .i64 h)] (nat_lit 49))), (nat_lit 1, some (Blk.row z N [.int .i64] (U.upd G (U.toNat (pF (U.toNat i)).1) (U.add .i64 (G
      (U.toNat (pF (U.toNat i)).fst)).1 (1 : Int), PUnit.unit)) (nat_lit 3)))])) (.br (U.ne (lk orV n f k s h L (lk dnN n f k s h (pF (U.toNat i)).1) (lk dnF n f (pF (U.toNat i)).1)) l)
      (.ret (Ex.ret, [.lit (.int .i64 L), SV.ptr (nat_lit 0) (nat_lit 0), .lit (.int .i64 sz), .row [.int .i64] cN cF, SV.own z (nat_lit 1) N, .lit (.int .i64 l), .lit (.int .i64 L), .lit
      (.int .i64 l), .row [.int .i64] pN pF, .lit (.int .i64 (Int.ofNat pN)), .lit (.int .i64 i)], [(nat_lit 0, some (Blk.cells [.row [.int .i64, .int .i64, .int .i64] n f, .lit (.int
      .i64 k), .lit (.int .i64 s), .lit (.int .i64 h)] (nat_lit 49))), (nat_lit 1, some (Blk.row z N [.int .i64] (U.upd G (U.toNat (pF (U.toNat i)).1) (U.add .i64 (G (U.toNat (pF (U.toNat
      i)).fst)).1 (1 : Int), PUnit.unit)) (nat_lit 3)))])) (.ret (Ex.normal, [.lit (.int .i64 L), SV.ptr (nat_lit 0) (nat_lit 0), .lit (.int .i64 sz), .row [.int .i64] cN cF, SV.own z
      (nat_lit 1) N, .lit (.int .i64 l), .lit (.int .i64 L), .lit (.int .i64 l), .row [.int .i64] pN pF, .lit (.int .i64 (Int.ofNat pN)), .lit (.int .i64 (U.add .i64 i (1 : Int)))],
      [(nat_lit 0, some (Blk.cells [.row [.int .i64, .int .i64, .int .i64] n f, .lit (.int .i64 k), .lit (.int .i64 s), .lit (.int .i64 h)] (nat_lit 49))), (nat_lit 1, some (Blk.row z N
      [.int .i64] (U.upd G (U.toNat (pF (U.toNat i)).1) (U.add .i64 (G (U.toNat (pF (U.toNat i)).fst)).1 (1 : Int), PUnit.unit)) (nat_lit 3)))]))))))))))))))))) (.ret (Ex.exit (nat_lit
      2), [.lit (.int .i64 L), SV.ptr (nat_lit 0) (nat_lit 0), .lit (.int .i64 sz), .row [.int .i64] cN cF, SV.own z (nat_lit 1) N, .lit (.int .i64 l), .lit (.int .i64 L), .lit (.int .i64
      l), .row [.int .i64] pN pF, .lit (.int .i64 (Int.ofNat pN)), .lit (.int .i64 i)], [(nat_lit 0, some (Blk.cells [.row [.int .i64, .int .i64, .int .i64] n f, .lit (.int .i64 k), .lit
      (.int .i64 s), .lit (.int .i64 h)] (nat_lit 49))), (nat_lit 0, some (Blk.row z N [.int .i64] G (nat_lit 3)))])) := by kernel_rfl
set_option maxRecDepth 100000 in
theorem t_Oo (n : Nat) (f : Nat → R3) (k s h L sz : Int) (cN : Nat) (cF : Nat → R1) (z : Bool) (N : Nat) (G : Nat → R1) (i : Int) : (sx EOn LOi 0 (loopOf P 11 9) (mkS 148 [1,2,5,6,8,54,55] (slOo2 L sz cN cF z N i), memOn n f k s h z N G)).bind (proj 148 [1,2,5,6,8,54,55]) =
    T.br (U.lt i L) (.ask (Row64 n f) (.br (U.ne (lk ptE n f k s h L i) (0 : Int)) (.ret (Ex.ret, [.lit (.int .i64 L), SV.ptr (nat_lit 0) (nat_lit 0), .lit (.int .i64 sz), .row [.int
      .i64] cN cF, SV.own z (nat_lit 1) N, .lit (.int .i64 L), .lit (.int .i64 i)], [(nat_lit 0, some (Blk.cells [.row [.int .i64, .int .i64, .int .i64] n f, .lit (.int .i64 k), .lit
      (.int .i64 s), .lit (.int .i64 h)] (nat_lit 49))), (nat_lit 0, some (Blk.row z N [.int .i64] G (nat_lit 3)))])) (.ask ((0 : Int) ≤ i ∧ i < ↑cN) (.br (U.ne (Int.ofNat (lk ptN n f k s
      h L i)) (cF (U.toNat i)).1) (.ret (Ex.ret, [.lit (.int .i64 L), SV.ptr (nat_lit 0) (nat_lit 0), .lit (.int .i64 sz), .row [.int .i64] cN cF, SV.own z (nat_lit 1) N, .lit (.int .i64
      L), .lit (.int .i64 i)], [(nat_lit 0, some (Blk.cells [.row [.int .i64, .int .i64, .int .i64] n f, .lit (.int .i64 k), .lit (.int .i64 s), .lit (.int .i64 h)] (nat_lit 49))),
      (nat_lit 0, some (Blk.row z N [.int .i64] G (nat_lit 3)))])) (.ask (lk BsAsk (lk ptN n f k s h L i) (lk ptF n f k s h L i)) (.br (U.not true) (.ret (Ex.ret, [.lit (.int .i64 L),
      SV.ptr (nat_lit 0) (nat_lit 0), .lit (.int .i64 sz), .row [.int .i64] cN cF, SV.own z (nat_lit 1) N, .lit (.int .i64 L), .lit (.int .i64 i)], [(nat_lit 0, some (Blk.cells [.row
      [.int .i64, .int .i64, .int .i64] n f, .lit (.int .i64 k), .lit (.int .i64 s), .lit (.int .i64 h)] (nat_lit 49))), (nat_lit 0, some (Blk.row z N [.int .i64] G (nat_lit 3)))])) (.ask
      (lk PreOi (0 : Nat) n f k s h L sz i N G (lk ptN n f k s h L i) (lk ptF n f k s h L i) ∧ (1 : Nat) = (1 : Nat) ∧ L = L ∧ i = i ∧ ((lk ptN n f k s h L i : Nat) : Int) = ((lk ptN n f
      k s h L i : Nat) : Int) ∧ z = z ∧ N = N ∧ (49 : TypeId) = (49 : TypeId) ∧ (3 : TypeId) = (3 : TypeId)) (.ret (Ex.normal, [.lit (.int .i64 L), SV.ptr (nat_lit 0) (nat_lit 0), .lit
      (.int .i64 sz), .row [.int .i64] cN cF, SV.own z (nat_lit 1) N, .lit (.int .i64 L), .lit (.int .i64 (U.add .i64 i (1 : Int)))], [(nat_lit 1, some (Blk.cells [.row [.int .i64, .int
      .i64, .int .i64] n f, .lit (.int .i64 k), .lit (.int .i64 s), .lit (.int .i64 h)] (nat_lit 49))), (nat_lit 1, some (Blk.row z N [.int .i64] (lk seF n f k s h L (lk nxt i) (nat_lit
      0)) (nat_lit 3)))]))))))))) (.ret (Ex.exit (nat_lit 0), [.lit (.int .i64 L), SV.ptr (nat_lit 0) (nat_lit 0), .lit (.int .i64 sz), .row [.int .i64] cN cF, SV.own z (nat_lit 1) N,
      .lit (.int .i64 L), .lit (.int .i64 i)], [(nat_lit 0, some (Blk.cells [.row [.int .i64, .int .i64, .int .i64] n f, .lit (.int .i64 k), .lit (.int .i64 s), .lit (.int .i64 h)]
      (nat_lit 49))), (nat_lit 0, some (Blk.row z N [.int .i64] G (nat_lit 3)))])) := by kernel_rfl
set_option maxRecDepth 100000 in
theorem t_So (n : Nat) (e : Nat → R1) (i : Int) : (sx E0 [] 0 (loopOf P 67 2) (mkS 21 [0,3] [.row [.int .i64] n e, .lit (.int .i64 i)], [])).bind (proj 21 [0,3]) =
    T.br (U.gt i (0 : Int)) (.ask ((0 : Int) ≤ i ∧ i < ↑n) (.ask ((0 : Int) ≤ U.sub .i64 i (1 : Int) ∧ U.sub .i64 i (1 : Int) < ↑n) (.br (U.ne (e (U.toNat i)).1 (e (U.toNat i)).1) (.br
      (U.not (U.ne (e (U.toNat (U.sub .i64 i (1 : Int)))).1 (e (U.toNat (U.sub .i64 i (1 : Int)))).1)) (.ret (Ex.ret, [.row [.int .i64] n e, .lit (.int .i64 i)], [])) (.br (U.lt (e
      (U.toNat i)).1 (e (U.toNat (U.sub .i64 i (1 : Int)))).1) (.ret (Ex.ret, [.row [.int .i64] n e, .lit (.int .i64 i)], [])) (.ret (Ex.normal, [.row [.int .i64] n e, .lit (.int .i64
      (U.sub .i64 i (1 : Int)))], [])))) (.br (U.lt (e (U.toNat i)).1 (e (U.toNat (U.sub .i64 i (1 : Int)))).1) (.ret (Ex.ret, [.row [.int .i64] n e, .lit (.int .i64 i)], [])) (.ret
      (Ex.normal, [.row [.int .i64] n e, .lit (.int .i64 (U.sub .i64 i (1 : Int)))], [])))))) (.ret (Ex.exit (nat_lit 0), [.row [.int .i64] n e, .lit (.int .i64 i)], [])) := by kernel_rfl
set_option maxRecDepth 100000 in
theorem t_Srt (n : Nat) (e : Nat → R1) : conB Go.Proofs.Try.prog (conOf []) (loopsOf lSo) 10 67 [.row [.int .i64] n e] =
    T.ask (nat_lit 0 = (0 : Nat) ∧ lk BsAsk n e ∧ U.sub .i64 (Int.ofNat n) (1 : Int) = U.sub .i64 (Int.ofNat n) (1 : Int)) (.ret (.lit (.bool true))) := by kernel_rfl
set_option maxRecDepth 100000 in
theorem t_Ao (n : Nat) (e : Nat → R1) (i : Int) : (sx E0 [] 0 (loopOf P 152 2) (mkS 19 [0,1,7,8] [.row [.int .i64] n e, .fn (.func 70) [] [], .lit (.int .i64 (n : Int)), .lit (.int .i64 i)], [])).bind (proj 19 [0,1,7,8]) =
    T.br (U.lt i (Int.ofNat n)) (.ask ((0 : Int) ≤ i ∧ i < ↑n) (.br (U.ne (e (U.toNat i)).1 (1 : Int)) (.ret (Ex.ret, [.row [.int .i64] n e, SV.fn (Fn.func (nat_lit 70)) [] [], .lit
      (.int .i64 (Int.ofNat n)), .lit (.int .i64 i)], [])) (.ret (Ex.normal, [.row [.int .i64] n e, SV.fn (Fn.func (nat_lit 70)) [] [], .lit (.int .i64 (Int.ofNat n)), .lit (.int .i64
      (U.add .i64 i (1 : Int)))], [])))) (.ret (Ex.exit (nat_lit 0), [.row [.int .i64] n e, SV.fn (Fn.func (nat_lit 70)) [] [], .lit (.int .i64 (Int.ofNat n)), .lit (.int .i64 i)], [])) := by kernel_rfl
set_option maxRecDepth 100000 in
theorem t_Aoi (n : Nat) (e : Nat → R1) : conB Go.Proofs.Try.prog (conOf []) (loopsOf lAo) 10 152 [.row [.int .i64] n e, .fn (.func 70) [] []] =
    T.ask (nat_lit 0 = (0 : Nat) ∧ lk AllOne n e ∧ ((n : Nat) : Int) = ((n : Nat) : Int)) (.ret (.lit (.int .i64 (-1 : Int)))) := by kernel_rfl
set_option maxRecDepth 100000 in
theorem t_Ac (n : Nat) (e : Nat → R1) : conB Go.Proofs.Try.prog (conOf [(152, c_Ao)]) noLoops 10 69 [.row [.int .i64] n e, .fn (.func 70) [] []] =
    T.ask (lk AllOne n e) (.ret (.lit (.bool (U.ge (-1 : Int) (0 : Int))))) := by kernel_rfl
end Go.RX.Span

/- Domain maps: the law of one owner: its loops. -/
set_option linter.unusedVariables false
set_option linter.unusedSimpArgs false
set_option maxRecDepth 100000
namespace Go.RX.Span
open Go Go.RX
attribute [local irreducible] sx conB

/-! slices.IsSorted -/
structure XSo where
  (n : Nat) (e : Nat → R1) (i : Int)
noncomputable abbrev VSo (q : XSo) : Few := ([.row [.int .i64] q.n q.e, .lit (.int .i64 q.i)], [])
def PhiSo (n0 : Nat) (q : XSo) : Prop := n0 = 0 ∧ BsAsk q.n q.e ∧ -1 ≤ q.i ∧ q.i < q.n
theorem w0S {keep : List Nat} {N : Nat} {vs vs' : List SV} (h : RlL (idR 0) vs vs') : Wk N keep 0 (vs, []) (vs', []) := wk_of (idR 0) rfl (Nat.zero_le _) (fun b hb => by omega) h trivial
theorem roundSo (n0 : Nat) (q : XSo) (hq : PhiSo n0 q) : ((sx E0 [] n0 (loopOf P 67 2) (mkS 21 [0,3] (VSo q).1, (VSo q).2)).bind (proj 21 [0,3])).All fun r => match r.1 with
      | .normal => ∃ q', PhiSo n0 q' ∧ (q'.i + 1).toNat < (q.i + 1).toNat ∧ Wk 21 [0,3] n0 r.2 (VSo q') ∧ ∀ o, o = (Ex.exit 0, (([.any, .any], []) : Few)) → o = (Ex.exit 0, (([.any, .any], []) : Few))
      | e => ∃ s, (e, s) = (Ex.exit 0, (([.any, .any], []) : Few)) ∧ Wk 21 [0,3] n0 r.2 s := by
  obtain ⟨n, e, i⟩ := q
  obtain ⟨h0, hb, h1, h2⟩ := hq
  have h1 : -1 ≤ i := h1
  have h2 : i < (n : Int) := h2
  simp only [] at h0 hb
  subst h0
  obtain ⟨hn, hs⟩ := hb
  refine T.all_of_eq (t_So n e i) ?_
  by_cases hlt : 0 < i
  · have e1 : U.sub .i64 i 1 = i - 1 := U.sub64 (by unfold I64; omega)
    obtain ⟨m, rfl⟩ : ∃ m : Nat, i = (m : Int) + 1 := ⟨(i - 1).toNat, by omega⟩
    have t1 : U.toNat ((m : Int) + 1) = m + 1 := tn (m + 1)
    have t2 : U.toNat ((m : Int) + 1 - 1) = m := by rw [show (m : Int) + 1 - 1 = (m : Int) by omega]; exact tn m
    rw [e1, t1, t2]
    have lt := hs m (m + 1) (by omega) (by omega)
    refine ⟨fun _ => ⟨⟨by omega, by omega⟩, ⟨by omega, by omega⟩, fun g => absurd rfl (U.ne_t.mp g), fun _ => ⟨fun g => ?_, fun _ => ⟨⟨n, e, (m : Int) + 1 - 1⟩, ⟨rfl, ⟨hn, hs⟩, (show -1 ≤ (m : Int) + 1 - 1 by omega), (show (m : Int) + 1 - 1 < (n : Int) by omega)⟩, (show ((m : Int) + 1 - 1 + 1).toNat < ((m : Int) + 1 + 1).toNat by omega), w0S ⟨⟨rfl, row1H fun _ _ => rfl⟩, rfl, trivial⟩, fun o ho => ho⟩⟩⟩, fun g => absurd (U.gt_f.mp g) (by omega)⟩
    have g : nv e (m + 1) < nv e m := U.lt_t.mp g
    omega
  · exact ⟨fun g => absurd (U.gt_t.mp g) (by omega), fun _ => ⟨_, rfl, w0S ⟨rl_any _, rl_any _, trivial⟩⟩⟩
theorem loopSo : LoopOK P (loopOf P 67 2) (few 21 [0,3] gSo) :=
  loop_few (E := E0) mixed E0_ok loopsOK_none 21 [0,3] (X := XSo) gSo (fun _ x => VSo x) PhiSo (fun q => (q.i + 1).toNat) (fun _ x o => o = (Ex.exit 0, (([.any, .any], []) : Few)))
    (fun n0 st r h => by
      unfold gSo at h
      split at h
      · rename_i n0 n e i
        obtain ⟨h0, hp, rfl⟩ := (T.is_ask h).1
        obtain rfl := T.is_ret (T.is_ask h).2
        rw [lk_eq] at hp
        subst h0
        have e1 : U.sub .i64 (n : Int) 1 = (n : Int) - 1 := U.sub64 (by have := hp.1; unfold I64; omega)
        exact ⟨⟨n, e, _⟩, ⟨rfl, hp, (show -1 ≤ U.sub .i64 (n : Int) 1 by omega), (show U.sub .i64 (n : Int) 1 < (n : Int) by omega)⟩, w0S ⟨⟨rfl, row1H fun _ _ => rfl⟩, rfl, trivial⟩, fun o ho => ho⟩
      · exact h.elim)
    roundSo
theorem lSo_ok : ∀ p ∈ lSo, LoopsOK P p.2 (bodyOf P p.1) := by
  intro p hp
  simp only [lSo, List.mem_singleton] at hp
  subst hp
  refine loopsOK_of (by kernel_rfl) fun k g hk => ?_
  simp only [List.mem_singleton, Prod.mk.injEq, LoopC.sum.injEq] at hk
  obtain ⟨rfl, rfl⟩ := hk
  exact loopSo
theorem Srt_ok : ConOK P 67 c_Srt := con_of (allOKL mixed none_ok lSo_ok) 10 67 fun args r h => by
  unfold c_Srt at h
  split at h
  · rename_i n e
    have hp := (T.is_ask h).1
    obtain rfl := T.is_ret (T.is_ask h).2
    refine T.all_of_eq (t_Srt n e) ?_
    exact ⟨⟨rfl, hp, rfl⟩, rfl⟩
  · exact h.elim
theorem add1o {j : Nat} (h : j ≤ 1000000) : U.add .i64 (j : Int) 1 = ((j + 1 : Nat) : Int) := by rw [U.add64 (by unfold I64; omega)]; omega
/-! slices.ContainsFunc, of numbers that are all one. -/
structure XAo where
  (n : Nat) (e : Nat → R1) (j : Nat)
noncomputable abbrev VAo (q : XAo) : Few := ([.row [.int .i64] q.n q.e, .fn (.func 70) [] [], .lit (.int .i64 (q.n : Int)), .lit (.int .i64 (q.j : Int))], [])
noncomputable abbrev oAo : Ex × Few := (Ex.exit 0, (([.any, .any, .any, .any], []) : Few))
def PhiAo (n0 : Nat) (q : XAo) : Prop := n0 = 0 ∧ AllOne q.n q.e ∧ q.j ≤ q.n
theorem roundAo (n0 : Nat) (q : XAo) (hq : PhiAo n0 q) : ((sx E0 [] n0 (loopOf P 152 2) (mkS 19 [0,1,7,8] (VAo q).1, (VAo q).2)).bind (proj 19 [0,1,7,8])).All fun r => match r.1 with
      | .normal => ∃ q', PhiAo n0 q' ∧ q'.n - q'.j < q.n - q.j ∧ Wk 19 [0,1,7,8] n0 r.2 (VAo q') ∧ ∀ o, o = oAo → o = oAo
      | e => ∃ s, (e, s) = oAo ∧ Wk 19 [0,1,7,8] n0 r.2 s := by
  obtain ⟨n, e, j⟩ := q
  obtain ⟨h0, ⟨hn, ha⟩, hj⟩ := hq
  have hj : j ≤ n := hj
  simp only [] at h0 hn ha
  subst h0
  refine T.all_of_eq (t_Ao n e (j : Int)) ?_
  have e2 := add1o (j := j) (by omega)
  simp only [e2, tnH]
  by_cases hlt : j < n
  · exact ⟨fun _ => ⟨⟨by omega, by omega⟩, fun g => absurd (ha j hlt) (U.ne_t.mp g), fun _ => ⟨⟨n, e, j + 1⟩, ⟨rfl, ⟨hn, ha⟩, hlt⟩, (show n - (j + 1) < n - j by omega), w0S ⟨⟨rfl, row1H fun _ _ => rfl⟩, ⟨rfl, trivial, trivial⟩, rfl, rfl, trivial⟩, fun o ho => ho⟩⟩, fun g => absurd (U.lt_f.mp g) (by simp only [Int.ofNat_eq_natCast]; omega)⟩
  · exact ⟨fun g => absurd (U.lt_t.mp g) (by simp only [Int.ofNat_eq_natCast]; omega), fun _ => ⟨_, rfl, w0S ⟨rl_any _, rl_any _, rl_any _, rl_any _, trivial⟩⟩⟩
theorem loopAo : LoopOK P (loopOf P 152 2) (few 19 [0,1,7,8] gAo) :=
  loop_few (E := E0) mixed E0_ok loopsOK_none 19 [0,1,7,8] (X := XAo) gAo (fun _ x => VAo x) PhiAo (fun q => q.n - q.j) (fun _ x o => o = oAo)
    (fun n0 st r h => by
      unfold gAo at h
      split at h
      · rename_i n0 n e N'
        obtain ⟨h0, hp, rfl⟩ := (T.is_ask h).1
        obtain rfl := T.is_ret (T.is_ask h).2
        rw [lk_eq] at hp
        subst h0
        exact ⟨⟨n, e, 0⟩, ⟨rfl, hp, Nat.zero_le _⟩, w0S ⟨⟨rfl, row1H fun _ _ => rfl⟩, ⟨rfl, trivial, trivial⟩, rfl, rfl, trivial⟩, fun o ho => ho⟩
      · exact h.elim)
    roundAo
theorem lAo_ok : ∀ p ∈ lAo, LoopsOK P p.2 (bodyOf P p.1) := by
  intro p hp
  simp only [lAo, List.mem_singleton] at hp
  subst hp
  refine loopsOK_of (by kernel_rfl) fun k g hk => ?_
  simp only [List.mem_singleton, Prod.mk.injEq, LoopC.sum.injEq] at hk
  obtain ⟨rfl, rfl⟩ := hk
  exact loopAo
theorem Ao_ok : ConOK P 152 c_Ao := con_of (allOKL mixed none_ok lAo_ok) 10 152 fun args r h => by
  unfold c_Ao at h
  split at h
  · rename_i n e
    have hp := (T.is_ask h).1
    obtain rfl := T.is_ret (T.is_ask h).2
    exact T.all_of_eq (t_Aoi n e) ⟨⟨rfl, hp, rfl⟩, rfl⟩
  · exact h.elim
theorem kAo_ok : ∀ p ∈ [(152, c_Ao)], ConOK P p.1 p.2 := by
  intro p hp
  simp only [List.mem_singleton] at hp
  subst hp
  exact Ao_ok
theorem Ac_ok : ConOK P 69 c_Ac := con_of (allOK mixed kAo_ok) 10 69 fun args r h => by
  unfold c_Ac at h
  split at h
  · rename_i n e
    have hp := (T.is_ask h).1
    obtain rfl := T.is_ret (T.is_ask h).2
    refine T.all_of_eq (t_Ac n e) ⟨hp, ?_⟩
    have : U.ge (-1 : Int) 0 = false := U.ge_f.mpr (by decide)
    rw [this]
    exact rfl
  · exact h.elim
end Go.RX.Span

/- Domain maps: the law of one owner: the two loops of the law. -/
set_option linter.unusedVariables false
set_option linter.unusedSimpArgs false
set_option maxRecDepth 100000
namespace Go.RX.Span
open Go Go.RX
attribute [local irreducible] sx conB

theorem kOn_ok : ∀ p ∈ kOn, ConOK P p.1 p.2 := by
  intro p hp
  simp only [kOn, List.mem_cons, List.not_mem_nil, or_false] at hp
  rcases hp with rfl | rfl | rfl | rfl | rfl | rfl | rfl | rfl | rfl | rfl | rfl
  · exact Few_ok
  · exact dmCheck_ok
  · exact DSize_ok
  · exact awake5_ok
  · exact Counts_ok
  · exact Part_ok
  · exact Owner_ok
  · exact OwnerAt_ok
  · exact DNth_ok
  · exact Srt_ok
  · exact Ac_ok
theorem EOn_ok : EnvOK EOn := envOK (allOK mixed kOn_ok) 10
theorem memOn_rl {n : Nat} {f : Nat → R3} {k s h : Int} {z : Bool} {N : Nat} {G G' : Nat → R1} (g g' : Nat) (hG : ∀ p, p < N → G p = G' p) :
    RlM [some 0, some 1] [(g, some (.cells [.row [.int .i64, .int .i64, .int .i64] n f, .lit (.int .i64 k), .lit (.int .i64 s), .lit (.int .i64 h)] 49)), (g', some (.row z N [.int .i64] G 3))] 0 (memOn n f k s h z N G') :=
  ⟨⟨rfl, ⟨rfl, sameR fun _ _ => rfl⟩, rfl, rfl, rfl, trivial⟩, ⟨rfl, rfl, rfl, row1H hG⟩, trivial⟩
structure XOi where
  (n : Nat) (f : Nat → R3) (k s h L sz : Int) (cN : Nat) (cF : Nat → R1) (z : Bool) (N : Nat) (l : Int) (pN : Nat) (pF : Nat → R1) (j : Nat)
noncomputable abbrev VOi (q : XOi) : Few := (slOi q.L q.sz q.cN q.cF q.z q.N q.l q.pN q.pF (q.j : Int), memOn q.n q.f q.k q.s q.h q.z q.N (seF q.n q.f q.k q.s q.h q.L q.l q.j))
noncomputable def OOi (q : XOi) : Ex × Few := (.exit 2, (slOi q.L q.sz q.cN q.cF q.z q.N q.l q.pN q.pF (q.pN : Int), memOn q.n q.f q.k q.s q.h q.z q.N (lk seF q.n q.f q.k q.s q.h q.L (lk nxt q.l) 0)))
def PhiOi (n0 : Nat) (q : XOi) : Prop := PreOi n0 q.n q.f q.k q.s q.h q.L q.sz q.l q.N (seF q.n q.f q.k q.s q.h q.L q.l 0) q.pN q.pF ∧ q.j ≤ q.pN
theorem slOi_rl (L sz : Int) (cN : Nat) (cF : Nat → R1) (z : Bool) (N : Nat) (l : Int) (pN : Nat) (pF : Nat → R1) {i i' : Int} (e : i = i') : RlL [some 0, some 1] (slOi L sz cN cF z N l pN pF i) (slOi L sz cN cF z N l pN pF i') := by
  subst e
  exact ⟨rfl, ⟨rfl, rfl⟩, rfl, ⟨rfl, row1H fun _ _ => rfl⟩, ⟨rfl, rfl, rfl⟩, rfl, rfl, rfl, ⟨rfl, row1H fun _ _ => rfl⟩, rfl, rfl, trivial⟩
theorem roundOi (n0 : Nat) (q : XOi) (hq : PhiOi n0 q) : ((sx EOn [] n0 (loopOf P 11 15) (mkS 148 [1,2,5,6,8,9,54,55,81,82,83] (VOi q).1, (VOi q).2)).bind (proj 148 [1,2,5,6,8,9,54,55,81,82,83])).All fun r => match r.1 with
      | .normal => ∃ q', PhiOi n0 q' ∧ q'.pN - q'.j < q.pN - q.j ∧ Wk 148 [1,2,5,6,8,9,54,55,81,82,83] n0 r.2 (VOi q') ∧ ∀ o, o = OOi q' → o = OOi q
      | e => ∃ s, (e, s) = OOi q ∧ Wk 148 [1,2,5,6,8,9,54,55,81,82,83] n0 r.2 s := by
  obtain ⟨n, f, k, s, h, L, sz, cN, cF, z, N, l, pN, pF, j⟩ := q
  obtain ⟨⟨h0, hd, h3, hs, l0, l1, hN, hG, hp, hF⟩, hj⟩ := hq
  have hj : j ≤ pN := hj
  simp only [] at h0 hd h3 hs l0 l1 hN hp hF
  subst h0 hs hN hp hF
  have d := dr_64 (chD_zero.1 (dmE_zero.1 hd).2.2.1).1
  have lp := partL_len (n := n) (f := f) (k := k) (s := s) (h := h) (L := L) l
  have hz := szD_nn (dmE_zero.1 hd).2.2.1
  refine T.all_of_eq (t_Oi n f k s h L (szD n f k s h) cN cF z (szDn n f k s h) (seF n f k s h L l j) l (partL n f k s h L l).length (rowN (partL n f k s h L l)) (j : Int)) ?_
  have e2 := add1o (j := j) (by omega)
  have w0 : ∀ {vs vs' : List SV} (g g' : Nat) {G G' : Nat → R1}, (∀ p, p < szDn n f k s h → G p = G' p) → RlL [some 0, some 1] vs vs' → Wk 148 [1,2,5,6,8,9,54,55,81,82,83] 0 (vs, [(g, some (.cells [.row [.int .i64, .int .i64, .int .i64] n f, .lit (.int .i64 k), .lit (.int .i64 s), .lit (.int .i64 h)] 49)), (g', some (.row z (szDn n f k s h) [.int .i64] G 3))]) (vs', memOn n f k s h z (szDn n f k s h) G') := fun g g' _ _ hG h => wk_of [some 0, some 1] rfl (Nat.zero_le _) (ren1z _) h (memOn_rl g g' hG)
  by_cases hlt : j < (partL n f k s h L l).length
  · obtain ⟨p1, p2, p3⟩ := part_get hlt
    have eg := rowN_get hlt
    have sa := se_at hlt
    have ss := fun p => se_step (p := p) hlt
    generalize (partL n f k s h L l)[j] = p at *
    have ep : rowN (partL n f k s h L l) j = ((p : Int), PUnit.unit) := Prod.ext eg rfl
    obtain ⟨z1, z2, z3, z4, z5⟩ := one_of hd p1
    obtain ⟨a1, a2⟩ := oa_at hd p1
    rw [p2] at a2 z4
    simp only [e2, lk_eq, tnH, ep, eg, z1, z2, z3, z4, a1, a2]
    refine ⟨fun _ => ⟨⟨by omega, by omega⟩, fun g => absurd (U.lt_t.mp g) (by omega), fun _ => ⟨fun g => absurd (U.ge_t.mp g) (by omega), fun _ => ⟨⟨by omega, by omega⟩, p1, ⟨by omega, by omega⟩, p1, ⟨d, by unfold I64; omega⟩, ⟨d, by unfold I64; omega⟩, ⟨d, z5⟩, fun g => absurd rfl (U.ne_t.mp g), fun _ => ⟨fun g => absurd rfl (U.ne_t.mp g), fun _ => ⟨fun g => absurd rfl (U.ne_t.mp g), fun _ => ⟨fun g => absurd rfl (U.ne_t.mp g), fun _ => ⟨fun g => absurd rfl (U.ne_t.mp g), fun _ =>
      ⟨⟨n, f, k, s, h, L, szD n f k s h, cN, cF, z, szDn n f k s h, l, (partL n f k s h L l).length, rowN (partL n f k s h L l), j + 1⟩, ⟨⟨rfl, hd, h3, rfl, l0, l1, rfl, hG, rfl, rfl⟩, hlt⟩, (show (partL n f k s h L l).length - (j + 1) < (partL n f k s h L l).length - j by omega), w0 _ _ (fun r hr => ?_) (slOi_rl _ _ _ _ _ _ _ _ _ rfl), fun o ho => ho⟩⟩⟩⟩⟩⟩⟩⟩, fun g => absurd (U.lt_f.mp g) (by simp only [Int.ofNat_eq_natCast]; omega)⟩
    refine (U.upd_eq _ _ _ _).trans ?_
    by_cases er : r = p
    · refine (if_pos er).trans ?_
      subst er
      refine Prod.ext ?_ rfl
      show U.add .i64 (seN n f k s h L l j r) 1 = seN n f k s h L l (j + 1) r
      rw [ss r hr, if_pos rfl, sa]; exact U.add64 (by unfold I64; omega)
    · refine (if_neg er).trans ?_
      refine Prod.ext ?_ rfl
      show seN n f k s h L l j r = seN n f k s h L l (j + 1) r
      rw [ss r hr, if_neg er]
  · have ej : j = (partL n f k s h L l).length := by omega
    refine ⟨fun g => absurd (U.lt_t.mp g) (by simp only [Int.ofNat_eq_natCast]; omega), fun _ => ⟨_, rfl, w0 _ _ (fun r hr => ?_) (slOi_rl _ _ _ _ _ _ _ _ _ (by rw [ej]))⟩⟩
    have el : lk seF n f k s h L (lk nxt l) 0 r = seF n f k s h L (l + 1) 0 r := by simp only [lk_eq]; rfl
    refine Eq.trans ?_ el.symm
    refine Prod.ext ?_ rfl
    show seN n f k s h L l j r = seN n f k s h L (l + 1) 0 r
    rw [ej]; exact se_next hr
theorem loopOi : LoopOK P (loopOf P 11 15) (few 148 [1,2,5,6,8,9,54,55,81,82,83] gOi) :=
  loop_few (E := EOn) mixed EOn_ok loopsOK_none 148 [1,2,5,6,8,9,54,55,81,82,83] (X := XOi) gOi (fun _ x => VOi x) PhiOi (fun q => q.pN - q.j) (fun _ x o => o = OOi x)
    (fun n0 st r h => by
      unfold gOi at h
      split at h
      · rename_i n0 L sz cN cF z b N l L' l' pN pF pN' e0 n f k s h' t0 e1 z' N' G t1
        obtain ⟨hp, rfl, rfl, rfl, rfl, rfl, rfl, rfl, rfl⟩ := (T.is_ask h).1
        obtain rfl := T.is_ret (T.is_ask h).2
        rw [lk_eq] at hp
        obtain ⟨h0, hd, h3, hs, l0, l1, hN, hG, hpN, hF⟩ := hp
        subst h0
        refine ⟨⟨n, f, k, s, h', L', sz, cN, cF, z', N', l', pN, pF, 0⟩, ⟨⟨rfl, hd, h3, hs, l0, l1, hN, fun _ _ => rfl, hpN, hF⟩, Nat.zero_le _⟩, wk_of [some 0, some 1] rfl (Nat.zero_le _) (ren1z _) (slOi_rl _ _ _ _ _ _ _ _ _ rfl) (memOn_rl _ _ hG), fun o ho => ho⟩
      · exact h.elim)
    roundOi
theorem LOi_ok : LoopsOK P LOi (bodyOf P 11) := loopsOK_of (by kernel_rfl) fun k g hk => by
  simp only [List.mem_singleton, Prod.mk.injEq, LoopC.sum.injEq] at hk
  obtain ⟨rfl, rfl⟩ := hk
  exact loopOi
structure XOo where
  (n : Nat) (f : Nat → R3) (k s h L sz : Int) (cN : Nat) (cF : Nat → R1) (z : Bool) (N : Nat) (j : Nat)
noncomputable abbrev VOo (q : XOo) : Few := (slOo2 q.L q.sz q.cN q.cF q.z q.N (q.j : Int), memOn q.n q.f q.k q.s q.h q.z q.N (seF q.n q.f q.k q.s q.h q.L (q.j : Int) 0))
noncomputable def OOo (q : XOo) : Ex × Few := (.exit 0, (slOo2 q.L q.sz q.cN q.cF q.z q.N q.L, memOn q.n q.f q.k q.s q.h q.z q.N (lk seF q.n q.f q.k q.s q.h q.L q.L 0)))
def PhiOo (n0 : Nat) (q : XOo) : Prop := PreOo n0 q.n q.f q.k q.s q.h q.L q.sz q.cN q.cF q.N (fun _ => oneR 0) ∧ (q.j : Int) ≤ q.L
theorem slOo_rl (L sz : Int) (cN : Nat) (cF : Nat → R1) (z : Bool) (N : Nat) {i i' : Int} (e : i = i') : RlL [some 0, some 1] (slOo2 L sz cN cF z N i) (slOo2 L sz cN cF z N i') := by
  subst e
  exact ⟨rfl, ⟨rfl, rfl⟩, rfl, ⟨rfl, row1H fun _ _ => rfl⟩, ⟨rfl, rfl, rfl⟩, rfl, rfl, trivial⟩
theorem roundOo (n0 : Nat) (q : XOo) (hq : PhiOo n0 q) : ((sx EOn LOi n0 (loopOf P 11 9) (mkS 148 [1,2,5,6,8,54,55] (VOo q).1, (VOo q).2)).bind (proj 148 [1,2,5,6,8,54,55])).All fun r => match r.1 with
      | .normal => ∃ q', PhiOo n0 q' ∧ q'.L.toNat - q'.j < q.L.toNat - q.j ∧ Wk 148 [1,2,5,6,8,54,55] n0 r.2 (VOo q') ∧ ∀ o, o = OOo q' → o = OOo q
      | e => ∃ s, (e, s) = OOo q ∧ Wk 148 [1,2,5,6,8,54,55] n0 r.2 s := by
  obtain ⟨n, f, k, s, h, L, sz, cN, cF, z, N, j⟩ := q
  obtain ⟨⟨h0, hd, h3, hs, hc, hF, hN, hG⟩, hj⟩ := hq
  have hj : (j : Int) ≤ L := hj
  have hc : (cN : Int) = L := hc
  simp only [] at h0 hd h3 hs hF hN
  subst h0 hs hN hF
  have d := dr_64 (chD_zero.1 (dmE_zero.1 hd).2.2.1).1
  have hz := szD_nn (dmE_zero.1 hd).2.2.1
  have hL := (dmE_zero.1 hd).2.1
  refine T.all_of_eq (t_Oo n f k s h L (szD n f k s h) cN _ z (szDn n f k s h) (seF n f k s h L (j : Int) 0) (j : Int)) ?_
  have e2 := add1o (j := j) (by omega)
  have w0 : ∀ {vs vs' : List SV} (g g' : Nat) {G G' : Nat → R1}, (∀ p, p < szDn n f k s h → G p = G' p) → RlL [some 0, some 1] vs vs' → Wk 148 [1,2,5,6,8,54,55] 0 (vs, [(g, some (.cells [.row [.int .i64, .int .i64, .int .i64] n f, .lit (.int .i64 k), .lit (.int .i64 s), .lit (.int .i64 h)] 49)), (g', some (.row z (szDn n f k s h) [.int .i64] G 3))]) (vs', memOn n f k s h z (szDn n f k s h) G') := fun g g' _ _ hG h => wk_of [some 0, some 1] rfl (Nat.zero_le _) (ren1z _) h (memOn_rl g g' hG)
  by_cases hlt : (j : Int) < L
  · have z1 : lcE n f k s h L (j : Int) = 0 := lcE_zero.2 ⟨ls_of hd h3, by omega, hlt⟩
    have z2 : ptE n f k s h L (j : Int) = 0 := z1
    have z3 : ptN n f k s h L (j : Int) = (partL n f k s h L (j : Int)).length := by unfold ptN; rw [if_neg (by simp [z1])]
    have bp := bs_part (n := n) (f := f) (k := k) (s := s) (h := h) (L := L) (by omega) (j : Int)
    simp only [e2, lk_eq, tnH, z2, z3]
    exact ⟨fun _ => ⟨d, fun g => absurd rfl (U.ne_t.mp g), fun _ => ⟨⟨by omega, by omega⟩, fun g => absurd rfl (U.ne_t.mp g), fun _ => ⟨bp, fun g => absurd (U.not_t.mp g) (by decide), fun _ => ⟨⟨⟨rfl, hd, h3, rfl, by omega, hlt, rfl, fun _ _ => rfl, rfl, rfl⟩, trivial, trivial, trivial, trivial, trivial, trivial, trivial, trivial⟩,
      ⟨n, f, k, s, h, L, szD n f k s h, cN, _, z, szDn n f k s h, j + 1⟩, ⟨⟨rfl, hd, h3, rfl, hc, rfl, rfl, fun _ _ => rfl⟩, (show ((j + 1 : Nat) : Int) ≤ L by omega)⟩, (show L.toNat - (j + 1) < L.toNat - j by omega), w0 _ _ (fun r hr => rfl) (slOo_rl _ _ _ _ _ _ rfl), fun o ho => ho⟩⟩⟩⟩, fun g => absurd (U.lt_f.mp g) (by omega)⟩
  · have ej : (j : Int) = L := by omega
    refine ⟨fun g => absurd (U.lt_t.mp g) (by omega), fun _ => ⟨_, rfl, w0 _ _ (fun r hr => ?_) (slOo_rl _ _ _ _ _ _ ej)⟩⟩
    rw [ej]; simp only [lk_eq]
theorem LOi_sub : LoopsOK P LOi (loopOf P 11 9) := LOi_ok.sub (fun l hl => by
  rw [show loopsIn (bodyOf P 11) = loopOf P 11 9 :: loopsIn (loopOf P 11 9) by kernel_rfl]
  exact List.mem_cons_of_mem _ hl) fun l hl => by
  rw [show rangesIn (loopOf P 11 9) = [] by kernel_rfl] at hl; cases hl
theorem loopOo : LoopOK P (loopOf P 11 9) (few 148 [1,2,5,6,8,54,55] gOo) :=
  loop_few (E := EOn) mixed EOn_ok LOi_sub 148 [1,2,5,6,8,54,55] (X := XOo) gOo (fun _ x => VOo x) PhiOo (fun q => q.L.toNat - q.j) (fun _ x o => o = OOo x)
    (fun n0 st r h => by
      unfold gOo at h
      split at h
      · rename_i n0 L sz cN cF z b N L' e0 n f k s h' t0 e1 z' N' G t1
        obtain ⟨hp, rfl, rfl, rfl, rfl, rfl, rfl⟩ := (T.is_ask h).1
        obtain rfl := T.is_ret (T.is_ask h).2
        rw [lk_eq] at hp
        obtain ⟨h0, hd, h3, hs, hc, hF, hN, hG⟩ := hp
        subst h0
        have l0 := (dmE_zero.1 hd).1
        refine ⟨⟨n, f, k, s, h', L', sz, cN, cF, z', N', 0⟩, ⟨⟨rfl, hd, h3, hs, hc, hF, hN, fun _ _ => rfl⟩, (show ((0 : Nat) : Int) ≤ L' by omega)⟩, wk_of [some 0, some 1] rfl (Nat.zero_le _) (ren1z _) (slOo_rl _ _ _ _ _ _ rfl) (memOn_rl _ _ fun p hp => ?_), fun o ho => ho⟩
        rw [hG p hp]
        refine Prod.ext ?_ rfl
        show 0 = seN n f k s h' L' ((0 : Nat) : Int) 0 p
        rw [hN] at hp
        exact (se_zero hd hp).symm
      · exact h.elim)
    roundOo
noncomputable abbrev lOn : List (Nat × Loops) := [(11, [(15, .sum (few 148 [1,2,5,6,8,9,54,55,81,82,83] gOi)), (9, .sum (few 148 [1,2,5,6,8,54,55] gOo))])]
theorem lOn_ok : ∀ p ∈ lOn, LoopsOK P p.2 (bodyOf P p.1) := by
  intro p hp
  simp only [lOn, List.mem_singleton] at hp
  subst hp
  refine loopsOK_of (by kernel_rfl) fun k g hk => ?_
  simp only [List.mem_cons, List.not_mem_nil, or_false, Prod.mk.injEq, LoopC.sum.injEq] at hk
  rcases hk with ⟨rfl, rfl⟩ | ⟨rfl, rfl⟩
  · exact loopOi
  · exact loopOo
end Go.RX.Span

/- Domain maps: the law of one owner returns true. -/
set_option linter.unusedVariables false
set_option linter.unusedSimpArgs false
set_option maxRecDepth 100000
namespace Go.RX.Span
open Go Go.RX
attribute [local irreducible] sx conB

section
variable (n : Nat) (f : Nat → R3) (k s h L : Int)
noncomputable def wO (l : List Bool) : T SV := (conB P (conOf kOn) (loopsOf lOn) 10 11 [.agg [.row [.int .i64, .int .i64, .int .i64] n f, .lit (.int .i64 k), .lit (.int .i64 s), .lit (.int .i64 h)], .lit (.int .i64 L)]).force l
theorem t_On1 : wO n f k s h L [true] = .ask (Row64 n f) (.ask (U.not (lk fewB n f k s h 300) = true) (.ret (.lit (.bool true)))) := by kernel_rfl
theorem t_On2 : wO n f k s h L [false, true] = .ask (Row64 n f) (.ask (U.not (lk fewB n f k s h 300) = false) (.ask (Row64 n f) (.ask (U.ne (lk dmE n f k s h L) 0 = true) (.ret (.lit (.bool true)))))) := by kernel_rfl
theorem t_On3 : wO n f k s h L [false, false, true] = .ask (Row64 n f) (.ask (U.not (lk fewB n f k s h 300) = false) (.ask (Row64 n f) (.ask (U.ne (lk dmE n f k s h L) 0 = false) (.ask (Row64 n f) (.ask (U.gt (lk szD n f k s h) 300 = true) (.ret (.lit (.bool true)))))))) := by kernel_rfl
theorem t_On4 : wO n f k s h L [false, false, false, false, false, true] = .ask (Row64 n f) (.ask (U.not (lk fewB n f k s h 300) = false) (.ask (Row64 n f) (.ask (U.ne (lk dmE n f k s h L) 0 = false) (.ask (Row64 n f) (.ask (U.gt (lk szD n f k s h) 300 = false)
    (.ask (Row64 n f) (.ask (Row64 n f) (.ask (U.ne (lk lsE n f k s h L) 0 = false) (.ask (U.ne (Int.ofNat (lk ctN n f k s h L)) L = false)
    (.ask (0 ≤ U.mm true (lk szD n f k s h) 0 ∧ U.mm true (lk szD n f k s h) 0 ≤ U.mm true (lk szD n f k s h) 0 ∧ ((8 : Nat) : Int) * U.mm true (lk szD n f k s h) 0 ≤ 281474976710656 ∧ U.mm true (lk szD n f k s h) 0 ≤ 140737488351232)
    (.ask (lk PreOo 0 n f k s h L (lk szD n f k s h) (lk ctN n f k s h L) (lk ctF n f k s h L) (U.toNat (U.mm true (lk szD n f k s h) 0)) (fun x => ((0 : Int), ())) ∧ (1 : Nat) = 1 ∧ L = L ∧ false = false ∧ U.toNat (U.mm true (lk szD n f k s h) 0) = U.toNat (U.mm true (lk szD n f k s h) 0) ∧ (49 : Nat) = 49 ∧ (3 : Nat) = 3)
    (.ask (lk AllOne (U.toNat (U.mm true (lk szD n f k s h) 0)) (lk seF n f k s h L L 0))
    (.ask (U.not false = true) (.ret (.lit (.bool true)))))))))))))))) := by kernel_rfl
end
noncomputable def c_DmapOne : Con := fun args => match args with
  | [.agg [.row [.int .i64, .int .i64, .int .i64] n f, .lit (.int .i64 k), .lit (.int .i64 s), .lit (.int .i64 h)], .lit (.int .i64 L)] => .ask (Row64 n f) (.ret (.lit (.bool true)))
  | _ => .stuck 1
theorem DmapOne_ok : ConOK P 11 c_DmapOne := con_force (allOKL mixed kOn_ok lOn_ok) 10 11 fun args r hh => by
  unfold c_DmapOne at hh
  split at hh
  · rename_i n f k s h L
    have d := (T.is_ask hh).1
    obtain rfl := T.is_ret (T.is_ask hh).2
    show ∃ l, (wO n f k s h L l).All fun v => Cl v (.lit (.bool true))
    by_cases h1 : fewB n f k s h 300 = true
    rotate_left
    · exact ⟨_, by rw [t_On1]; simp only [lk_eq]; exact ⟨d, U.not_t.mpr (by simpa using h1), .inl rfl⟩⟩
    by_cases hd : dmE n f k s h L = 0
    rotate_left
    · exact ⟨_, by rw [t_On2]; simp only [lk_eq]; exact ⟨d, U.not_f.mpr h1, d, U.ne_t.mpr hd, .inl rfl⟩⟩
    by_cases h3 : szD n f k s h ≤ 300
    rotate_left
    · exact ⟨_, by rw [t_On3]; simp only [lk_eq]; exact ⟨d, U.not_f.mpr h1, d, U.ne_f.mpr hd, d, U.gt_t.mpr (by omega), .inl rfl⟩⟩
    obtain ⟨c1, c2⟩ := ct_of hd (by omega)
    have hz := szD_nn (dmE_zero.1 hd).2.2.1
    have em : U.mm true (szD n f k s h) 0 = szD n f k s h := by rw [U.mm_eq]; simp only [if_true]; split <;> omega
    have en : U.toNat (szD n f k s h) = szDn n f k s h := by rw [← hz]; exact tnH _
    exact ⟨_, by
      rw [t_On4]; simp only [lk_eq, em, en]
      exact ⟨d, U.not_f.mpr h1, d, U.ne_f.mpr hd, d, U.gt_f.mpr h3, d, d, U.ne_f.mpr (ls_of hd (by omega)), U.ne_f.mpr c2, ⟨by omega, by omega, by omega, by omega⟩,
        ⟨⟨rfl, hd, h3, rfl, c2, rfl, rfl, fun _ _ => rfl⟩, trivial, trivial, trivial, trivial, trivial, trivial⟩, ⟨by omega, fun i hi => se_all hd hi⟩, U.not_t.mpr rfl, .inl rfl⟩⟩
  · exact hh.elim
end Go.RX.Span

