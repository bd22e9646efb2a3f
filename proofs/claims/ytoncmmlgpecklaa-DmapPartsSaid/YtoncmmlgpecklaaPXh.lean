/- The order of a domain's indices, in plain Lean. -/
import Derived.Test.YtoncmmlgpecklaaPXg
import Derived.Test.YtoncmmlgpecklaaPXf
import Derived.Test.YtoncmmlgpecklaaPXb
set_option linter.unusedVariables false
set_option linter.unusedSimpArgs false
namespace Go.RX.Span
open Go Go.RX

/-- What is known of a right range that has numbers. -/
theorem szN_pos {r : R3} (h : RR r) (hp : 0 < szN r.1 r.2.1 r.2.2.1) : ∃ a b c : Int, a = r.1 ∧ b = r.2.1 ∧ c = r.2.2.1 ∧ Right a b c ∧ a ≤ b ∧ 0 < c ∧ ((szN a b c : Nat) : Int) = ofC a b c := by
  obtain ⟨a, ha⟩ : ∃ a : Int, a = r.1 := ⟨_, rfl⟩
  obtain ⟨b, hb⟩ : ∃ b : Int, b = r.2.1 := ⟨_, rfl⟩
  obtain ⟨c, hc⟩ : ∃ c : Int, c = r.2.2.1 := ⟨_, rfl⟩
  have hR : Right a b c := by rw [ha, hb, hc]; exact h.1
  have hC : 0 < c := by rw [hc]; exact h.2
  rw [← ha, ← hb, ← hc] at hp
  have e := (rr_size h).1
  have e' : szR r = size a b c := by rw [ha, hb, hc]; rfl
  have e'' : ofC (rA r) (rB r) (rC r) = ofC a b c := by rw [ha, hb, hc]; rfl
  rw [e', e''] at e
  have hs : 0 < size a b c := by unfold szN at hp; omega
  refine ⟨a, b, c, ha, hb, hc, hR, ?_, hC, by unfold szN; omega⟩
  by_cases hab : a ≤ b
  · exact hab
  · have := (empty_of (c := c) hab).2.2
    omega
end Go.RX.Span

/- A domain's i-th index: Nth has it, Position finds it, in plain Lean. -/
set_option linter.unusedVariables false
set_option linter.unusedSimpArgs false
namespace Go.RX.Span
open Go Go.RX

theorem ixF0 (x y : Int) : ixF x y 0 = (x, ()) := rfl
theorem ixF1 (x y : Int) : ixF x y 1 = (y, ()) := rfl
/-- The k-th number of a right range that has so many. -/
theorem num_all {r : R3} (h : RR r) {k : Nat} (hk : k < szN r.1 r.2.1 r.2.2.1) : nth (rA r) (rB r) (rC r) k = num r.1 r.2.1 r.2.2.1 k ∧ hasR r (num r.1 r.2.1 r.2.2.1 k) = true ∧ posR r (num r.1 r.2.1 r.2.2.1 k) = k := by
  obtain ⟨a, b, c, ha, hb, hc, hr, hab, h0, hN⟩ := szN_pos h (Nat.lt_of_le_of_lt (Nat.zero_le _) hk)
  show nth r.1 r.2.1 r.2.2.1 k = _ ∧ has r.1 r.2.1 r.2.2.1 _ = true ∧ pos r.1 r.2.1 r.2.2.1 _ = k
  rw [← ha, ← hb, ← hc] at hk ⊢
  have hk' : (k : Int) < ofC a b c := by omega
  exact ⟨(num_nth hr hk').2, num_has hr hab hk', num_pos hr hab hk'⟩
theorem dn_zero {n : Nat} {f : Nat → R3} {k s h : Int} {i : Nat} (hc : chD n f k s h = 0) (hi : i < szDn n f k s h) : dnE n f k s h i = 0 ∧ dnN n f k s h i = n := by
  have e : dnE n f k s h i = 0 := by
    unfold dnE
    rw [if_neg (by simp [hc]), if_neg (by unfold szDn at hi; omega)]
  exact ⟨e, by unfold dnN; rw [if_neg (by simp [e])]⟩
theorem ix_all {n : Nat} {f : Nat → R3} {k s h : Int} {i : Nat} (hc : chD n f k s h = 0) (hi : i < szDn n f k s h) :
    (∀ j, j < n → dnF n f i j = ixF (idX n f i) (idY n f i) j) ∧ hasD n f k s h n (ixF (idX n f i) (idY n f i)) = true ∧ posD n f k s h n (ixF (idX n f i) (idY n f i)) = i := by
  obtain ⟨d1, _⟩ := chD_zero.1 hc
  have hn := d1.1
  rw [szDn_right hc] at hi
  rcases hn with rfl | rfl
  · rw [if_pos rfl, Nat.mul_one] at hi
    obtain ⟨e1, e2, e3⟩ := num_all (d1.2 0 (by omega)) hi
    have eX : idX 1 f i = num (f 0).1 (f 0).2.1 (f 0).2.2.1 i := by unfold idX; rw [if_pos rfl]
    obtain ⟨h1, h2⟩ := hasD_t (k := k) (s := s) (h := h) (n := 1) (f := f) (m := 1) (e := ixF (idX 1 f i) (idY 1 f i)) ⟨hc, rfl, by rw [ixF0, eX]; exact e2, fun h => by omega⟩
    refine ⟨fun j hj => ?_, h1, ?_⟩
    · obtain rfl : j = 0 := by omega
      rw [ixF0, eX]
      unfold dnF colD
      rw [if_pos rfl, if_pos rfl, Int.tdiv_one, e1]; rfl
    · rw [h2, if_pos rfl, ixF0, eX]; exact e3
  · rw [if_neg (by omega)] at hi
    have hq : 0 < szN (f 1).1 (f 1).2.1 (f 1).2.2.1 := Nat.pos_of_ne_zero fun h0 => by rw [h0, Nat.mul_zero] at hi; omega
    have hd : i / szN (f 1).1 (f 1).2.1 (f 1).2.2.1 < szN (f 0).1 (f 0).2.1 (f 0).2.2.1 := Nat.div_lt_of_lt_mul (by rw [Nat.mul_comm]; exact hi)
    have hm := Nat.mod_lt i hq
    obtain ⟨e1, e2, e3⟩ := num_all (d1.2 0 (by omega)) hd
    obtain ⟨g1, g2, g3⟩ := num_all (d1.2 1 (by omega)) hm
    have eX : idX 2 f i = num (f 0).1 (f 0).2.1 (f 0).2.2.1 (i / szN (f 1).1 (f 1).2.1 (f 1).2.2.1) := by unfold idX; rw [if_neg (by omega)]
    have eY : idY 2 f i = num (f 1).1 (f 1).2.1 (f 1).2.2.1 (i % szN (f 1).1 (f 1).2.1 (f 1).2.2.1) := by unfold idY; rw [if_neg (by omega)]
    have ec : colD 2 f = ((szN (f 1).1 (f 1).2.1 (f 1).2.2.1 : Nat) : Int) := by unfold colD; rw [if_neg (by omega)]; exact (szN_R (d1.2 1 (by omega))).symm
    obtain ⟨h1, h2⟩ := hasD_t (k := k) (s := s) (h := h) (n := 2) (f := f) (m := 2) (e := ixF (idX 2 f i) (idY 2 f i)) ⟨hc, rfl, by rw [ixF0, eX]; exact e2, fun _ => by rw [ixF1, eY]; exact g2⟩
    refine ⟨fun j hj => ?_, h1, ?_⟩
    · rcases (show j = 0 ∨ j = 1 by omega) with rfl | rfl
      · rw [ixF0, eX]
        unfold dnF
        rw [if_pos rfl, ec, ← Int.ofNat_tdiv, e1]; rfl
      · rw [ixF1, eY]
        unfold dnF
        rw [if_neg (by omega), ec, ← Int.ofNat_tmod, g1]; rfl
    · rw [h2, if_neg (by omega), ixF0, ixF1, eX, eY]
      show posR (f 0) _ * szR (f 1) + posR (f 1) _ = _
      rw [e3, g3, ← szN_R (d1.2 1 (by omega)), ← Int.natCast_mul, ← Int.natCast_add, Nat.mul_comm, Nat.div_add_mod]
end Go.RX.Span

/- Domain maps: plain specifications. -/
set_option linter.unusedVariables false
set_option linter.unusedSimpArgs false
namespace Go.RX.Span
open Go Go.RX

/-- A number of a list. -/
def nv (e : Nat → R1) (j : Nat) : Int := (e j).1
/-- The remainder from 0 on. -/
def emd (a b : Int) : Int := a % b
/-- The hash of the first so many numbers. -/
def hashN (e : Nat → R1) : Nat → Int
  | 0 => 7
  | j + 1 => (31 * hashN e j + nv e j % 1000003) % 1000003
theorem hashN_bnd (e : Nat → R1) (j : Nat) : 0 ≤ hashN e j ∧ hashN e j < 1000003 := by
  cases j with
  | zero => exact ⟨(by decide : (0 : Int) ≤ 7), (by decide : (7 : Int) < 1000003)⟩
  | succ j => exact ⟨Int.emod_nonneg (31 * hashN e j + nv e j % 1000003) (show (1000003 : Int) ≠ 0 by decide), Int.emod_lt_of_pos (31 * hashN e j + nv e j % 1000003) (show (0 : Int) < 1000003 by decide)⟩
theorem hashN_congr {e e' : Nat → R1} : ∀ {j : Nat}, (∀ i, i < j → nv e i = nv e' i) → hashN e j = hashN e' j
  | 0, _ => rfl
  | j + 1, h => by
    show (31 * hashN e j + nv e j % 1000003) % 1000003 = (31 * hashN e' j + nv e' j % 1000003) % 1000003
    rw [hashN_congr fun i hi => h i (by omega), h j (by omega)]
section
variable (n : Nat) (f : Nat → R3) (k s h : Int) (L : Int)
/-- The error of a domain over a number of locales. -/
def dmE : Int := if L < 1 ∨ 8 < L then 4 else if chD n f k s h ≠ 0 then chD n f k s h else if k = 0 ∧ L ≤ h then 70 else 0
/-- The owner of an index whose first number has a position. -/
def owQ (q : Int) (e : Nat → R1) : Int :=
  if k = 0 then h else if k = 1 then (q * L).tdiv (szR (f 0)) else if k = 2 then q.tmod L else if k = 3 then (q.tdiv s).tmod L else (hashN e n).tmod L
/-- The owner of an index. -/
def owX (e : Nat → R1) : Int := owQ n f k s h L (posR (f 0) (e 0).1) e
def colN : Nat := if n = 1 then 1 else szN (f 1).1 (f 1).2.1 (f 1).2.2.1
/-- The owner of the p-th index. -/
noncomputable def owP (p : Nat) : Int := owQ n f k s h L ((p / colN n f : Nat) : Int) (ixF (idX n f p) (idY n f p))
/-- The local part of a locale. -/
noncomputable def partL (l : Int) : List Nat := (List.range (szDn n f k s h)).filter fun p => decide (owP n f k s h L p = l)
end
/-- Lists of positions as rows. -/
def rowN (l : List Nat) (i : Nat) : R1 := (((l.getD i 0 : Nat) : Int), ())
section
variable {n : Nat} {f : Nat → R3} {k s h : Int} {L : Int}
theorem dmE_zero : dmE n f k s h L = 0 ↔ 1 ≤ L ∧ L ≤ 8 ∧ chD n f k s h = 0 ∧ (k = 0 → h < L) := by
  unfold dmE
  by_cases h1 : L < 1 ∨ 8 < L
  · rw [if_pos h1]; constructor
    · intro h; omega
    · rintro ⟨a, b, _⟩; omega
  rw [if_neg h1]
  by_cases h2 : chD n f k s h = 0
  · rw [if_neg (by simp [h2])]
    by_cases h3 : k = 0 ∧ L ≤ h
    · rw [if_pos h3]; constructor
      · intro h; omega
      · rintro ⟨_, _, _, g⟩; have := g h3.1; omega
    · rw [if_neg h3]
      exact ⟨fun _ => ⟨by omega, by omega, h2, fun hk => Classical.byContradiction fun g => h3 ⟨hk, by omega⟩⟩, fun _ => rfl⟩
  · rw [if_pos h2]
    exact ⟨fun g => absurd g h2, fun g => absurd g.2.2.1 h2⟩
theorem owQ_bnd (hd : dmE n f k s h L = 0) {q : Int} (h0 : 0 ≤ q) (hq : q < szR (f 0)) (e : Nat → R1) : 0 ≤ owQ n f k s h L q e ∧ owQ n f k s h L q e < L := by
  obtain ⟨l1, l8, hc, hl⟩ := dmE_zero.1 hd
  obtain ⟨_, fit⟩ := chD_zero.1 hc
  have fit := of_decide_eq_true fit
  have modb : ∀ x : Int, 0 ≤ x → 0 ≤ x.tmod L ∧ x.tmod L < L := fun x hx => ⟨Int.tmod_nonneg _ hx, Int.tmod_lt_of_pos _ (by omega)⟩
  unfold owQ
  by_cases k0 : k = 0
  · rw [if_pos k0]; have := hl k0; omega
  rw [if_neg k0]
  by_cases k1 : k = 1
  · rw [if_pos k1]
    have hm : 0 ≤ q * L := Int.mul_nonneg h0 (by omega)
    refine ⟨Int.tdiv_nonneg hm (by omega), ?_⟩
    rw [Int.tdiv_eq_ediv_of_nonneg hm]
    refine Int.ediv_lt_of_lt_mul (by omega) ?_
    rw [Int.mul_comm L]
    exact Int.mul_lt_mul_of_pos_right hq (by omega)
  rw [if_neg k1]
  by_cases k2 : k = 2
  · rw [if_pos k2]; exact modb q h0
  rw [if_neg k2]
  by_cases k3 : k = 3
  · rw [if_pos k3]; exact modb _ (Int.tdiv_nonneg h0 (by omega))
  · rw [if_neg k3]; exact modb _ (hashN_bnd _ _).1
theorem partL_len (l : Int) : (partL n f k s h L l).length ≤ szDn n f k s h := by
  unfold partL
  exact Nat.le_trans (List.length_filter_le _ _) (by simp)
/-- The position of an index among the rows. -/
theorem row_lt (hc : chD n f k s h = 0) {p : Nat} (hp : p < szDn n f k s h) : ((p / colN n f : Nat) : Int) < szR (f 0) ∧ posR (f 0) (idX n f p) = ((p / colN n f : Nat) : Int) := by
  obtain ⟨d1, _⟩ := chD_zero.1 hc
  rw [szDn_right hc] at hp
  have e0 := szN_R (d1.2 0 (by have := d1.1; omega))
  have hlt : p / colN n f < szN (f 0).1 (f 0).2.1 (f 0).2.2.1 := by
    unfold colN
    refine Nat.div_lt_of_lt_mul ?_
    rw [Nat.mul_comm]; exact hp
  refine ⟨by omega, ?_⟩
  obtain ⟨_, _, h3⟩ := num_all (d1.2 0 (by have := d1.1; omega)) hlt
  have : idX n f p = num (f 0).1 (f 0).2.1 (f 0).2.2.1 (p / colN n f) := by
    unfold idX colN
    by_cases h1 : n = 1
    · rw [if_pos h1, if_pos h1, Nat.div_one]
    · rw [if_neg h1, if_neg h1]
  rw [this]; exact h3
theorem owP_bnd (hd : dmE n f k s h L = 0) {p : Nat} (hp : p < szDn n f k s h) : 0 ≤ owP n f k s h L p ∧ owP n f k s h L p < L :=
  owQ_bnd hd (Int.natCast_nonneg _) (row_lt (dmE_zero.1 hd).2.2.1 hp).1 _
theorem owX_eq (hc : chD n f k s h = 0) {p : Nat} (hp : p < szDn n f k s h) : owX n f k s h L (ixF (idX n f p) (idY n f p)) = owP n f k s h L p := by
  unfold owX owP
  rw [ixF0, (row_lt hc hp).2]
theorem owQ_congr {q : Int} {e e' : Nat → R1} (he : ∀ i, i < n → nv e i = nv e' i) : owQ n f k s h L q e = owQ n f k s h L q e' := by
  unfold owQ
  rw [hashN_congr he]
theorem owX_congr (hn : 0 < n) {e e' : Nat → R1} (he : ∀ i, i < n → nv e i = nv e' i) : owX n f k s h L e = owX n f k s h L e' := by
  unfold owX
  rw [show (e 0).1 = (e' 0).1 from he 0 hn, owQ_congr he]
end
end Go.RX.Span

/- The hash of an index: what its loops leave. -/
set_option linter.unusedVariables false
set_option linter.unusedSimpArgs false
set_option maxRecDepth 100000
namespace Go.RX.Span
open Go Go.RX
attribute [local irreducible] sx conB

noncomputable def c_dmod : Con := fun args => match args with
  | [.lit (.int .i64 a), .lit (.int .i64 b)] => .ask (0 < b ∧ b ≤ 4000000 ∧ I64 a) (.ret (.lit (.int .i64 (lk emd a b))))
  | _ => .stuck 1
noncomputable abbrev kHm : List (Nat × Con) := [(138, c_dmod)]
noncomputable abbrev EHm : Env := ⟨P, conOf kHm, scall P (conOf kHm) noLoops 10⟩
def I64s (n : Nat) (e : Nat → R1) : Prop := ∀ i, i < n → I64 (e i).1
def PreH (n0 n : Nat) (e : Nat → R1) : Prop := n0 = 0 ∧ n ≤ 1000000 ∧ I64s n e
/-- The program's loop. -/
noncomputable def gHp : Nat → Few → T (Ex × Few)
  | n0, ([.ki .i64 7, .row [.int .i64] n e, .lit (.int .i64 N'), .ki .i64 0], []) => .ask (lk PreH n0 n e ∧ N' = (n : Int)) (.ret (.exit 0, ([.lit (.int .i64 (lk hashN e n)), .row [.int .i64] n e, .lit (.int .i64 (n : Int)), .lit (.int .i64 (n : Int))], [])))
  | _, _ => .stuck 1
/-- The reference's loop. -/
noncomputable def gHr : Nat → Few → T (Ex × Few)
  | n0, ([.row [.int .i64] n e, .ki .i64 7, .ki .i64 0], []) => .ask (lk PreH n0 n e) (.ret (.exit 0, ([.row [.int .i64] n e, .lit (.int .i64 (lk hashN e n)), .lit (.int .i64 (n : Int))], [])))
  | _, _ => .stuck 1
noncomputable def c_Hash : Con := fun args => match args with
  | [.row [.int .i64] n e] => .ask (n ≤ 1000000 ∧ I64s n e) (.ret (.lit (.int .i64 (lk hashN e n))))
  | _ => .stuck 1
noncomputable abbrev lHp : List (Nat × Loops) := [(53, [(3, .sum (few 20 [3,6,7,8] gHp))])] --%K
noncomputable abbrev lHr : List (Nat × Loops) := [(54, [(3, .sum (few 27 [0,3,4] gHr))])] --%K
end Go.RX.Span

/- The hash of an index: the walks. -/
set_option linter.unusedVariables false
set_option linter.unusedSimpArgs false
set_option maxRecDepth 100000
namespace Go.RX.Span
open Go Go.RX
attribute [local irreducible] sx conB

set_option maxRecDepth 100000 in
theorem t_dmod (a b : Int) : conB Go.Proofs.Try.prog (conOf []) noLoops 10 138 [.lit (.int .i64 a), .lit (.int .i64 b)] =
    T.ask (b ≠ (0 : Int)) (.br (U.lt (U.rem a b) (0 : Int)) (.ret (.lit (.int .i64 (U.add .i64 (U.rem a b) b)))) (.ret (.lit (.int .i64 (U.rem a b))))) := by kernel_rfl
set_option maxRecDepth 100000 in
theorem t_Hp (n0 : Nat) (n : Nat) (e : Nat → R1) (h i : Int) : (sx EHm [] n0 (loopOf P 53 3) (mkS 20 [3,6,7,8] [.lit (.int .i64 h), .row [.int .i64] n e, .lit (.int .i64 (n : Int)), .lit (.int .i64 i)], [])).bind (proj 20 [3,6,7,8]) =
    T.br (U.lt i (Int.ofNat n)) (.ask ((0 : Int) ≤ i ∧ i < ↑n) (.ask ((0 : Int) < (1000003 : Int) ∧ (1000003 : Int) ≤ (4000000 : Int) ∧ I64 (e (U.toNat i)).1) (.ask ((1000003 : Int) ≠
      (0 : Int)) (.ret (Ex.normal, [.lit (.int .i64 (U.rem (U.add .i64 (U.mul .i64 31 h) (lk emd (e (U.toNat i)).1 (1000003 : Int))) (1000003 : Int))), .row [.int .i64] n e, .lit (.int
      .i64 (Int.ofNat n)), .lit (.int .i64 (U.add .i64 i (1 : Int)))], []))))) (.ret (Ex.exit (nat_lit 0), [.lit (.int .i64 h), .row [.int .i64] n e, .lit (.int .i64 (Int.ofNat n)), .lit
      (.int .i64 i)], [])) := by kernel_rfl
set_option maxRecDepth 100000 in
theorem t_Hr (n0 : Nat) (n : Nat) (e : Nat → R1) (h i : Int) : (sx E0 [] n0 (loopOf P 54 3) (mkS 27 [0,3,4] [.row [.int .i64] n e, .lit (.int .i64 h), .lit (.int .i64 i)], [])).bind (proj 27 [0,3,4]) =
    T.br (U.lt i (Int.ofNat n)) (.ask ((0 : Int) ≤ i ∧ i < ↑n) (.ask ((1000003 : Int) ≠ (0 : Int)) (.br (U.lt (U.rem (e (U.toNat i)).1 (1000003 : Int)) (0 : Int)) (.ask ((1000003 : Int)
      ≠ (0 : Int)) (.ret (Ex.normal, [.row [.int .i64] n e, .lit (.int .i64 (U.rem (U.add .i64 (U.mul .i64 31 h) (U.add .i64 (U.rem (e (U.toNat i)).1 (1000003 : Int)) (1000003 : Int)))
      (1000003 : Int))), .lit (.int .i64 (U.add .i64 i (1 : Int)))], []))) (.ask ((1000003 : Int) ≠ (0 : Int)) (.ret (Ex.normal, [.row [.int .i64] n e, .lit (.int .i64 (U.rem (U.add .i64
      (U.mul .i64 31 h) (U.rem (e (U.toNat i)).1 (1000003 : Int))) (1000003 : Int))), .lit (.int .i64 (U.add .i64 i (1 : Int)))], [])))))) (.ret (Ex.exit (nat_lit 0), [.row [.int .i64] n
      e, .lit (.int .i64 h), .lit (.int .i64 i)], [])) := by kernel_rfl
end Go.RX.Span

/- The hash of an index: the contracts. -/
set_option linter.unusedVariables false
set_option linter.unusedSimpArgs false
set_option maxRecDepth 100000
namespace Go.RX.Span
open Go Go.RX
attribute [local irreducible] sx conB

theorem tm_em {a b : Int} (hb : 0 < b) : (a.tmod b < 0 → a.tmod b + b = emd a b) ∧ (¬ a.tmod b < 0 → a.tmod b = emd a b) ∧ -b < a.tmod b ∧ a.tmod b < b := by
  have h1 := Int.tmod_add_mul_tdiv a b
  have h2 : a.tmod b < b := Int.tmod_lt_of_pos _ hb
  have h3 : -b < a.tmod b := by
    have := Int.lt_tmod_of_pos a hb
    omega
  refine ⟨fun h => ?_, fun h => ?_, h3, h2⟩
  · have e : a = (a.tmod b + b) + b * (a.tdiv b - 1) := by rw [Int.mul_sub, Int.mul_one]; omega
    unfold emd
    conv => rhs; rw [e]
    rw [Int.add_mul_emod_self_left, Int.emod_eq_of_lt (by omega) (by omega)]
  · unfold emd
    conv => rhs; rw [← h1]
    rw [Int.add_mul_emod_self_left, Int.emod_eq_of_lt (by omega) h2]
theorem dmod_ok : ConOK P 138 c_dmod := con_of (allOK mixed none_ok) 10 138 fun args r h => by
  unfold c_dmod at h
  split at h
  · rename_i a b
    obtain ⟨h0, h1, h2⟩ := (T.is_ask h).1
    obtain rfl := T.is_ret (T.is_ask h).2
    obtain ⟨m1, m2, m3, m4⟩ := tm_em (a := a) h0
    rw [t_dmod]
    simp only [U.rem_eq, lk_eq]
    refine ⟨by omega, fun hn => ?_, fun hn => ?_⟩
    · have hn := U.lt_t.mp hn
      show SV.lit (.int .i64 (U.add .i64 (a.tmod b) b)) = _
      rw [U.add64 (by unfold I64; omega), m1 hn]
    · have hn := U.lt_f.mp hn
      show SV.lit (.int .i64 (a.tmod b)) = _
      rw [m2 (by omega)]
  · exact h.elim
theorem kHm_ok : ∀ p ∈ kHm, ConOK P p.1 p.2 := by
  intro p hp
  simp only [kHm, List.mem_singleton] at hp
  subst hp
  exact dmod_ok
theorem EHm_ok : EnvOK EHm := envOK (allOK mixed kHm_ok) 10
theorem hash_step (e : Nat → R1) (j : Nat) : U.rem (U.add .i64 (U.mul .i64 31 (hashN e j)) (emd (nv e j) 1000003)) 1000003 = hashN e (j + 1) := by
  have hb := hashN_bnd e j
  have e1 := Int.emod_nonneg (nv e j) (show (1000003 : Int) ≠ 0 by decide)
  have e2 := Int.emod_lt_of_pos (nv e j) (show (0 : Int) < 1000003 by decide)
  have em : emd (nv e j) 1000003 = nv e j % 1000003 := rfl
  rw [em, U.rem_eq, U.mul64 (by unfold I64; omega), U.add64 (by unfold I64; omega), Int.tmod_eq_emod_of_nonneg (by omega)]
  rfl
structure XH where
  (n : Nat) (e : Nat → R1) (j : Nat)
noncomputable abbrev VHp (q : XH) : Few := ([.lit (.int .i64 (hashN q.e q.j)), .row [.int .i64] q.n q.e, .lit (.int .i64 (q.n : Int)), .lit (.int .i64 (q.j : Int))], [])
noncomputable abbrev VHr (q : XH) : Few := ([.row [.int .i64] q.n q.e, .lit (.int .i64 (hashN q.e q.j)), .lit (.int .i64 (q.j : Int))], [])
noncomputable def OHp (q : XH) : Ex × Few := (.exit 0, VHp { q with j := q.n })
noncomputable def OHr (q : XH) : Ex × Few := (.exit 0, VHr { q with j := q.n })
def PhiH (n0 : Nat) (q : XH) : Prop := PreH n0 q.n q.e ∧ q.j ≤ q.n
theorem row1H {n : Nat} {f g : Nat → R1} (h : ∀ i, i < n → f i = g i) : sameRow n f g := ⟨eqShs_refl _, fun i hi => h i hi⟩
theorem tnH (j : Nat) : U.toNat (j : Int) = j := tn j
theorem roundHp (n0 : Nat) (q : XH) (hq : PhiH n0 q) : ((sx EHm [] n0 (loopOf P 53 3) (mkS 20 [3,6,7,8] (VHp q).1, (VHp q).2)).bind (proj 20 [3,6,7,8])).All fun r => match r.1 with
      | .normal => ∃ q', PhiH n0 q' ∧ q'.n - q'.j < q.n - q.j ∧ Wk 20 [3,6,7,8] n0 r.2 (VHp q') ∧ ∀ o, o = OHp q' → o = OHp q
      | e => ∃ s, (e, s) = OHp q ∧ Wk 20 [3,6,7,8] n0 r.2 s := by
  obtain ⟨n, e, j⟩ := q
  obtain ⟨⟨h0, hn, he⟩, hj⟩ := hq
  simp only [] at h0 hn he hj
  subst h0
  refine T.all_of_eq (t_Hp 0 n e (hashN e j) (j : Int)) ?_
  have e2 : U.add .i64 (j : Int) 1 = ((j + 1 : Nat) : Int) := by rw [U.add64 (by unfold I64; omega)]; omega
  simp only [tnH, e2, lk_eq]
  have w0 : ∀ {vs vs' : List SV}, RlL (idR 0) vs vs' → Wk 20 [3,6,7,8] 0 (vs, []) (vs', []) := fun h => wk_of (idR 0) rfl (Nat.zero_le _) (fun b hb => by omega) h trivial
  by_cases hlt : j < n
  · refine ⟨fun _ => ⟨⟨by omega, by omega⟩, ⟨by decide, by decide, he j hlt⟩, by decide, ⟨n, e, j + 1⟩, ⟨⟨rfl, hn, he⟩, by simp only []; omega⟩, by simp only []; omega, w0 ⟨?_, ⟨rfl, row1H fun _ _ => rfl⟩, rfl, rfl, trivial⟩, fun o ho => ho⟩, fun h => absurd (U.lt_f.mp h) (by simp only [Int.ofNat_eq_natCast]; omega)⟩
    show Value.int .i64 _ = Value.int .i64 _
    exact congrArg _ (hash_step e j)
  · obtain rfl : j = n := by omega
    exact ⟨fun h => absurd (U.lt_t.mp h) (by simp only [Int.ofNat_eq_natCast]; omega), fun _ => ⟨_, rfl, w0 ⟨rfl, ⟨rfl, row1H fun _ _ => rfl⟩, rfl, rfl, trivial⟩⟩⟩
theorem roundHr (n0 : Nat) (q : XH) (hq : PhiH n0 q) : ((sx E0 [] n0 (loopOf P 54 3) (mkS 27 [0,3,4] (VHr q).1, (VHr q).2)).bind (proj 27 [0,3,4])).All fun r => match r.1 with
      | .normal => ∃ q', PhiH n0 q' ∧ q'.n - q'.j < q.n - q.j ∧ Wk 27 [0,3,4] n0 r.2 (VHr q') ∧ ∀ o, o = OHr q' → o = OHr q
      | e => ∃ s, (e, s) = OHr q ∧ Wk 27 [0,3,4] n0 r.2 s := by
  obtain ⟨n, e, j⟩ := q
  obtain ⟨⟨h0, hn, he⟩, hj⟩ := hq
  simp only [] at h0 hn he hj
  subst h0
  refine T.all_of_eq (t_Hr 0 n e (hashN e j) (j : Int)) ?_
  have e2 : U.add .i64 (j : Int) 1 = ((j + 1 : Nat) : Int) := by rw [U.add64 (by unfold I64; omega)]; omega
  simp only [tnH, e2, lk_eq]
  have w0 : ∀ {vs vs' : List SV}, RlL (idR 0) vs vs' → Wk 27 [0,3,4] 0 (vs, []) (vs', []) := fun h => wk_of (idR 0) rfl (Nat.zero_le _) (fun b hb => by omega) h trivial
  by_cases hlt : j < n
  · obtain ⟨m1, m2, m3, m4⟩ := tm_em (a := nv e j) (b := 1000003) (by decide)
    have key : ∀ x, x = emd (nv e j) 1000003 → ∃ q' : XH, PhiH 0 q' ∧ q'.n - q'.j < n - j ∧ Wk 27 [0,3,4] 0 ([.row [.int .i64] n e, .lit (.int .i64 (U.rem (U.add .i64 (U.mul .i64 31 (hashN e j)) x) 1000003)), .lit (.int .i64 ((j + 1 : Nat) : Int))], []) (VHr q') ∧ ∀ o, o = OHr q' → o = OHr ⟨n, e, j⟩ := fun x hx => by
      subst hx
      refine ⟨⟨n, e, j + 1⟩, ⟨⟨rfl, hn, he⟩, by simp only []; omega⟩, by simp only []; omega, w0 ⟨⟨rfl, row1H fun _ _ => rfl⟩, ?_, rfl, trivial⟩, fun o ho => ho⟩
      show Value.int .i64 _ = Value.int .i64 _
      exact congrArg _ (hash_step e j)
    refine ⟨fun _ => ⟨⟨by omega, by omega⟩, by decide, fun hh => ⟨by decide, ?_⟩, fun hh => ⟨by decide, ?_⟩⟩, fun h => absurd (U.lt_f.mp h) (by simp only [Int.ofNat_eq_natCast]; omega)⟩
    · refine key _ ?_
      have hh : U.rem (nv e j) 1000003 < 0 := U.lt_t.mp hh
      rw [U.rem_eq] at hh
      show U.add .i64 (U.rem (nv e j) 1000003) 1000003 = _
      rw [U.rem_eq, U.add64 (by unfold I64; omega), m1 hh]
    · refine key _ ?_
      have hh : 0 ≤ U.rem (nv e j) 1000003 := U.lt_f.mp hh
      rw [U.rem_eq] at hh
      show U.rem (nv e j) 1000003 = _
      rw [U.rem_eq, m2 (by omega)]
  · obtain rfl : j = n := by omega
    exact ⟨fun h => absurd (U.lt_t.mp h) (by simp only [Int.ofNat_eq_natCast]; omega), fun _ => ⟨_, rfl, w0 ⟨⟨rfl, row1H fun _ _ => rfl⟩, rfl, rfl, trivial⟩⟩⟩
theorem loopHp : LoopOK P (loopOf P 53 3) (few 20 [3,6,7,8] gHp) :=
  loop_few (E := EHm) mixed EHm_ok loopsOK_none 20 [3,6,7,8] (X := XH) gHp (fun _ x => VHp x) PhiH (fun q => q.n - q.j) (fun _ x o => o = OHp x)
    (fun n0 st r h => by
      unfold gHp at h
      split at h
      · rename_i n0 n e N'
        obtain ⟨hp, rfl⟩ := (T.is_ask h).1
        obtain rfl := T.is_ret (T.is_ask h).2
        rw [lk_eq] at hp
        have h0 := hp.1
        subst h0
        exact ⟨⟨n, e, 0⟩, ⟨hp, Nat.zero_le _⟩, wk_of (idR 0) rfl (Nat.zero_le _) (fun b hb => by omega) ⟨rfl, ⟨rfl, row1H fun _ _ => rfl⟩, rfl, rfl, trivial⟩ trivial, fun o ho => by rw [ho]; simp only [lk_eq]; rfl⟩
      · exact h.elim)
    roundHp
theorem loopHr : LoopOK P (loopOf P 54 3) (few 27 [0,3,4] gHr) :=
  loop_few (E := E0) mixed E0_ok loopsOK_none 27 [0,3,4] (X := XH) gHr (fun _ x => VHr x) PhiH (fun q => q.n - q.j) (fun _ x o => o = OHr x)
    (fun n0 st r h => by
      unfold gHr at h
      split at h
      · rename_i n0 n e
        have hp := (T.is_ask h).1
        obtain rfl := T.is_ret (T.is_ask h).2
        rw [lk_eq] at hp
        have h0 := hp.1
        subst h0
        exact ⟨⟨n, e, 0⟩, ⟨hp, Nat.zero_le _⟩, wk_of (idR 0) rfl (Nat.zero_le _) (fun b hb => by omega) ⟨⟨rfl, row1H fun _ _ => rfl⟩, rfl, rfl, trivial⟩ trivial, fun o ho => by rw [ho]; simp only [lk_eq]; rfl⟩
      · exact h.elim)
    roundHr
theorem lHp_ok : ∀ p ∈ lHp, LoopsOK P p.2 (bodyOf P p.1) := by
  intro p hp
  simp only [lHp, List.mem_singleton] at hp
  subst hp
  refine loopsOK_of (by kernel_rfl) fun k g hk => ?_
  simp only [List.mem_singleton, Prod.mk.injEq, LoopC.sum.injEq] at hk
  obtain ⟨rfl, rfl⟩ := hk
  exact loopHp
theorem lHr_ok : ∀ p ∈ lHr, LoopsOK P p.2 (bodyOf P p.1) := by
  intro p hp
  simp only [lHr, List.mem_singleton] at hp
  subst hp
  refine loopsOK_of (by kernel_rfl) fun k g hk => ?_
  simp only [List.mem_singleton, Prod.mk.injEq, LoopC.sum.injEq] at hk
  obtain ⟨rfl, rfl⟩ := hk
  exact loopHr
end Go.RX.Span

/- The hash of an index: the functions. -/
set_option linter.unusedVariables false
set_option linter.unusedSimpArgs false
set_option maxRecDepth 100000
namespace Go.RX.Span
open Go Go.RX
attribute [local irreducible] sx conB

--%R ↑n = ↑n => ((n : Nat) : Int) = ((n : Nat) : Int)
set_option maxRecDepth 100000 in
theorem t_Hash (n : Nat) (e : Nat → R1) : conB Go.Proofs.Try.prog (conOf kHm) (loopsOf lHp) 10 53 [.row [.int .i64] n e] =
    T.ask (lk PreH (nat_lit 0) n e ∧ ((n : Nat) : Int) = ((n : Nat) : Int)) (.ret (.lit (.int .i64 (lk hashN e n)))) := by kernel_rfl
set_option maxRecDepth 100000 in
theorem t_qHash (n : Nat) (e : Nat → R1) : conB Go.Proofs.Try.prog (conOf []) (loopsOf lHr) 10 54 [.row [.int .i64] n e] =
    T.ask (lk PreH (nat_lit 0) n e) (.ret (.lit (.int .i64 (lk hashN e n)))) := by kernel_rfl
theorem Hash_ok : ConOK P 53 c_Hash := con_of (allOKL mixed kHm_ok lHp_ok) 10 53 fun args r h => by
  unfold c_Hash at h
  split at h
  · rename_i n e
    obtain ⟨h1, h2⟩ := (T.is_ask h).1
    obtain rfl := T.is_ret (T.is_ask h).2
    rw [t_Hash]
    simp only [lk_eq]
    exact ⟨⟨⟨rfl, h1, h2⟩, trivial⟩, rfl⟩
  · exact h.elim
theorem qHash_ok : ConOK P 54 c_Hash := con_of (allOKL mixed none_ok lHr_ok) 10 54 fun args r h => by
  unfold c_Hash at h
  split at h
  · rename_i n e
    obtain ⟨h1, h2⟩ := (T.is_ask h).1
    obtain rfl := T.is_ret (T.is_ask h).2
    rw [t_qHash]
    simp only [lk_eq]
    exact ⟨⟨rfl, h1, h2⟩, rfl⟩
  · exact h.elim
end Go.RX.Span

/- Domain maps: contracts of the small functions. -/
set_option linter.unusedVariables false
set_option linter.unusedSimpArgs false
set_option maxRecDepth 100000
namespace Go.RX.Span
open Go Go.RX
attribute [local irreducible] sx conB

noncomputable abbrev kU0 : List (Nat × Con) := [(63, c_DCheck), (41, c_DSize), (88, c_DHas), (68, c_DNth), (120, c_Position), (28, c_Size), (53, c_Hash), (172, c_DAll)] --%K
theorem kU0_ok : ∀ p ∈ kU0, ConOK P p.1 p.2 := by
  intro p hp
  simp only [kU0, List.mem_cons, List.not_mem_nil, or_false] at hp
  rcases hp with rfl | rfl | rfl | rfl | rfl | rfl | rfl | rfl
  · exact DCheck_ok
  · exact DSize_ok
  · exact DHas_ok
  · exact DNth_ok
  · exact Position_ok
  · exact Size_ok
  · exact Hash_ok
  · exact DAll_ok
noncomputable abbrev kQ0 : List (Nat × Con) := [(86, c_DCheck), (87, c_DSize), (89, c_DHas), (84, c_DNth), (166, c_Position), (143, c_Size), (54, c_Hash)] --%K
theorem kQ0_ok : ∀ p ∈ kQ0, ConOK P p.1 p.2 := by
  intro p hp
  simp only [kQ0, List.mem_cons, List.not_mem_nil, or_false] at hp
  rcases hp with rfl | rfl | rfl | rfl | rfl | rfl | rfl
  · exact qCheck_ok
  · exact qSize_ok
  · exact qHas_ok
  · exact qNth_ok
  · exact rPosition_ok
  · exact rSize_ok
  · exact qHash_ok
noncomputable def c_dmCheck : Con := fun args => match args with
  | [.agg [.row [.int .i64, .int .i64, .int .i64] n f, .lit (.int .i64 k), .lit (.int .i64 s), .lit (.int .i64 h)], .lit (.int .i64 L)] => .ask (Row64 n f) (.ret (.lit (.int .i64 (lk dmE n f k s h L))))
  | _ => .stuck 1
/-- The error where a list is made. -/
def lsE (n : Nat) (f : Nat → R3) (k s h L : Int) : Int := if dmE n f k s h L ≠ 0 then dmE n f k s h L else if 5000 < szD n f k s h then 7 else 0
/-- The same, with a locale. -/
def lcE (n : Nat) (f : Nat → R3) (k s h L l : Int) : Int := if lsE n f k s h L ≠ 0 then lsE n f k s h L else if l < 0 ∨ L ≤ l then 4 else 0
noncomputable def c_listed : Con := fun args => match args with
  | [.agg [.row [.int .i64, .int .i64, .int .i64] n f, .lit (.int .i64 k), .lit (.int .i64 s), .lit (.int .i64 h)], .lit (.int .i64 L)] => .ask (Row64 n f) (.ret (.lit (.int .i64 (lk lsE n f k s h L))))
  | _ => .stuck 1
noncomputable def c_located : Con := fun args => match args with
  | [.agg [.row [.int .i64, .int .i64, .int .i64] n f, .lit (.int .i64 k), .lit (.int .i64 s), .lit (.int .i64 h)], .lit (.int .i64 L), .lit (.int .i64 l)] => .ask (Row64 n f) (.ret (.lit (.int .i64 (lk lcE n f k s h L l))))
  | _ => .stuck 1
def QwAsk (n : Nat) (f : Nat → R3) (k s h L : Int) (m : Nat) (e : Nat → R1) : Prop := dmE n f k s h L = 0 ∧ m = n ∧ hasR (f 0) (nv e 0) = true ∧ I64s n e
noncomputable def c_qowner : Con := fun args => match args with
  | [.agg [.row [.int .i64, .int .i64, .int .i64] n f, .lit (.int .i64 k), .lit (.int .i64 s), .lit (.int .i64 h)], .lit (.int .i64 L), .row [.int .i64] m e] =>
    .ask (lk QwAsk n f k s h L m e) (.ret (.lit (.int .i64 (lk owX n f k s h L e))))
  | _ => .stuck 1
end Go.RX.Span

/- Domain maps: the small functions. -/
set_option linter.unusedVariables false
set_option linter.unusedSimpArgs false
set_option maxRecDepth 100000
namespace Go.RX.Span
open Go Go.RX
attribute [local irreducible] sx conB

--%R ofList\s+\[\((\S+),\s+\(\)\) => ofList (ss := [.int .i64]) [(\1, ())
--%R ↑\((2) : Nat\) => ((\1 : Nat) : Int)
--%R ↑\(\(0 : Nat\) \+ n \+ \(1 : Nat\)\) => (((0 : Nat) + n + (1 : Nat) : Nat) : Int)
set_option maxRecDepth 100000 in
theorem t_dmCheck (n : Nat) (f : Nat → R3) (k s h L : Int) : conB Go.Proofs.Try.prog (conOf kU0) noLoops 10 40 [.agg [.row [.int .i64, .int .i64, .int .i64] n f, .lit (.int .i64 k), .lit (.int .i64 s), .lit (.int .i64 h)], .lit (.int .i64 L)] =
    T.br (U.lt L (1 : Int)) (.ret (.lit (.int .i64 4))) (.br (U.gt L (8 : Int)) (.ret (.lit (.int .i64 4))) (.ask (Row64 n f) (.br (U.ne (lk chD n f k s h) (0 : Int)) (.ret (.lit (.int
      .i64 (lk chD n f k s h)))) (.br (U.eq k (0 : Int)) (.br (U.ge h L) (.ret (.lit (.int .i64 70))) (.ret (.lit (.int .i64 0)))) (.ret (.lit (.int .i64 0))))))) := by kernel_rfl
set_option maxRecDepth 100000 in
theorem t_listed (n : Nat) (f : Nat → R3) (k s h L : Int) : conB Go.Proofs.Try.prog (conOf ((40, c_dmCheck) :: kU0)) noLoops 10 129 [.agg [.row [.int .i64, .int .i64, .int .i64] n f, .lit (.int .i64 k), .lit (.int .i64 s), .lit (.int .i64 h)], .lit (.int .i64 L)] =
    T.ask (Row64 n f) (.br (U.ne (lk dmE n f k s h L) (0 : Int)) (.ret (.lit (.int .i64 (lk dmE n f k s h L)))) (.ask (Row64 n f) (.br (U.gt (lk szD n f k s h) (5000 : Int)) (.ret (.lit
      (.int .i64 7))) (.ret (.lit (.int .i64 0)))))) := by kernel_rfl
set_option maxRecDepth 100000 in
theorem t_located (n : Nat) (f : Nat → R3) (k s h L l : Int) : conB Go.Proofs.Try.prog (conOf [(129, c_listed)]) noLoops 10 134 [.agg [.row [.int .i64, .int .i64, .int .i64] n f, .lit (.int .i64 k), .lit (.int .i64 s), .lit (.int .i64 h)], .lit (.int .i64 L), .lit (.int .i64 l)] =
    T.ask (Row64 n f) (.br (U.ne (lk lsE n f k s h L) (0 : Int)) (.ret (.lit (.int .i64 (lk lsE n f k s h L)))) (.br (U.lt l (0 : Int)) (.ret (.lit (.int .i64 4))) (.br (U.ge l L) (.ret
      (.lit (.int .i64 4))) (.ret (.lit (.int .i64 0)))))) := by kernel_rfl
theorem tnO0 : U.toNat (0 : Int) = 0 := tn 0
theorem tnOf (n : Nat) : U.toNat (Int.ofNat n) = n := tn n
theorem dmCheck_ok : ConOK P 40 c_dmCheck := con_of (allOK mixed kU0_ok) 10 40 fun args r h => by
  unfold c_dmCheck at h
  split at h
  · rename_i n f k s h' L
    have d := (T.is_ask h).1
    obtain rfl := T.is_ret (T.is_ask h).2
    rw [t_dmCheck]
    simp only [lk_eq]
    have key : ∀ x, x = dmE n f k s h' L → (SV.lit (.int .i64 x)) = SV.lit (.int .i64 (dmE n f k s h' L)) := fun x hx => by rw [hx]
    refine ⟨fun g => key _ ?_, fun g => ⟨fun g2 => key _ ?_, fun g2 => ⟨d, fun g3 => key _ ?_, fun g3 => ⟨fun g4 => ⟨fun g5 => key _ ?_, fun g5 => key _ ?_⟩, fun g4 => key _ ?_⟩⟩⟩⟩
    all_goals unfold dmE
    · have := U.lt_t.mp g; rw [if_pos (by omega)]
    · have := U.gt_t.mp g2; rw [if_pos (by omega)]
    · have a := U.lt_f.mp g; have b := U.gt_f.mp g2; have c := U.ne_t.mp g3
      rw [if_neg (by omega), if_pos c]
    · have a := U.lt_f.mp g; have b := U.gt_f.mp g2; have c := U.ne_f.mp g3
      have e := U.eq_t.mp g4; have e2 := U.ge_t.mp g5
      rw [if_neg (by omega), if_neg (by simp [c]), if_pos (by omega)]
    · have a := U.lt_f.mp g; have b := U.gt_f.mp g2; have c := U.ne_f.mp g3
      have e := U.eq_t.mp g4; have e2 := U.ge_f.mp g5
      rw [if_neg (by omega), if_neg (by simp [c]), if_neg (by omega)]
    · have a := U.lt_f.mp g; have b := U.gt_f.mp g2; have c := U.ne_f.mp g3
      have e := U.eq_f.mp g4
      rw [if_neg (by omega), if_neg (by simp [c]), if_neg (fun w => e w.1)]
  · exact h.elim
noncomputable abbrev kU1 : List (Nat × Con) := (40, c_dmCheck) :: kU0 --%K
theorem kU1_ok : ∀ p ∈ kU1, ConOK P p.1 p.2 := by
  intro p hp
  simp only [kU1, List.mem_cons] at hp
  rcases hp with rfl | hp
  · exact dmCheck_ok
  · exact kU0_ok p (by simpa [kU0] using hp)
theorem listed_ok : ConOK P 129 c_listed := con_of (allOK mixed kU1_ok) 10 129 fun args r h => by
  unfold c_listed at h
  split at h
  · rename_i n f k s h' L
    have d := (T.is_ask h).1
    obtain rfl := T.is_ret (T.is_ask h).2
    refine T.all_of_eq (t_listed n f k s h' L) ?_
    simp only [lk_eq]
    have key : ∀ x, x = lsE n f k s h' L → (SV.lit (.int .i64 x)) = SV.lit (.int .i64 (lsE n f k s h' L)) := fun x hx => by rw [hx]
    refine ⟨d, fun g => key _ ?_, fun g => ⟨d, fun g2 => key _ ?_, fun g2 => key _ ?_⟩⟩
    all_goals unfold lsE
    · have a := U.ne_t.mp g; rw [if_pos a]
    · have a := U.ne_f.mp g; have b := U.gt_t.mp g2; rw [if_neg (by simp [a]), if_pos b]
    · have a := U.ne_f.mp g; have b := U.gt_f.mp g2; rw [if_neg (by simp [a]), if_neg (by omega)]
  · exact h.elim
theorem kL1_ok : ∀ p ∈ [(129, c_listed)], ConOK P p.1 p.2 := by
  intro p hp
  simp only [List.mem_singleton] at hp
  subst hp
  exact listed_ok
theorem located_ok : ConOK P 134 c_located := con_of (allOK mixed kL1_ok) 10 134 fun args r h => by
  unfold c_located at h
  split at h
  · rename_i n f k s h' L l
    have d := (T.is_ask h).1
    obtain rfl := T.is_ret (T.is_ask h).2
    rw [t_located]
    simp only [lk_eq]
    have key : ∀ x, x = lcE n f k s h' L l → (SV.lit (.int .i64 x)) = SV.lit (.int .i64 (lcE n f k s h' L l)) := fun x hx => by rw [hx]
    refine ⟨d, fun g => key _ ?_, fun g => ⟨fun g2 => key _ ?_, fun g2 => ⟨fun g3 => key _ ?_, fun g3 => key _ ?_⟩⟩⟩
    all_goals unfold lcE
    · have a := U.ne_t.mp g; rw [if_pos a]
    · have a := U.ne_f.mp g; have b := U.lt_t.mp g2; rw [if_neg (by simp [a]), if_pos (by omega)]
    · have a := U.ne_f.mp g; have b := U.lt_f.mp g2; have c := U.ge_t.mp g3; rw [if_neg (by simp [a]), if_pos (by omega)]
    · have a := U.ne_f.mp g; have b := U.lt_f.mp g2; have c := U.ge_f.mp g3; rw [if_neg (by simp [a]), if_neg (by omega)]
  · exact h.elim
end Go.RX.Span

/- Domain maps: the owner of an index. -/
set_option linter.unusedVariables false
set_option linter.unusedSimpArgs false
set_option maxRecDepth 100000
namespace Go.RX.Span
open Go Go.RX
attribute [local irreducible] sx conB

section
variable {e z g : Nat → R1} {n : Nat}
end
/-- The k of a right map. -/
theorem fit_k {k s h : Int} (hf : fitB k s h = true) : k = 0 ∨ k = 1 ∨ k = 2 ∨ (k = 3 ∧ 1 ≤ s ∧ s ≤ 1000) ∨ k = 4 := by
  have := of_decide_eq_true hf
  omega
theorem posR_lt {r : R3} (h : RR r) {v : Int} (hv : hasR r v = true) : 0 ≤ posR r v ∧ posR r v < szR r := by
  have e : posR r v = (v - rA r) / rC r := by
    show pos (rA r) (rB r) (rC r) v = _
    unfold pos
    rw [if_pos hv, if_neg (by have := h.2; omega)]
  obtain ⟨_, h1, h2, _⟩ := (of_decide_eq_true hv : chk (rA r) (rB r) (rC r) = 0 ∧ rA r ≤ v ∧ v ≤ rB r ∧ (v - rA r) % rC r = 0)
  have h2' := h.2
  rw [(rr_size h).1, e]
  unfold ofC
  rw [if_neg (by omega), if_neg (by omega)]
  have := Int.ediv_le_ediv h2' (show v - rA r ≤ rB r - rA r by omega)
  exact ⟨Int.ediv_nonneg (by omega) (by omega), by omega⟩
section
variable {n : Nat} {f : Nat → R3} {k s h L : Int}
theorem mul_small {q : Int} (h0 : 0 ≤ q) (h1 : q ≤ 5000000) (l0 : 0 ≤ L) (l8 : L ≤ 8) : I64 (q * L) := by
  have a := Int.mul_nonneg h0 l0
  have b := Int.mul_le_mul h1 l8 l0 (by omega)
  unfold I64; omega
theorem quo_pos {a b : Int} (ha : 0 ≤ a) (hb : 0 < b) (hl : a ≤ 9223372036854775807) : U.quo .i64 a b = a.tdiv b := by
  rw [U.quo_eq]
  have e := Int.tdiv_eq_ediv_of_nonneg ha (b := b)
  have h1 := Int.ediv_nonneg ha (show 0 ≤ b by omega)
  have h2 := Int.ediv_le_self b ha
  rw [e]
  have := U.add64 (a := a / b) (b := 0) (by unfold I64; omega)
  rw [U.add_eq, Int.add_zero] at this
  exact this
/-- What the five functions return. -/
theorem ow_0 (hk : k = 0) (q : Int) (e : Nat → R1) : owQ n f k s h L q e = h := by unfold owQ; rw [if_pos hk]
theorem ow_1 (hk : k = 1) (q : Int) (e : Nat → R1) (l1 : 0 ≤ L) (l8 : L ≤ 8) (h0 : 0 ≤ q) (h1 : q ≤ 5000000) (hs : 0 < szR (f 0)) : U.quo .i64 (U.mul .i64 q L) (szR (f 0)) = owQ n f k s h L q e := by
  have m := mul_small h0 h1 l1 l8
  unfold owQ
  rw [if_neg (by omega), if_pos hk, U.mul64 m, quo_pos (Int.mul_nonneg h0 l1) hs (by unfold I64 at m; omega)]
theorem ow_2 (hk : k = 2) (q : Int) (e : Nat → R1) : U.rem q L = owQ n f k s h L q e := by
  unfold owQ
  rw [if_neg (by omega), if_neg (by omega), if_pos hk, U.rem_eq]
theorem ow_3 (hk : k = 3) (q : Int) (e : Nat → R1) (h0 : 0 ≤ q) (h1 : q ≤ 5000000) (hs : 0 < s) : U.rem (U.quo .i64 q s) L = owQ n f k s h L q e := by
  unfold owQ
  rw [if_neg (by omega), if_neg (by omega), if_neg (by omega), if_pos hk, U.rem_eq, quo_pos h0 hs (by omega)]
theorem ow_4 (hk : k = 4) (q : Int) (e : Nat → R1) : U.rem (hashN e n) L = owQ n f k s h L q e := by
  unfold owQ
  rw [if_neg (by omega), if_neg (by omega), if_neg (by omega), if_neg (by omega), U.rem_eq]
end
end Go.RX.Span

/- Domain maps: Owner and OwnerAt, of the program and of the reference. -/
set_option linter.unusedVariables false
set_option linter.unusedSimpArgs false
set_option maxRecDepth 100000
namespace Go.RX.Span
open Go Go.RX
attribute [local irreducible] sx conB

section
variable (n : Nat) (f : Nat → R3) (k s h L : Int) (m : Nat) (e : Nat → R1) (p : Int)
noncomputable def oaE : Int := if dmE n f k s h L ≠ 0 then dmE n f k s h L else if dnE n f k s h p ≠ 0 then 22 else 0
noncomputable def oaV : Int := if oaE n f k s h L p ≠ 0 then 0 else owX n f k s h L (dnF n f p)
end
noncomputable def c_OwnerAt : Con := fun args => match args with
  | [.agg [.row [.int .i64, .int .i64, .int .i64] n f, .lit (.int .i64 k), .lit (.int .i64 s), .lit (.int .i64 h)], .lit (.int .i64 L), .lit (.int .i64 p)] =>
    .ask (Row64 n f ∧ I64 p) (.ret (.tup [.lit (.int .i64 (lk oaV n f k s h L p)), .lit (.int .i64 (lk oaE n f k s h L p))]))
  | _ => .stuck 1
theorem has_64 {r : R3} (h : RR r) {v : Int} (hv : hasR r v = true) : I64 v := by
  obtain ⟨a1, a2, _⟩ := rr_64 h
  obtain ⟨_, h1, h2, _⟩ := (of_decide_eq_true hv : chk (rA r) (rB r) (rC r) = 0 ∧ rA r ≤ v ∧ v ≤ rB r ∧ (v - rA r) % rC r = 0)
  unfold I64 at *; omega
section
variable {n : Nat} {f : Nat → R3} {k s h L : Int} {m : Nat} {e : Nat → R1} {p : Int}
theorem hasD_has (hh : hasD n f k s h m e = true) : chD n f k s h = 0 ∧ m = n ∧ hasR (f 0) (nv e 0) = true ∧ (n = 2 → hasR (f 1) (nv e 1) = true) := of_decide_eq_true hh
/-- What Nth finds. -/
theorem dn_has (hc : chD n f k s h = 0) (he : dnE n f k s h p = 0) : dnN n f k s h p = n ∧ hasD n f k s h n (dnF n f p) = true ∧ ∃ i : Nat, p = (i : Int) ∧ i < szDn n f k s h := by
  have hz := (dr_prod (chD_zero.1 hc).1).1
  have hi : ¬ (p < 0 ∨ szR (f 0) * colD n f ≤ p) := fun w => by
    unfold dnE at he
    rw [if_neg (by simp [hc]), if_pos (by rw [szD_right hc]; exact w)] at he; omega
  have hlt : p.toNat < szDn n f k s h := by unfold szDn; rw [szD_right hc]; omega
  have ep : p = (p.toNat : Int) := by omega
  obtain ⟨i1, i2, i3⟩ := ix_all hc hlt
  obtain ⟨z1, z2⟩ := dn_zero hc hlt
  rw [← ep] at z2
  refine ⟨z2, ?_, p.toNat, ep, hlt⟩
  obtain ⟨_, _, g1, g2⟩ := hasD_has i2
  have hn := (chD_zero.1 hc).1.1
  have e0 := i1 0 (by omega)
  rw [← ep] at e0 i1
  refine decide_eq_true ⟨hc, rfl, ?_, fun h2 => ?_⟩
  · rw [e0]; exact g1
  · rw [i1 1 (by omega)]; exact g2 h2
theorem oa_at (hd : dmE n f k s h L = 0) {i : Nat} (hi : i < szDn n f k s h) : oaE n f k s h L i = 0 ∧ oaV n f k s h L i = owP n f k s h L i := by
  have hc := (dmE_zero.1 hd).2.2.1
  obtain ⟨z1, z2⟩ := dn_zero hc hi
  have e0 : oaE n f k s h L i = 0 := by unfold oaE; rw [if_neg (by simp [hd]), if_neg (by simp [z1])]
  refine ⟨e0, ?_⟩
  unfold oaV
  rw [if_neg (by simp [e0]), ← owX_eq hc hi]
  have hn := (chD_zero.1 hc).1.1
  exact owX_congr (by omega) fun j hj => by
    show (dnF n f i j).1 = _
    rw [(ix_all hc hi).1 j hj]; rfl
end
end Go.RX.Span

/- Domain maps: the reference's Check, Owner, OwnerAt. -/
set_option linter.unusedVariables false
set_option linter.unusedSimpArgs false
set_option maxRecDepth 100000
namespace Go.RX.Span
open Go Go.RX
attribute [local irreducible] sx conB

set_option maxRecDepth 100000 in
theorem t_qdmCheck (n : Nat) (f : Nat → R3) (k s h L : Int) : conB Go.Proofs.Try.prog (conOf kQ0) noLoops 10 52 [.agg [.row [.int .i64, .int .i64, .int .i64] n f, .lit (.int .i64 k), .lit (.int .i64 s), .lit (.int .i64 h)], .lit (.int .i64 L)] =
    T.br (U.lt L (1 : Int)) (.ret (.lit (.int .i64 4))) (.br (U.gt L (8 : Int)) (.ret (.lit (.int .i64 4))) (.ask (Row64 n f) (.br (U.ne (lk chD n f k s h) (0 : Int)) (.ret (.lit (.int
      .i64 (lk chD n f k s h)))) (.br (U.eq k (0 : Int)) (.br (U.ge h L) (.ret (.lit (.int .i64 70))) (.ret (.lit (.int .i64 0)))) (.ret (.lit (.int .i64 0))))))) := by kernel_rfl
set_option maxRecDepth 100000 in
theorem t_qowner (n : Nat) (f : Nat → R3) (k s h L : Int) (m : Nat) (e : Nat → R1) : conB Go.Proofs.Try.prog (conOf kQ0) noLoops 10 137 [.agg [.row [.int .i64, .int .i64, .int .i64] n f, .lit (.int .i64 k), .lit (.int .i64 s), .lit (.int .i64 h)], .lit (.int .i64 L), .row [.int .i64] m e] =
    T.ask ((0 : Int) ≤ (0 : Int) ∧ (0 : Int) < ↑n) (.ask ((0 : Int) ≤ (0 : Int) ∧ (0 : Int) < ↑m) (.ask (I64 (f (U.toNat (0 : Int))).1 ∧ I64 (f (U.toNat (0 : Int))).2.1 ∧ I64 (f
      (U.toNat (0 : Int))).2.2.1) (.br (U.eq k (0 : Int)) (.ret (.lit (.int .i64 h))) (.br (U.eq k (1 : Int)) (.ask ((0 : Int) ≤ (0 : Int) ∧ (0 : Int) < ↑n) (.ask (I64 (f (U.toNat (0 :
      Int))).1 ∧ I64 (f (U.toNat (0 : Int))).2.1 ∧ I64 (f (U.toNat (0 : Int))).2.2.1) (.ask (lk size (f (U.toNat (0 : Int))).1 (f (U.toNat (0 : Int))).2.1 (f (U.toNat (0 : Int))).2.2.1 ≠
      (0 : Int)) (.ret (.lit (.int .i64 (U.quo .i64 (U.mul .i64 (lk pos (f (U.toNat (0 : Int))).1 (f (U.toNat (0 : Int))).2.1 (f (U.toNat (0 : Int))).2.2.1 (e (U.toNat (0 : Int))).1) L)
      (lk size (f (U.toNat (0 : Int))).1 (f (U.toNat (0 : Int))).2.1 (f (U.toNat (0 : Int))).2.2.1)))))))) (.br (U.eq k (2 : Int)) (.ask (L ≠ (0 : Int)) (.ret (.lit (.int .i64 (U.rem (lk
      pos (f (U.toNat (0 : Int))).1 (f (U.toNat (0 : Int))).2.1 (f (U.toNat (0 : Int))).2.2.1 (e (U.toNat (0 : Int))).1) L))))) (.br (U.eq k (3 : Int)) (.ask (s ≠ (0 : Int)) (.ask (L ≠ (0
      : Int)) (.ret (.lit (.int .i64 (U.rem (U.quo .i64 (lk pos (f (U.toNat (0 : Int))).1 (f (U.toNat (0 : Int))).2.1 (f (U.toNat (0 : Int))).2.2.1 (e (U.toNat (0 : Int))).1) s) L))))))
      (.ask (m ≤ (1000000 : Nat) ∧ I64s m e) (.ask (L ≠ (0 : Int)) (.ret (.lit (.int .i64 (U.rem (lk hashN e m) L)))))))))))) := by kernel_rfl
theorem qdmCheck_ok : ConOK P 52 c_dmCheck := con_of (allOK mixed kQ0_ok) 10 52 fun args r h => by
  unfold c_dmCheck at h
  split at h
  · rename_i n f k s h' L
    have d := (T.is_ask h).1
    obtain rfl := T.is_ret (T.is_ask h).2
    rw [t_qdmCheck]
    simp only [lk_eq]
    have key : ∀ x, x = dmE n f k s h' L → (SV.lit (.int .i64 x)) = SV.lit (.int .i64 (dmE n f k s h' L)) := fun x hx => by rw [hx]
    refine ⟨fun g => key _ ?_, fun g => ⟨fun g2 => key _ ?_, fun g2 => ⟨d, fun g3 => key _ ?_, fun g3 => ⟨fun g4 => ⟨fun g5 => key _ ?_, fun g5 => key _ ?_⟩, fun g4 => key _ ?_⟩⟩⟩⟩
    all_goals unfold dmE
    · have := U.lt_t.mp g; rw [if_pos (by omega)]
    · have := U.gt_t.mp g2; rw [if_pos (by omega)]
    · have a := U.lt_f.mp g; have b := U.gt_f.mp g2; have c := U.ne_t.mp g3
      rw [if_neg (by omega), if_pos c]
    · have a := U.lt_f.mp g; have b := U.gt_f.mp g2; have c := U.ne_f.mp g3
      have e := U.eq_t.mp g4; have e2 := U.ge_t.mp g5
      rw [if_neg (by omega), if_neg (by simp [c]), if_pos (by omega)]
    · have a := U.lt_f.mp g; have b := U.gt_f.mp g2; have c := U.ne_f.mp g3
      have e := U.eq_t.mp g4; have e2 := U.ge_f.mp g5
      rw [if_neg (by omega), if_neg (by simp [c]), if_neg (by omega)]
    · have a := U.lt_f.mp g; have b := U.gt_f.mp g2; have c := U.ne_f.mp g3
      have e := U.eq_f.mp g4
      rw [if_neg (by omega), if_neg (by simp [c]), if_neg (fun w => e w.1)]
  · exact h.elim
theorem qowner_ok : ConOK P 137 c_qowner := con_of (allOK mixed kQ0_ok) 10 137 fun args r h => by
  unfold c_qowner at h
  split at h
  · rename_i n f k s h' L m e
    obtain ⟨hd, rfl, hx, ie⟩ := (lk_eq QwAsk ▸ (T.is_ask h).1 : QwAsk n f k s h' L m e)
    obtain rfl := T.is_ret (T.is_ask h).2
    obtain ⟨l1, l8, hc, hl⟩ := dmE_zero.1 hd
    obtain ⟨d1, fit⟩ := chD_zero.1 hc
    have hn := d1.1
    have r0 := d1.2 0 (by omega)
    have i0 := rr_64 r0
    obtain ⟨q0, q1⟩ := posR_lt r0 hx
    have hsz := rr_size r0
    have q5 : posR (f 0) (nv e 0) ≤ 5000000 := by omega
    have s0 : 0 < szR (f 0) := by omega
    refine T.all_of_eq (t_qowner m f k s h' L m e) ?_
    simp only [lk_eq, tnO0]
    have key : ∀ v, v = owQ m f k s h' L (posR (f 0) (nv e 0)) e → SV.lit (.int .i64 v) = SV.lit (.int .i64 (owX m f k s h' L e)) := fun v hv => by rw [hv]; rfl
    refine ⟨⟨by omega, by omega⟩, ⟨by omega, by omega⟩, i0, fun g => key _ (ow_0 (U.eq_t.mp g) _ _).symm, fun g0 => ⟨fun g => ⟨⟨by omega, by omega⟩, i0, ?_, key _ (ow_1 (U.eq_t.mp g) _ _ (by omega) l8 q0 q5 s0)⟩,
      fun g1 => ⟨fun g => ⟨by omega, key _ (ow_2 (U.eq_t.mp g) _ _)⟩, fun g2 => ⟨fun g => ⟨?_, by omega, key _ (ow_3 (U.eq_t.mp g) _ _ q0 q5 ?_)⟩,
      fun g3 => ⟨⟨by omega, ie⟩, by omega, key _ (ow_4 ?_ _ _)⟩⟩⟩⟩⟩
    · show szR (f 0) ≠ 0
      omega
    · have := fit_k fit; have e := U.eq_t.mp g; omega
    · have := fit_k fit; have e := U.eq_t.mp g; omega
    · have := fit_k fit
      have a0 := U.eq_f.mp g0; have a1 := U.eq_f.mp g1; have a2 := U.eq_f.mp g2; have a3 := U.eq_f.mp g3
      omega
  · exact h.elim
noncomputable abbrev kQ1 : List (Nat × Con) := (52, c_dmCheck) :: (137, c_qowner) :: kQ0 --%K
theorem kQ1_ok : ∀ p ∈ kQ1, ConOK P p.1 p.2 := by
  intro p hp
  simp only [kQ1, List.mem_cons] at hp
  rcases hp with rfl | rfl | hp
  · exact qdmCheck_ok
  · exact qowner_ok
  · exact kQ0_ok p (by simpa [kQ0] using hp)
set_option maxRecDepth 100000 in
theorem t_qOwnerAt (n : Nat) (f : Nat → R3) (k s h L p : Int) : conB Go.Proofs.Try.prog (conOf kQ1) noLoops 10 51 [.agg [.row [.int .i64, .int .i64, .int .i64] n f, .lit (.int .i64 k), .lit (.int .i64 s), .lit (.int .i64 h)], .lit (.int .i64 L), .lit (.int .i64 p)] =
    T.ask (Row64 n f) (.br (U.ne (lk dmE n f k s h L) (0 : Int)) (.ret (.tup [.lit (.int .i64 0), .lit (.int .i64 (lk dmE n f k s h L))])) (.ask (Row64 n f ∧ I64 p) (.br (U.ne (lk dnE n
      f k s h p) (0 : Int)) (.ret (.tup [.lit (.int .i64 0), .lit (.int .i64 22)])) (.ask (lk QwAsk n f k s h L (lk dnN n f k s h p) (lk dnF n f p)) (.ret (.tup [.lit (.int .i64 (lk owX n
      f k s h L (lk dnF n f p))), .lit (.int .i64 0)])))))) := by kernel_rfl
theorem I64s_hasD {n : Nat} {f : Nat → R3} {k s h : Int} {m : Nat} {e : Nat → R1} (hh : hasD n f k s h m e = true) : I64s n e := fun i hi => by
  obtain ⟨hc, rfl, h1, h2⟩ := hasD_has hh
  obtain ⟨d1, _⟩ := chD_zero.1 hc
  have hn := d1.1
  rcases (show i = 0 ∨ i = 1 by omega) with rfl | rfl
  · exact has_64 (d1.2 0 (by omega)) h1
  · exact has_64 (d1.2 1 (by omega)) (h2 (by omega))
theorem qOwnerAt_ok : ConOK P 51 c_OwnerAt := con_of (allOK mixed kQ1_ok) 10 51 fun args r hh => by
  unfold c_OwnerAt at hh
  split at hh
  · rename_i n f k s h L p
    obtain ⟨d, ip⟩ := (T.is_ask hh).1
    obtain rfl := T.is_ret (T.is_ask hh).2
    refine T.all_of_eq (t_qOwnerAt n f k s h L p) ?_
    simp only [lk_eq]
    have key : ∀ v x, v = oaV n f k s h L p → x = oaE n f k s h L p → SV.tup [.lit (.int .i64 v), .lit (.int .i64 x)] = SV.tup [.lit (.int .i64 (oaV n f k s h L p)), .lit (.int .i64 (oaE n f k s h L p))] := fun v x h1 h2 => by rw [h1, h2]
    have eV : oaE n f k s h L p ≠ 0 → 0 = oaV n f k s h L p := fun w => by unfold oaV; rw [if_pos w]
    refine ⟨d, fun g => ?_, fun g => ⟨⟨d, ip⟩, fun g2 => ?_, fun g2 => ?_⟩⟩
    · have g := U.ne_t.mp g
      have e1 : dmE n f k s h L = oaE n f k s h L p := by unfold oaE; rw [if_pos g]
      exact key _ _ (eV (by rw [← e1]; exact g)) e1
    · have g := U.ne_f.mp g
      have g2 := U.ne_t.mp g2
      have e1 : 22 = oaE n f k s h L p := by unfold oaE; rw [if_neg (by simp [g]), if_pos g2]
      exact key _ _ (eV (by omega)) e1
    · have g := U.ne_f.mp g
      have g2 := U.ne_f.mp g2
      obtain ⟨b1, b2, _⟩ := dn_has (dmE_zero.1 g).2.2.1 g2
      obtain ⟨_, h1, h2, _⟩ := hasD_has b2
      have e1 : oaE n f k s h L p = 0 := by unfold oaE; rw [if_neg (by simp [g]), if_neg (by simp [g2])]
      rw [b1]
      exact ⟨⟨g, h1, h2, I64s_hasD b2⟩, key _ _ (by unfold oaV; rw [if_neg (by simp [e1])]) e1.symm⟩
  · exact hh.elim
end Go.RX.Span

/- Domain maps: the functions that say who owns: contracts. -/
set_option linter.unusedVariables false
set_option linter.unusedSimpArgs false
set_option maxRecDepth 100000
namespace Go.RX.Span
open Go Go.RX
attribute [local irreducible] sx conB

def dK (d : DE) : Int := d.2.1
def dS (d : DE) : Int := d.2.2.1
def dN (d : DE) : Nat := d.1.1
/-- The owner that the functions return, by what they have captured. -/
noncomputable def owC (d : DE) (L q x y : Int) : Int := owQ d.1.1 d.1.2 d.2.1 d.2.2.1 d.2.2.2.1 L q (ixF x y)
def OcAsk (w : Int) (d : DE) (L q x y : Int) : Prop := dmE d.1.1 d.1.2 d.2.1 d.2.2.1 d.2.2.2.1 L = 0 ∧ dK d = w ∧ 0 ≤ q ∧ q < szR (d.1.2 0) ∧ I64 x ∧ I64 y
def OcHome (d : DE) : Prop := dK d = 0
noncomputable abbrev ssL : List Sh := [.int .i64]
noncomputable abbrev rpL (fl : Nat → R1) : SV := .rptr [.int .i64] 1 fl 0 0
noncomputable def c_ow0 : Con := fun args => match args with
  | [.lit (.int .i64 q), .agg [.lit (.int .i64 x), .lit (.int .i64 y)], .rptr [.sl [.int .i64, .int .i64, .int .i64], .int .i64, .int .i64, .int .i64] 1 fd 0 0] => .ask (lk OcHome (fd 0)) (.ret (.lit (.int .i64 (lk owC (fd 0) 0 q x y))))
  | _ => .stuck 1
noncomputable def c_ow1 (w : Int) : Con := fun args => match args with
  | [.lit (.int .i64 q), .agg [.lit (.int .i64 x), .lit (.int .i64 y)], .rptr [.int .i64] 1 fl 0 0, .rptr [.sl [.int .i64, .int .i64, .int .i64], .int .i64, .int .i64, .int .i64] 1 fd 0 0] => .ask (lk OcAsk w (fd 0) (lk nv fl 0) q x y) (.ret (.lit (.int .i64 (lk owC (fd 0) (lk nv fl 0) q x y))))
  | _ => .stuck 1
noncomputable def c_ow2 (w : Int) : Con := fun args => match args with
  | [.lit (.int .i64 q), .agg [.lit (.int .i64 x), .lit (.int .i64 y)], .rptr [.sl [.int .i64, .int .i64, .int .i64], .int .i64, .int .i64, .int .i64] 1 fd 0 0, .rptr [.int .i64] 1 fl 0 0] => .ask (lk OcAsk w (fd 0) (lk nv fl 0) q x y) (.ret (.lit (.int .i64 (lk owC (fd 0) (lk nv fl 0) q x y))))
  | _ => .stuck 1
noncomputable def c_ow3 : Con := fun args => match args with
  | [.lit (.int .i64 q), .agg [.lit (.int .i64 x), .lit (.int .i64 y)], .rptr [.int .i64] 1 fl 0 0] => .ask (lk nv fl 0 ≠ 0) (.ret (.lit (.int .i64 (U.rem q (lk nv fl 0)))))
  | _ => .stuck 1
noncomputable def c_owners : Con := fun args => match args with
  | [.agg [.row [.int .i64, .int .i64, .int .i64] n f, .lit (.int .i64 k), .lit (.int .i64 s), .lit (.int .i64 h)], .lit (.int .i64 L)] =>
    .ret (.agg [.fn (.func 224) [] [rpD fun _ => ((n, f), k, s, h, ())], .fn (.func 225) [] [rpL fun _ => (L, ()), rpD fun _ => ((n, f), k, s, h, ())], .fn (.func 226) [] [rpL fun _ => (L, ())], .fn (.func 227) [] [rpD fun _ => ((n, f), k, s, h, ()), rpL fun _ => (L, ())], .fn (.func 228) [] [rpD fun _ => ((n, f), k, s, h, ()), rpL fun _ => (L, ())]])
  | _ => .stuck 1
end Go.RX.Span

/- Domain maps: the functions that say who owns. -/
set_option linter.unusedVariables false
set_option linter.unusedSimpArgs false
set_option maxRecDepth 100000
namespace Go.RX.Span
open Go Go.RX
attribute [local irreducible] sx conB

--%R ofList\s+\[\((\S+),\s+\(\)\) => ofList (ss := [.int .i64]) [(\1, ())
--%R ↑\((2) : Nat\) => ((\1 : Nat) : Int)
set_option maxRecDepth 100000 in
theorem t_ow0 (fd : Nat → DE) (q x y : Int) : conB Go.Proofs.Try.prog (conOf kU0) noLoops 10 224 [.lit (.int .i64 q), .agg [.lit (.int .i64 x), .lit (.int .i64 y)], rpD fd] =
    T.ret (.lit (.int .i64 (fd (0 : Nat)).2.2.2.1)) := by kernel_rfl
set_option maxRecDepth 100000 in
theorem t_ow1 (fd : Nat → DE) (fl : Nat → R1) (q x y : Int) : conB Go.Proofs.Try.prog (conOf kU0) noLoops 10 225 [.lit (.int .i64 q), .agg [.lit (.int .i64 x), .lit (.int .i64 y)], rpL fl, rpD fd] =
    T.ask ((0 : Int) ≤ (0 : Int) ∧ (0 : Int) < ↑(fd (0 : Nat)).fst.1) (.ask (I64 ((fd (0 : Nat)).fst.snd (U.toNat (0 : Int))).1 ∧ I64 ((fd (0 : Nat)).fst.snd (U.toNat (0 : Int))).2.1 ∧
      I64 ((fd (0 : Nat)).fst.snd (U.toNat (0 : Int))).2.2.1) (.ask (lk size ((fd (0 : Nat)).fst.snd (U.toNat (0 : Int))).1 ((fd (0 : Nat)).fst.snd (U.toNat (0 : Int))).2.1 ((fd (0 :
      Nat)).fst.snd (U.toNat (0 : Int))).2.2.1 ≠ (0 : Int)) (.ret (.lit (.int .i64 (U.quo .i64 (U.mul .i64 q (fl (0 : Nat)).1) (lk size ((fd (0 : Nat)).fst.snd (U.toNat (0 : Int))).1 ((fd
      (0 : Nat)).fst.snd (U.toNat (0 : Int))).2.1 ((fd (0 : Nat)).fst.snd (U.toNat (0 : Int))).2.2.1))))))) := by kernel_rfl
set_option maxRecDepth 100000 in
theorem t_ow2 (fl : Nat → R1) (q x y : Int) : conB Go.Proofs.Try.prog (conOf kU0) noLoops 10 226 [.lit (.int .i64 q), .agg [.lit (.int .i64 x), .lit (.int .i64 y)], rpL fl] =
    T.ask ((fl (0 : Nat)).1 ≠ (0 : Int)) (.ret (.lit (.int .i64 (U.rem q (fl (0 : Nat)).1)))) := by kernel_rfl
set_option maxRecDepth 100000 in
theorem t_ow3 (fd : Nat → DE) (fl : Nat → R1) (q x y : Int) : conB Go.Proofs.Try.prog (conOf kU0) noLoops 10 227 [.lit (.int .i64 q), .agg [.lit (.int .i64 x), .lit (.int .i64 y)], rpD fd, rpL fl] =
    T.ask ((fd (0 : Nat)).2.2.1 ≠ (0 : Int)) (.ask ((fl (0 : Nat)).1 ≠ (0 : Int)) (.ret (.lit (.int .i64 (U.rem (U.quo .i64 q (fd (0 : Nat)).2.2.1) (fl (0 : Nat)).1))))) := by kernel_rfl
set_option maxRecDepth 100000 in
theorem t_ow4 (fd : Nat → DE) (fl : Nat → R1) (q x y : Int) : conB Go.Proofs.Try.prog (conOf kU0) noLoops 10 228 [.lit (.int .i64 q), .agg [.lit (.int .i64 x), .lit (.int .i64 y)], rpD fd, rpL fl] =
    T.ask ((0 : Int) ≤ Int.ofNat (fd (0 : Nat)).fst.1 ∧ Int.ofNat (fd (0 : Nat)).fst.1 ≤ ((2 : Nat) : Int)) (.ask (U.toNat (Int.ofNat (fd (0 : Nat)).fst.1) ≤ (1000000 : Nat) ∧ I64s
      (U.toNat (Int.ofNat (fd (0 : Nat)).fst.1)) (ofList (ss := [.int .i64]) [(y, ()), (x, ())].reverse)) (.ask ((fl (0 : Nat)).1 ≠ (0 : Int)) (.ret (.lit (.int .i64 (U.rem (lk hashN
      (ofList (ss := [.int .i64]) [(y, ()), (x, ())].reverse) (U.toNat (Int.ofNat (fd (0 : Nat)).fst.1))) (fl (0 : Nat)).1)))))) := by kernel_rfl
set_option maxRecDepth 100000 in
theorem t_owners (n : Nat) (f : Nat → R3) (k s h L : Int) : conB Go.Proofs.Try.prog (conOf kU0) noLoops 10 188 [.agg [.row [.int .i64, .int .i64, .int .i64] n f, .lit (.int .i64 k), .lit (.int .i64 s), .lit (.int .i64 h)], .lit (.int .i64 L)] =
    T.ret (.agg [SV.fn (Fn.func (nat_lit 224)) [] [SV.rptr [.sl [.int .i64, .int .i64, .int .i64], .int .i64, .int .i64, .int .i64] (nat_lit 1) (fun x => ((n, f), k, s, h, PUnit.unit))
      (nat_lit 0) (nat_lit 0)], SV.fn (Fn.func (nat_lit 225)) [] [SV.rptr [.int .i64] (nat_lit 1) (fun x => (L, PUnit.unit)) (nat_lit 0) (nat_lit 0), SV.rptr [.sl [.int .i64, .int .i64,
      .int .i64], .int .i64, .int .i64, .int .i64] (nat_lit 1) (fun x => ((n, f), k, s, h, PUnit.unit)) (nat_lit 0) (nat_lit 0)], SV.fn (Fn.func (nat_lit 226)) [] [SV.rptr [.int .i64]
      (nat_lit 1) (fun x => (L, PUnit.unit)) (nat_lit 0) (nat_lit 0)], SV.fn (Fn.func (nat_lit 227)) [] [SV.rptr [.sl [.int .i64, .int .i64, .int .i64], .int .i64, .int .i64, .int .i64]
      (nat_lit 1) (fun x => ((n, f), k, s, h, PUnit.unit)) (nat_lit 0) (nat_lit 0), SV.rptr [.int .i64] (nat_lit 1) (fun x => (L, PUnit.unit)) (nat_lit 0) (nat_lit 0)], SV.fn (Fn.func
      (nat_lit 228)) [] [SV.rptr [.sl [.int .i64, .int .i64, .int .i64], .int .i64, .int .i64, .int .i64] (nat_lit 1) (fun x => ((n, f), k, s, h, PUnit.unit)) (nat_lit 0) (nat_lit 0),
      SV.rptr [.int .i64] (nat_lit 1) (fun x => (L, PUnit.unit)) (nat_lit 0) (nat_lit 0)]]) := by kernel_rfl
theorem owners_ok : ConOK P 188 c_owners := con_of (allOK mixed kU0_ok) 10 188 fun args r h => by
  unfold c_owners at h
  split at h
  · rename_i n f k s h' L
    obtain rfl := T.is_ret h
    rw [t_owners]
    rfl
  · exact h.elim
theorem ow0_ok : ConOK P 224 c_ow0 := con_of (allOK mixed kU0_ok) 10 224 fun args r h => by
  unfold c_ow0 at h
  split at h
  · rename_i q x y fd
    have h0 := (lk_eq OcHome ▸ (T.is_ask h).1 : OcHome (fd 0))
    obtain rfl := T.is_ret (T.is_ask h).2
    refine T.all_of_eq (t_ow0 fd q x y) ?_
    simp only [lk_eq]
    have e : owC (fd 0) 0 q x y = (fd 0).2.2.2.1 := ow_0 h0 q _
    rw [e]; rfl
  · exact h.elim
theorem oc_facts {w : Int} {d : DE} {L q x y : Int} (h : OcAsk w d L q x y) : 1 ≤ L ∧ L ≤ 8 ∧ (dN d = 1 ∨ dN d = 2) ∧ (I64 (d.1.2 0).1 ∧ I64 (d.1.2 0).2.1 ∧ I64 (d.1.2 0).2.2.1) ∧ 0 < szR (d.1.2 0) ∧ q ≤ 5000000 ∧ (dK d = 3 → 0 < dS d) := by
  obtain ⟨hd, hk, q0, q1, ix, iy⟩ := h
  obtain ⟨l1, l8, hc, _⟩ := dmE_zero.1 hd
  obtain ⟨d1, fit⟩ := chD_zero.1 hc
  have hn := d1.1
  have r0 := d1.2 0 (by omega)
  have hsz := rr_size r0
  refine ⟨l1, l8, hn, rr_64 r0, by omega, by omega, fun e => ?_⟩
  have := fit_k fit
  have this : dK d = 0 ∨ dK d = 1 ∨ dK d = 2 ∨ (dK d = 3 ∧ 1 ≤ dS d ∧ dS d ≤ 1000) ∨ dK d = 4 := this
  omega
theorem ow1_ok : ConOK P 225 (c_ow1 1) := con_of (allOK mixed kU0_ok) 10 225 fun args r h => by
  unfold c_ow1 at h
  split at h
  · rename_i q x y fl fd
    have h0 := (lk_eq OcAsk ▸ (T.is_ask h).1 : OcAsk 1 (fd 0) (lk nv fl 0) q x y)
    obtain rfl := T.is_ret (T.is_ask h).2
    rw [lk_eq] at h0
    obtain ⟨l1, l8, hn, i0, s0, q5, _⟩ := oc_facts h0
    refine T.all_of_eq (t_ow1 fd fl q x y) ?_
    simp only [lk_eq, tnO0]
    refine ⟨⟨by omega, ?_⟩, i0, ?_, ?_⟩
    · show (0 : Int) < ((dN (fd 0) : Nat) : Int)
      omega
    · show szR ((fd 0).1.2 0) ≠ 0
      omega
    · have e := ow_1 (n := (fd 0).1.1) (f := (fd 0).1.2) (s := (fd 0).2.2.1) (h := (fd 0).2.2.2.1) (L := nv fl 0) h0.2.1 q (ixF x y) (by omega) l8 h0.2.2.1 q5 s0
      exact congrArg (fun v => SV.lit (.int .i64 v)) e
  · exact h.elim
theorem ow3_ok : ConOK P 226 c_ow3 := con_of (allOK mixed kU0_ok) 10 226 fun args r h => by
  unfold c_ow3 at h
  split at h
  · rename_i q x y fl
    have h0 := (T.is_ask h).1
    obtain rfl := T.is_ret (T.is_ask h).2
    refine T.all_of_eq (t_ow2 fl q x y) ?_
    rw [lk_eq] at h0 ⊢
    exact ⟨h0, rfl⟩
  · exact h.elim
theorem ow2_ok : ConOK P 227 (c_ow2 3) := con_of (allOK mixed kU0_ok) 10 227 fun args r h => by
  unfold c_ow2 at h
  split at h
  · rename_i q x y fd fl
    have h0 := (lk_eq OcAsk ▸ (T.is_ask h).1 : OcAsk 3 (fd 0) (lk nv fl 0) q x y)
    obtain rfl := T.is_ret (T.is_ask h).2
    rw [lk_eq] at h0
    obtain ⟨l1, l8, hn, i0, s0, q5, hs⟩ := oc_facts h0
    have hs := hs h0.2.1
    refine T.all_of_eq (t_ow3 fd fl q x y) ?_
    simp only [lk_eq]
    refine ⟨?_, ?_, ?_⟩
    · show dS (fd 0) ≠ 0
      omega
    · show nv fl 0 ≠ 0
      omega
    · have e := ow_3 (n := (fd 0).1.1) (f := (fd 0).1.2) (s := (fd 0).2.2.1) (h := (fd 0).2.2.2.1) (L := nv fl 0) h0.2.1 q (ixF x y) h0.2.2.1 q5 hs
      exact congrArg (fun v => SV.lit (.int .i64 v)) e
  · exact h.elim
theorem ow4_ok : ConOK P 228 (c_ow2 4) := con_of (allOK mixed kU0_ok) 10 228 fun args r h => by
  unfold c_ow2 at h
  split at h
  · rename_i q x y fd fl
    have h0 := (lk_eq OcAsk ▸ (T.is_ask h).1 : OcAsk 4 (fd 0) (lk nv fl 0) q x y)
    obtain rfl := T.is_ret (T.is_ask h).2
    rw [lk_eq] at h0
    obtain ⟨l1, l8, hn, i0, s0, q5, _⟩ := oc_facts h0
    obtain ⟨_, hk4, _, _, ix, iy⟩ := h0
    refine T.all_of_eq (t_ow4 fd fl q x y) ?_
    simp only [lk_eq, tnOf]
    refine ⟨⟨Int.natCast_nonneg _, ?_⟩, ⟨?_, fun i hi => ?_⟩, ?_, ?_⟩
    · show ((dN (fd 0) : Nat) : Int) ≤ 2
      omega
    · show dN (fd 0) ≤ 1000000
      omega
    · have hi : i < dN (fd 0) := hi
      rcases (show i = 0 ∨ i = 1 by omega) with rfl | rfl
      · exact ix
      · exact iy
    · show nv fl 0 ≠ 0
      omega
    · have e := ow_4 (n := (fd 0).1.1) (f := (fd 0).1.2) (s := (fd 0).2.2.1) (h := (fd 0).2.2.2.1) (L := nv fl 0) hk4 q (ixF x y)
      exact congrArg (fun v => SV.lit (.int .i64 v)) e
  · exact h.elim
noncomputable abbrev kA0 : List (Nat × Con) := [(224, c_ow0), (225, c_ow1 1), (226, c_ow3), (227, c_ow2 3), (228, c_ow2 4), (188, c_owners), (28, c_Size), (172, c_DAll)] --%K
theorem kA0_ok : ∀ p ∈ kA0, ConOK P p.1 p.2 := by
  intro p hp
  simp only [kA0, List.mem_cons, List.not_mem_nil, or_false] at hp
  rcases hp with rfl | rfl | rfl | rfl | rfl | rfl | rfl | rfl
  · exact ow0_ok
  · exact ow1_ok
  · exact ow3_ok
  · exact ow2_ok
  · exact ow4_ok
  · exact owners_ok
  · exact Size_ok
  · exact DAll_ok
end Go.RX.Span

/- Domain maps: all positions with their owners: the states. -/
set_option linter.unusedVariables false
set_option linter.unusedSimpArgs false
set_option maxRecDepth 100000
namespace Go.RX.Span
open Go Go.RX
attribute [local irreducible] sx conB

/-- The function that says who owns, by the kind of the map. -/
noncomputable def ofV (k : Int) (d : DE) (L : Int) : SV :=
  if k = 0 then .fn (.func 224) [] [rpD fun _ => d] else if k = 1 then .fn (.func 225) [] [rpL fun _ => (L, ()), rpD fun _ => d] else if k = 2 then .fn (.func 226) [] [rpL fun _ => (L, ())]
  else if k = 3 then .fn (.func 227) [] [rpD fun _ => d, rpL fun _ => (L, ())] else .fn (.func 228) [] [rpD fun _ => d, rpL fun _ => (L, ())]
noncomputable def dOw (d : DE) (L : Int) (p : Nat) : Int := owP d.1.1 d.1.2 d.2.1 d.2.2.1 d.2.2.2.1 L p
def dSz (d : DE) : Nat := szDn d.1.1 d.1.2 d.2.1 d.2.2.1 d.2.2.2.1
def dDm (d : DE) (L : Int) : Int := dmE d.1.1 d.1.2 d.2.1 d.2.2.1 d.2.2.2.1 L
def dCol (d : DE) : Int := ((colN d.1.1 d.1.2 : Nat) : Int)
/-- What is yielded. -/
noncomputable def elA (d : DE) (L : Int) (p : Nat) : List Value := [.int .i64 (p : Int), .int .i64 (dOw d L p)]
def PreA (n0 : Nat) (K : Cons) (d : DE) (L : Int) (c : Nat) (el : Nat → List Value) : Prop := n0 ≤ 4 ∧ K.P = P ∧ dDm d L = 0 ∧ c = dSz d ∧ el = elD d.1.1 d.1.2 ∧ K.n = c ∧ K.el = elA d L
structure XA where
  (K : Cons) (fd : Nat → DE) (fl : Nat → R1) (c : Nat) (el : Nat → List Value)
noncomputable abbrev slA (fd : Nat → DE) (fl : Nat → R1) : List SV := [rpD fd, rpL fl, .ptr 1 0, .ptr 2 0, .ptr 3 0]
noncomputable abbrev memA (K : Cons) (i : Nat) (fv : SV) (C : Int) : Mem := [(0, some (.seq true K i)), (0, some (.cells [yieldV K] 44)), (0, some (.cells [fv] 182)), (0, some (.cells [.lit (.int .i64 C)] 3))]
noncomputable abbrev memA' (K : Cons) (i : Nat) : Mem := [(0, some (.seq false K i)), (0, none), (0, none), (0, none)]
def ColOk (cv : SV) (C : Int) : Prop := cv = .lit (.int .i64 C) ∨ (cv = .ki .i64 1 ∧ C = 1)
noncomputable def gA : Nat → Nat → (Nat → List Value) → Few → T (Ex × Few)
  | n0, c, el, ([.rptr ss 1 fd 0 0, .rptr ss2 1 fl 0 0, .ptr 1 0, .ptr 2 0, .ptr 3 0], [(_, some (.seq true K 0)), (_, some (.cells [.lit (.func (.yield l) ⟨[]⟩ ⟨[]⟩)] t1)), (_, some (.cells [fv] t2)), (_, some (.cells [cv] t3))]) =>
    if e : eqShs ss ssD = true ∧ eqShs ss2 ssL = true then
      .ask (lk PreA n0 K (castEls e.1 fd 0) (lk nv (castEls e.2 fl) 0) c el ∧ fv = ofV (dK (castEls e.1 fd 0)) (castEls e.1 fd 0) (lk nv (castEls e.2 fl) 0) ∧ ColOk cv (lk dCol (castEls e.1 fd 0)) ∧ K.l = l ∧ t1 = 44 ∧ t2 = 182 ∧ t3 = 3)
        (.br (lk okB K 0 c) (.ret (.normal, (slA (castEls e.1 fd) (castEls e.2 fl), memA K c fv (lk dCol (castEls e.1 fd 0))))) (.ret (.ret, (slA (castEls e.1 fd) (castEls e.2 fl), memA' K (lk stopA K 0 c + 1)))))
    else .stuck 2
  | _, _, _, _ => .stuck 1
noncomputable abbrev cdA : Code := rangeOf P 223 1006 --%K
noncomputable abbrev asA : Code := match rangeOf P 223 1006 with | .rangeFunc _ _ a _ => a | _ => .skip --%K
noncomputable abbrev bdA : Code := match rangeOf P 223 1006 with | .rangeFunc _ _ _ b => b | _ => .skip --%K
noncomputable abbrev EA : Env := ⟨P, conOf kA0, scall P (conOf kA0) noLoops 10⟩
end Go.RX.Span

/- Domain maps: all positions with their owners: the walk. -/
set_option linter.unusedVariables false
set_option linter.unusedSimpArgs false
set_option maxRecDepth 100000
namespace Go.RX.Span
open Go Go.RX
attribute [local irreducible] sx conB

set_option maxRecDepth 100000 in
theorem t_A0 (K : Cons) (fd : Nat → DE) (fl : Nat → R1) (i : Nat) (p x y C : Int) : (sxR EA [] 4 #[26, 27] asA bdA [.int .i64 p, .agg #[.int .i64 x, .int .i64 y]] (mkS 38 [1,2,3,4,5] (slA fd fl), memA K i (.fn (.func 224) [] [rpD fun _ => fd 0]) C)).bind (fun r => .ret (r.1, r.2.2)) =
    T.ask (C ≠ (0 : Int)) (.ask (lk OcHome ((fun x => fd (0 : Nat)) (0 : Nat))) (.ask (YldAsk EA.P K.5 K i [.int .i64 p, .int .i64 (lk owC (fd (nat_lit 0)) (0 : Int) (U.quo .i64 p C) x
      y)]) (.br (K.4 i) (.ret (Ex.normal, [(nat_lit 1, some (Blk.seq true K (i.add (nat_lit 1)))), (nat_lit 0, some (Blk.cells [.lit (Value.func (Fn.yield K.5) { toList := [] } { toList
      := [] })] (nat_lit 44))), (nat_lit 0, some (Blk.cells [SV.fn (Fn.func (nat_lit 224)) [] [SV.rptr [.sl [.int .i64, .int .i64, .int .i64], .int .i64, .int .i64, .int .i64] (nat_lit 1)
      (fun x => fd (nat_lit 0)) (nat_lit 0) (nat_lit 0)]] (nat_lit 182))), (nat_lit 0, some (Blk.cells [.lit (.int .i64 C)] (nat_lit 3))), (nat_lit 1, some (Blk.cells [.lit (.int .i64 x),
      .lit (.int .i64 y)] (nat_lit 103)))])) (.ret (Ex.ret, [(nat_lit 1, some (Blk.seq false K (i.add (nat_lit 1)))), (nat_lit 0, some (Blk.cells [.lit (Value.func (Fn.yield K.5) { toList
      := [] } { toList := [] })] (nat_lit 44))), (nat_lit 0, some (Blk.cells [SV.fn (Fn.func (nat_lit 224)) [] [SV.rptr [.sl [.int .i64, .int .i64, .int .i64], .int .i64, .int .i64, .int
      .i64] (nat_lit 1) (fun x => fd (nat_lit 0)) (nat_lit 0) (nat_lit 0)]] (nat_lit 182))), (nat_lit 0, some (Blk.cells [.lit (.int .i64 C)] (nat_lit 3))), (nat_lit 1, some (Blk.cells
      [.lit (.int .i64 x), .lit (.int .i64 y)] (nat_lit 103)))]))))) := by kernel_rfl
set_option maxRecDepth 100000 in
theorem t_A1 (K : Cons) (fd : Nat → DE) (fl : Nat → R1) (i : Nat) (p x y C : Int) : (sxR EA [] 4 #[26, 27] asA bdA [.int .i64 p, .agg #[.int .i64 x, .int .i64 y]] (mkS 38 [1,2,3,4,5] (slA fd fl), memA K i (.fn (.func 225) [] [rpL fun _ => (nv fl 0, ()), rpD fun _ => fd 0]) C)).bind (fun r => .ret (r.1, r.2.2)) =
    T.ask (C ≠ (0 : Int)) (.ask (lk OcAsk (1 : Int) ((fun x => fd (0 : Nat)) (0 : Nat)) (lk nv (fun x => ((fl (0 : Nat)).1, PUnit.unit)) (nat_lit 0)) (U.quo .i64 p C) x y) (.ask (YldAsk
      EA.P K.5 K i [.int .i64 p, .int .i64 (lk owC (fd (nat_lit 0)) (lk nv (fun x => ((fl (0 : Nat)).1, PUnit.unit)) (nat_lit 0)) (U.quo .i64 p C) x y)]) (.br (K.4 i) (.ret (Ex.normal,
      [(nat_lit 1, some (Blk.seq true K (i.add (nat_lit 1)))), (nat_lit 0, some (Blk.cells [.lit (Value.func (Fn.yield K.5) { toList := [] } { toList := [] })] (nat_lit 44))), (nat_lit 0,
      some (Blk.cells [SV.fn (Fn.func (nat_lit 225)) [] [SV.rptr [.int .i64] (nat_lit 1) (fun x => ((fl (0 : Nat)).1, PUnit.unit)) (nat_lit 0) (nat_lit 0), SV.rptr [.sl [.int .i64, .int
      .i64, .int .i64], .int .i64, .int .i64, .int .i64] (nat_lit 1) (fun x => fd (nat_lit 0)) (nat_lit 0) (nat_lit 0)]] (nat_lit 182))), (nat_lit 0, some (Blk.cells [.lit (.int .i64 C)]
      (nat_lit 3))), (nat_lit 1, some (Blk.cells [.lit (.int .i64 x), .lit (.int .i64 y)] (nat_lit 103)))])) (.ret (Ex.ret, [(nat_lit 1, some (Blk.seq false K (i.add (nat_lit 1)))),
      (nat_lit 0, some (Blk.cells [.lit (Value.func (Fn.yield K.5) { toList := [] } { toList := [] })] (nat_lit 44))), (nat_lit 0, some (Blk.cells [SV.fn (Fn.func (nat_lit 225)) []
      [SV.rptr [.int .i64] (nat_lit 1) (fun x => ((fl (0 : Nat)).1, PUnit.unit)) (nat_lit 0) (nat_lit 0), SV.rptr [.sl [.int .i64, .int .i64, .int .i64], .int .i64, .int .i64, .int .i64]
      (nat_lit 1) (fun x => fd (nat_lit 0)) (nat_lit 0) (nat_lit 0)]] (nat_lit 182))), (nat_lit 0, some (Blk.cells [.lit (.int .i64 C)] (nat_lit 3))), (nat_lit 1, some (Blk.cells [.lit
      (.int .i64 x), .lit (.int .i64 y)] (nat_lit 103)))]))))) := by kernel_rfl
set_option maxRecDepth 100000 in
theorem t_A2 (K : Cons) (fd : Nat → DE) (fl : Nat → R1) (i : Nat) (p x y C : Int) : (sxR EA [] 4 #[26, 27] asA bdA [.int .i64 p, .agg #[.int .i64 x, .int .i64 y]] (mkS 38 [1,2,3,4,5] (slA fd fl), memA K i (.fn (.func 226) [] [rpL fun _ => (nv fl 0, ())]) C)).bind (fun r => .ret (r.1, r.2.2)) =
    T.ask (C ≠ (0 : Int)) (.ask (lk nv (fun x => ((fl (0 : Nat)).1, PUnit.unit)) (nat_lit 0) ≠ (0 : Int)) (.ask (YldAsk EA.P K.5 K i [.int .i64 p, .int .i64 (U.rem (U.quo .i64 p C) (lk
      nv (fun x => ((fl (0 : Nat)).1, PUnit.unit)) (nat_lit 0)))]) (.br (K.4 i) (.ret (Ex.normal, [(nat_lit 1, some (Blk.seq true K (i.add (nat_lit 1)))), (nat_lit 0, some (Blk.cells
      [.lit (Value.func (Fn.yield K.5) { toList := [] } { toList := [] })] (nat_lit 44))), (nat_lit 0, some (Blk.cells [SV.fn (Fn.func (nat_lit 226)) [] [SV.rptr [.int .i64] (nat_lit 1)
      (fun x => ((fl (0 : Nat)).1, PUnit.unit)) (nat_lit 0) (nat_lit 0)]] (nat_lit 182))), (nat_lit 0, some (Blk.cells [.lit (.int .i64 C)] (nat_lit 3))), (nat_lit 1, some (Blk.cells
      [.lit (.int .i64 x), .lit (.int .i64 y)] (nat_lit 103)))])) (.ret (Ex.ret, [(nat_lit 1, some (Blk.seq false K (i.add (nat_lit 1)))), (nat_lit 0, some (Blk.cells [.lit (Value.func
      (Fn.yield K.5) { toList := [] } { toList := [] })] (nat_lit 44))), (nat_lit 0, some (Blk.cells [SV.fn (Fn.func (nat_lit 226)) [] [SV.rptr [.int .i64] (nat_lit 1) (fun x => ((fl (0 :
      Nat)).1, PUnit.unit)) (nat_lit 0) (nat_lit 0)]] (nat_lit 182))), (nat_lit 0, some (Blk.cells [.lit (.int .i64 C)] (nat_lit 3))), (nat_lit 1, some (Blk.cells [.lit (.int .i64 x),
      .lit (.int .i64 y)] (nat_lit 103)))]))))) := by kernel_rfl
set_option maxRecDepth 100000 in
theorem t_A3 (K : Cons) (fd : Nat → DE) (fl : Nat → R1) (i : Nat) (p x y C : Int) : (sxR EA [] 4 #[26, 27] asA bdA [.int .i64 p, .agg #[.int .i64 x, .int .i64 y]] (mkS 38 [1,2,3,4,5] (slA fd fl), memA K i (.fn (.func 227) [] [rpD fun _ => fd 0, rpL fun _ => (nv fl 0, ())]) C)).bind (fun r => .ret (r.1, r.2.2)) =
    T.ask (C ≠ (0 : Int)) (.ask (lk OcAsk (3 : Int) ((fun x => fd (0 : Nat)) (0 : Nat)) (lk nv (fun x => ((fl (0 : Nat)).1, PUnit.unit)) (nat_lit 0)) (U.quo .i64 p C) x y) (.ask (YldAsk
      EA.P K.5 K i [.int .i64 p, .int .i64 (lk owC (fd (nat_lit 0)) (lk nv (fun x => ((fl (0 : Nat)).1, PUnit.unit)) (nat_lit 0)) (U.quo .i64 p C) x y)]) (.br (K.4 i) (.ret (Ex.normal,
      [(nat_lit 1, some (Blk.seq true K (i.add (nat_lit 1)))), (nat_lit 0, some (Blk.cells [.lit (Value.func (Fn.yield K.5) { toList := [] } { toList := [] })] (nat_lit 44))), (nat_lit 0,
      some (Blk.cells [SV.fn (Fn.func (nat_lit 227)) [] [SV.rptr [.sl [.int .i64, .int .i64, .int .i64], .int .i64, .int .i64, .int .i64] (nat_lit 1) (fun x => fd (nat_lit 0)) (nat_lit 0)
      (nat_lit 0), SV.rptr [.int .i64] (nat_lit 1) (fun x => ((fl (0 : Nat)).1, PUnit.unit)) (nat_lit 0) (nat_lit 0)]] (nat_lit 182))), (nat_lit 0, some (Blk.cells [.lit (.int .i64 C)]
      (nat_lit 3))), (nat_lit 1, some (Blk.cells [.lit (.int .i64 x), .lit (.int .i64 y)] (nat_lit 103)))])) (.ret (Ex.ret, [(nat_lit 1, some (Blk.seq false K (i.add (nat_lit 1)))),
      (nat_lit 0, some (Blk.cells [.lit (Value.func (Fn.yield K.5) { toList := [] } { toList := [] })] (nat_lit 44))), (nat_lit 0, some (Blk.cells [SV.fn (Fn.func (nat_lit 227)) []
      [SV.rptr [.sl [.int .i64, .int .i64, .int .i64], .int .i64, .int .i64, .int .i64] (nat_lit 1) (fun x => fd (nat_lit 0)) (nat_lit 0) (nat_lit 0), SV.rptr [.int .i64] (nat_lit 1) (fun
      x => ((fl (0 : Nat)).1, PUnit.unit)) (nat_lit 0) (nat_lit 0)]] (nat_lit 182))), (nat_lit 0, some (Blk.cells [.lit (.int .i64 C)] (nat_lit 3))), (nat_lit 1, some (Blk.cells [.lit
      (.int .i64 x), .lit (.int .i64 y)] (nat_lit 103)))]))))) := by kernel_rfl
set_option maxRecDepth 100000 in
theorem t_A4 (K : Cons) (fd : Nat → DE) (fl : Nat → R1) (i : Nat) (p x y C : Int) : (sxR EA [] 4 #[26, 27] asA bdA [.int .i64 p, .agg #[.int .i64 x, .int .i64 y]] (mkS 38 [1,2,3,4,5] (slA fd fl), memA K i (.fn (.func 228) [] [rpD fun _ => fd 0, rpL fun _ => (nv fl 0, ())]) C)).bind (fun r => .ret (r.1, r.2.2)) =
    T.ask (C ≠ (0 : Int)) (.ask (lk OcAsk (4 : Int) ((fun x => fd (0 : Nat)) (0 : Nat)) (lk nv (fun x => ((fl (0 : Nat)).1, PUnit.unit)) (nat_lit 0)) (U.quo .i64 p C) x y) (.ask (YldAsk
      EA.P K.5 K i [.int .i64 p, .int .i64 (lk owC (fd (nat_lit 0)) (lk nv (fun x => ((fl (0 : Nat)).1, PUnit.unit)) (nat_lit 0)) (U.quo .i64 p C) x y)]) (.br (K.4 i) (.ret (Ex.normal,
      [(nat_lit 1, some (Blk.seq true K (i.add (nat_lit 1)))), (nat_lit 0, some (Blk.cells [.lit (Value.func (Fn.yield K.5) { toList := [] } { toList := [] })] (nat_lit 44))), (nat_lit 0,
      some (Blk.cells [SV.fn (Fn.func (nat_lit 228)) [] [SV.rptr [.sl [.int .i64, .int .i64, .int .i64], .int .i64, .int .i64, .int .i64] (nat_lit 1) (fun x => fd (nat_lit 0)) (nat_lit 0)
      (nat_lit 0), SV.rptr [.int .i64] (nat_lit 1) (fun x => ((fl (0 : Nat)).1, PUnit.unit)) (nat_lit 0) (nat_lit 0)]] (nat_lit 182))), (nat_lit 0, some (Blk.cells [.lit (.int .i64 C)]
      (nat_lit 3))), (nat_lit 1, some (Blk.cells [.lit (.int .i64 x), .lit (.int .i64 y)] (nat_lit 103)))])) (.ret (Ex.ret, [(nat_lit 1, some (Blk.seq false K (i.add (nat_lit 1)))),
      (nat_lit 0, some (Blk.cells [.lit (Value.func (Fn.yield K.5) { toList := [] } { toList := [] })] (nat_lit 44))), (nat_lit 0, some (Blk.cells [SV.fn (Fn.func (nat_lit 228)) []
      [SV.rptr [.sl [.int .i64, .int .i64, .int .i64], .int .i64, .int .i64, .int .i64] (nat_lit 1) (fun x => fd (nat_lit 0)) (nat_lit 0) (nat_lit 0), SV.rptr [.int .i64] (nat_lit 1) (fun
      x => ((fl (0 : Nat)).1, PUnit.unit)) (nat_lit 0) (nat_lit 0)]] (nat_lit 182))), (nat_lit 0, some (Blk.cells [.lit (.int .i64 C)] (nat_lit 3))), (nat_lit 1, some (Blk.cells [.lit
      (.int .i64 x), .lit (.int .i64 y)] (nat_lit 103)))]))))) := by kernel_rfl
end Go.RX.Span

/- Domain maps: all positions with their owners: the loop. -/
set_option linter.unusedVariables false
set_option linter.unusedSimpArgs false
set_option maxRecDepth 100000
namespace Go.RX.Span
open Go Go.RX
attribute [local irreducible] sx conB

section
variable {n : Nat} {f : Nat → R3} {k s h : Int}
theorem colN_pos (hc : chD n f k s h = 0) {p : Nat} (hp : p < szDn n f k s h) : 0 < colN n f ∧ colN n f ≤ 2000001 := by
  obtain ⟨d1, _⟩ := chD_zero.1 hc
  have hn := d1.1
  rw [szDn_right hc] at hp
  unfold colN
  by_cases h1 : n = 1
  · rw [if_pos h1]; omega
  · rw [if_neg h1] at hp ⊢
    have e1 := szN_R (d1.2 1 (by omega))
    have := rr_size (d1.2 1 (by omega))
    refine ⟨Nat.pos_of_ne_zero fun h0 => by rw [h0, Nat.mul_zero] at hp; omega, by omega⟩
theorem id_64 (hc : chD n f k s h = 0) {p : Nat} (hp : p < szDn n f k s h) : I64 (idX n f p) ∧ I64 (idY n f p) := by
  obtain ⟨d1, _⟩ := chD_zero.1 hc
  have hn := d1.1
  obtain ⟨_, h2, _⟩ := ix_all hc hp
  obtain ⟨_, _, g1, g2⟩ := hasD_has h2
  refine ⟨has_64 (d1.2 0 (by omega)) g1, ?_⟩
  by_cases h1 : n = 1
  · unfold idY; rw [if_pos h1]; unfold I64; omega
  · exact has_64 (d1.2 1 (by omega)) (g2 (by omega))
end
theorem dSz_bnd {d : DE} {L : Int} (hd : dDm d L = 0) : dSz d ≤ 5000000000000 := by
  have hc := (dmE_zero.1 hd).2.2.1
  have := (dr_prod (chD_zero.1 hc).1).2
  show szDn _ _ _ _ _ ≤ _
  unfold szDn
  rw [szD_right hc]; omega
theorem oc_of {d : DE} {L : Int} (hd : dDm d L = 0) {i : Nat} (hi : i < dSz d) :
    U.quo .i64 (i : Int) (dCol d) = ((i / colN d.1.1 d.1.2 : Nat) : Int) ∧ dCol d ≠ 0 ∧ OcAsk (dK d) d L ((i / colN d.1.1 d.1.2 : Nat) : Int) (idX d.1.1 d.1.2 i) (idY d.1.1 d.1.2 i) ∧ owC d L ((i / colN d.1.1 d.1.2 : Nat) : Int) (idX d.1.1 d.1.2 i) (idY d.1.1 d.1.2 i) = dOw d L i := by
  have hc := (dmE_zero.1 hd).2.2.1
  have hi : i < szDn d.1.1 d.1.2 d.2.1 d.2.2.1 d.2.2.2.1 := hi
  obtain ⟨c1, c2⟩ := colN_pos hc hi
  obtain ⟨r1, r2⟩ := row_lt hc hi
  obtain ⟨i1, i2⟩ := id_64 hc hi
  have hb : szDn d.1.1 d.1.2 d.2.1 d.2.2.1 d.2.2.2.1 ≤ 5000000000000 := dSz_bnd hd
  refine ⟨?_, ?_, ⟨hd, rfl, Int.natCast_nonneg _, r1, i1, i2⟩, rfl⟩
  · unfold dCol
    rw [quo_pos (Int.natCast_nonneg _) (by omega) (by omega)]
    exact (Int.ofNat_tdiv i (colN d.1.1 d.1.2)).symm
  · unfold dCol; omega
theorem ow_none {d : DE} {L q x y : Int} (h : dK d = 0) : owC d 0 q x y = owC d L q x y := (ow_0 h q _).trans (ow_0 h q _).symm
theorem ow_cyc {d : DE} {L q x y : Int} (h : dK d = 2) : U.rem q L = owC d L q x y := ow_2 h q _
theorem rl_ofV (ρ : Ren) (k : Int) (d : DE) (L : Int) : Rl ρ (ofV k d L) (ofV k d L) := by
  unfold ofV
  split
  · exact ⟨rfl, trivial, ⟨rfl, rfl, rfl, sameRowD⟩, trivial⟩
  split
  · exact ⟨rfl, trivial, ⟨rfl, rfl, rfl, row1H fun _ _ => rfl⟩, ⟨rfl, rfl, rfl, sameRowD⟩, trivial⟩
  split
  · exact ⟨rfl, trivial, ⟨rfl, rfl, rfl, row1H fun _ _ => rfl⟩, trivial⟩
  split
  · exact ⟨rfl, trivial, ⟨rfl, rfl, rfl, sameRowD⟩, ⟨rfl, rfl, rfl, row1H fun _ _ => rfl⟩, trivial⟩
  · exact ⟨rfl, trivial, ⟨rfl, rfl, rfl, sameRowD⟩, ⟨rfl, rfl, rfl, row1H fun _ _ => rfl⟩, trivial⟩
noncomputable abbrev mA (q : XA) (i : Nat) : Mem := memA q.K i (ofV (dK (q.fd 0)) (q.fd 0) (nv q.fl 0)) (dCol (q.fd 0))
def ZA (q : XA) (o : Ex × Few) : Prop := (okB q.K 0 q.c = true → o = (.normal, (slA q.fd q.fl, mA q q.c))) ∧ (okB q.K 0 q.c = false → o = (.ret, (slA q.fd q.fl, memA' q.K (lk stopA q.K 0 q.c + 1))))
def PhiA (n0 : Nat) (q : XA) : Prop := PreA n0 q.K (q.fd 0) (nv q.fl 0) q.c q.el
theorem ren4A {k : Nat} (hk : k ≤ 4) : ∀ b, b < k → Ren.of (idR 4) b = some b := renId hk
theorem slA_rl {ρ : Ren} (fd : Nat → DE) (fl : Nat → R1) (h1 : ρ.of 1 = some 1) (h2 : ρ.of 2 = some 2) (h3 : ρ.of 3 = some 3) : RlL ρ (slA fd fl) (slA fd fl) := ⟨⟨rfl, rfl, rfl, sameRowD⟩, ⟨rfl, rfl, rfl, row1H fun _ _ => rfl⟩, ⟨h1, rfl⟩, ⟨h2, rfl⟩, ⟨h3, rfl⟩, trivial⟩
/-- A round's end. -/
theorem endA {n0 : Nat} {q : XA} (hq : PhiA n0 q) {i : Nat} (hi : i < q.c) (hans : ∀ j, j < i → q.K.ans (0 + j) = true) {x y : Int} {g0 g1 g2 g3 g4 : Nat} {fv : SV} (hf : Rl (idR 4) fv (ofV (dK (q.fd 0)) (q.fd 0) (nv q.fl 0))) :
    (q.K.ans i = true → (∀ j, j < i + 1 → q.K.ans (0 + j) = true) ∧ Wk 38 [1,2,3,4,5] n0 (slA q.fd q.fl, [(g0, some (.seq true q.K (i + 1))), (g1, some (.cells [yieldV q.K] 44)), (g2, some (.cells [fv] 182)), (g3, some (.cells [.lit (.int .i64 (dCol (q.fd 0)))] 3)), (g4, some (.cells [.lit (.int .i64 x), .lit (.int .i64 y)] 103))]) (slA q.fd q.fl, mA q (i + 1))) ∧
    (q.K.ans i = false → ∃ s, ZA q (.ret, s) ∧ Wk 38 [1,2,3,4,5] n0 (slA q.fd q.fl, [(g0, some (.seq false q.K (i + 1))), (g1, some (.cells [yieldV q.K] 44)), (g2, some (.cells [fv] 182)), (g3, some (.cells [.lit (.int .i64 (dCol (q.fd 0)))] 3)), (g4, some (.cells [.lit (.int .i64 x), .lit (.int .i64 y)] 103))]) s) := by
  have h0 : n0 ≤ 4 := hq.1
  refine ⟨fun ha => ⟨fun j hj => ?_, ?_⟩, fun ha => ⟨(slA q.fd q.fl, memA' q.K (lk stopA q.K 0 q.c + 1)), ⟨fun h => ?_, fun _ => rfl⟩, ?_⟩⟩
  · rw [Nat.zero_add]
    by_cases e : j = i
    · subst e; exact ha
    · have := hans j (by omega); rwa [Nat.zero_add] at this
  · exact wk_of (idR 4) rfl h0 (ren4A h0) (slA_rl _ _ rfl rfl rfl) ⟨⟨rfl, rfl, rfl, rfl, rfl⟩, ⟨rfl, rfl, trivial⟩, ⟨rfl, hf, trivial⟩, ⟨rfl, rfl, trivial⟩, trivial⟩
  · rw [okB_f hi (by rw [Nat.zero_add]; exact ha)] at h; cases h
  · have hs0 : stopA q.K 0 q.c = i := stopA_eq hi (by rw [Nat.zero_add]; exact ha) hans
    exact wk_of (idR 4) rfl h0 (ren4A h0) (slA_rl _ _ rfl rfl rfl) ⟨⟨rfl, rfl, rfl, rfl, by rw [lk_eq, hs0]⟩, trivial⟩
theorem rangeA : RangeC P cdA (rfew 38 [1,2,3,4,5] gA) := by
  refine range_few (E := EA) (L := []) mixed (envOK (allOK mixed kA0_ok) 10) (g0 := .tmp 25) (ps := #[26, 27]) (assign := asA) (body := bdA) (by kernel_rfl) loopsOK_none loopsOK_none 38 [1,2,3,4,5] (by decide) (X := XA) gA
    (fun _ q => slA q.fd q.fl) (fun _ q i => mA q i) (fun q => q.c) (fun q => q.el) PhiA
    (fun _ q i => ∀ j, j < i → q.K.ans (0 + j) = true) (fun _ q o => ZA q o)
    (fun _ _ => rfl) ?_ ?_ ?_ ?_ ?_
  · intro m0 c0 el0 st r h
    unfold gA at h
    split at h
    · rename_i ss fd ss2 fl e0 K e1 l t1 e2 fv t2 e3 cv t3
      by_cases e : eqShs ss ssD = true ∧ eqShs ss2 ssL = true
      rotate_left
      · rw [dif_neg e] at h; exact h.elim
      rw [dif_pos e] at h
      have es := eqShs_eq _ _ e.1
      subst es
      have es2 := eqShs_eq _ _ e.2
      subst es2
      obtain ⟨hp, hfv, hcv, rfl, rfl, rfl, rfl⟩ := (T.is_ask h).1
      have hh := (T.is_ask h).2
      simp only [lk_eq] at hp hfv hcv hh
      have hfv : fv = ofV (dK (fd 0)) (fd 0) (nv fl 0) := hfv
      subst hfv
      have h0 : m0 ≤ 4 := hp.1
      have hcell : Rl (idR 4) cv (.lit (.int .i64 (dCol (fd 0)))) := by
        rcases hcv with rfl | ⟨rfl, hC⟩
        · exact rfl
        · show Value.int .i64 (dCol (fd 0)) = Value.int .i64 1
          exact congrArg _ hC
      have w : Wk 38 [1,2,3,4,5] m0 (slA fd fl, [(e0, some (.seq true K 0)), (e1, some (.cells [.lit (.func (.yield K.l) ⟨[]⟩ ⟨[]⟩)] 44)), (e2, some (.cells [ofV (dK (fd 0)) (fd 0) (nv fl 0)] 182)), (e3, some (.cells [cv] 3))]) (slA fd fl, mA ⟨K, fd, fl, c0, el0⟩ 0) :=
        wk_of (idR 4) rfl h0 (ren4A h0) (slA_rl _ _ rfl rfl rfl) ⟨⟨rfl, rfl, rfl, rfl, rfl⟩, ⟨rfl, rfl, trivial⟩, ⟨rfl, rl_ofV _ _ _ _, trivial⟩, ⟨rfl, hcell, trivial⟩, trivial⟩
      refine ⟨⟨K, fd, fl, c0, el0⟩, hp, rfl, rfl, w, fun j hj => absurd hj (Nat.not_lt_zero j), fun o ho => ?_⟩
      rcases hh with ⟨he, h⟩ | ⟨he, h⟩ <;> obtain rfl := T.is_ret h
      · exact ho.1 he
      · exact (ho.2 he).trans (by rw [lk_eq]; rfl)
    · exact h.elim
  · intro n0 q i hq hi
    have : q.el = elD _ _ := hq.2.2.2.2.1
    show (q.el i).length = 2
    rw [this]; rfl
  · intro n0 q i hq
    exact hq.1
  · intro n0 q i hq hi hans
    obtain ⟨K, fd, fl, c, el⟩ := q
    have hq' := hq
    obtain ⟨h0, hP, hd, hc, hel, hn, hK⟩ := hq'
    simp only [] at h0 hP hd hc hel hn hK hi
    have ex : el i = [.int .i64 (i : Int), .agg #[.int .i64 (idX (fd 0).1.1 (fd 0).1.2 i), .int .i64 (idY (fd 0).1.1 (fd 0).1.2 i)]] := by rw [hel]; unfold elD; rw [ixD_eq]; rfl
    have hi' : i < dSz (fd 0) := by omega
    obtain ⟨o1, o2, o3, o4⟩ := oc_of hd hi'
    have yk : ∀ v, v = dOw (fd 0) (nv fl 0) i → YldAsk P K.l K i [.int .i64 (i : Int), .int .i64 v] := fun v hv => ⟨hP, rfl, by omega, by rw [hK, hv]; rfl⟩
    have endA' := fun (fv : SV) (hf : fv = ofV (dK (fd 0)) (fd 0) (nv fl 0)) => endA (x := idX (fd 0).1.1 (fd 0).1.2 i) (y := idY (fd 0).1.1 (fd 0).1.2 i) (g0 := 1) (g1 := 0) (g2 := 0) (g3 := 0) (g4 := 1) (fv := fv) hq hi hans (by rw [hf]; exact rl_ofV _ _ _ _)
    have fit := fit_k (chD_zero.1 (dmE_zero.1 hd).2.2.1).2
    have fit : dK (fd 0) = 0 ∨ dK (fd 0) = 1 ∨ dK (fd 0) = 2 ∨ (dK (fd 0) = 3 ∧ _ ∧ _) ∨ dK (fd 0) = 4 := fit
    show ((sxR EA [] 4 #[26, 27] asA bdA (el i) (mkS 38 [1,2,3,4,5] (slA fd fl), memA K i (ofV (dK (fd 0)) (fd 0) (nv fl 0)) (dCol (fd 0)))).bind (fun r => .ret (r.1, r.2.2))).All _
    rw [ex]
    rcases fit with hk | hk | hk | ⟨hk, _⟩ | hk
    · have ev : ofV (dK (fd 0)) (fd 0) (nv fl 0) = .fn (.func 224) [] [rpD fun _ => fd 0] := by unfold ofV; rw [if_pos hk]
      obtain ⟨eN, eR⟩ := endA' _ ev.symm
      rw [ev]
      rw [t_A0]
      simp only [lk_eq, o1]
      exact ⟨o2, hk, yk _ ((ow_none hk).trans o4), eN, eR⟩
    · have ev : ofV (dK (fd 0)) (fd 0) (nv fl 0) = .fn (.func 225) [] [rpL fun _ => (nv fl 0, ()), rpD fun _ => fd 0] := by unfold ofV; rw [if_neg (by omega), if_pos hk]
      obtain ⟨eN, eR⟩ := endA' _ ev.symm
      rw [ev]
      rw [t_A1]
      simp only [lk_eq, o1]
      rw [hk] at o3
      exact ⟨o2, o3, yk _ o4, eN, eR⟩
    · have ev : ofV (dK (fd 0)) (fd 0) (nv fl 0) = .fn (.func 226) [] [rpL fun _ => (nv fl 0, ())] := by unfold ofV; rw [if_neg (by omega), if_neg (by omega), if_pos hk]
      obtain ⟨eN, eR⟩ := endA' _ ev.symm
      rw [ev]
      rw [t_A2]
      simp only [lk_eq, o1]
      exact ⟨o2, (by have := (dmE_zero.1 hd).1; show nv fl 0 ≠ 0; omega), yk _ ((ow_cyc hk).trans o4), eN, eR⟩
    · have ev : ofV (dK (fd 0)) (fd 0) (nv fl 0) = .fn (.func 227) [] [rpD fun _ => fd 0, rpL fun _ => (nv fl 0, ())] := by unfold ofV; rw [if_neg (by omega), if_neg (by omega), if_neg (by omega), if_pos hk]
      obtain ⟨eN, eR⟩ := endA' _ ev.symm
      rw [ev]
      rw [t_A3]
      simp only [lk_eq, o1]
      rw [hk] at o3
      exact ⟨o2, o3, yk _ o4, eN, eR⟩
    · have ev : ofV (dK (fd 0)) (fd 0) (nv fl 0) = .fn (.func 228) [] [rpD fun _ => fd 0, rpL fun _ => (nv fl 0, ())] := by unfold ofV; rw [if_neg (by omega), if_neg (by omega), if_neg (by omega), if_neg (by omega)]
      obtain ⟨eN, eR⟩ := endA' _ ev.symm
      rw [ev]
      rw [t_A4]
      simp only [lk_eq, o1]
      rw [hk] at o3
      exact ⟨o2, o3, yk _ o4, eN, eR⟩
  · intro n0 q hq hans
    have h0 : n0 ≤ 4 := hq.1
    have hall := okB_t.2 hans
    exact ⟨_, ⟨fun _ => rfl, fun h => absurd (hall.symm.trans h) (by decide)⟩, wk_of (idR 4) rfl h0 (ren4A h0) (slA_rl _ _ rfl rfl rfl) ⟨⟨rfl, rfl, rfl, rfl, rfl⟩, ⟨rfl, rfl, trivial⟩, ⟨rfl, rl_ofV _ _ _ _, trivial⟩, ⟨rfl, rfl, trivial⟩, trivial⟩⟩
end Go.RX.Span

/- Domain maps: all positions with their owners: what is yielded. -/
set_option linter.unusedVariables false
set_option linter.unusedSimpArgs false
set_option maxRecDepth 100000
namespace Go.RX.Span
open Go Go.RX
attribute [local irreducible] sx conB

noncomputable abbrev lA : List (Nat × Loops) := [(223, [(1006, .rng 209 sc209 (rfew 38 [1,2,3,4,5] gA))])] --%K
theorem lA_ok : ∀ p ∈ lA, LoopsOK P p.2 (bodyOf P p.1) := by
  intro p hp
  simp only [lA, List.mem_singleton] at hp
  subst hp
  refine loopsOK_ofR (by kernel_rfl) (by kernel_rfl) (fun k g hk => by simp at hk) fun k gf sc g hk => ?_
  simp only [List.mem_singleton, Prod.mk.injEq, LoopC.rng.injEq] at hk
  obtain ⟨rfl, rfl, rfl, rfl⟩ := hk
  exact ⟨sc209_ok, rangeA⟩
def DmAsk (d : DE) (L : Int) : Prop := dDm d L = 0
noncomputable def sc223 : SCon := fun args => match args with
  | [.rptr [.sl [.int .i64, .int .i64, .int .i64], .int .i64, .int .i64, .int .i64] 1 fd 0 0, .rptr [.int .i64] 1 fl 0 0] => .ask (lk DmAsk (fd 0) (lk nv fl 0)) (.ret (lk dSz (fd 0), lk elA (fd 0) (lk nv fl 0)))
  | _ => .stuck 1
noncomputable def c_all2 : Con := fun args => match args with
  | [.agg [.row [.int .i64, .int .i64, .int .i64] n f, .lit (.int .i64 k), .lit (.int .i64 s), .lit (.int .i64 h)], .lit (.int .i64 L)] => .ret (.fn (.func 223) [] [rpD fun _ => ((n, f), k, s, h, ()), rpL fun _ => (L, ())])
  | _ => .stuck 1
set_option maxRecDepth 100000 in
theorem t_all2 (n : Nat) (f : Nat → R3) (k s h L : Int) : conB Go.Proofs.Try.prog (conOf []) noLoops 10 187 [.agg [.row [.int .i64, .int .i64, .int .i64] n f, .lit (.int .i64 k), .lit (.int .i64 s), .lit (.int .i64 h)], .lit (.int .i64 L)] =
    T.ret (SV.fn (Fn.func (nat_lit 223)) [] [SV.rptr [.sl [.int .i64, .int .i64, .int .i64], .int .i64, .int .i64, .int .i64] (nat_lit 1) (fun x => ((n, f), k, s, h, PUnit.unit))
      (nat_lit 0) (nat_lit 0), SV.rptr [.int .i64] (nat_lit 1) (fun x => (L, PUnit.unit)) (nat_lit 0) (nat_lit 0)]) := by kernel_rfl
theorem all2_ok : ConOK P 187 c_all2 := con_of (allOK mixed none_ok) 10 187 fun args r h => by
  unfold c_all2 at h
  split at h
  · rename_i n f k s h' L
    obtain rfl := T.is_ret h
    rw [t_all2]
    rfl
  · exact h.elim
end Go.RX.Span

/- Domain maps: all positions with their owners: the iterator yields what is said. -/
set_option linter.unusedVariables false
set_option linter.unusedSimpArgs false
set_option maxRecDepth 100000
namespace Go.RX.Span
open Go Go.RX
attribute [local irreducible] sx conB

noncomputable abbrev dSz' (d : DE) : Nat := lk szDn d.1.1 d.1.2 d.2.1 d.2.2.1 d.2.2.2.1
/-- The walk behind the choice of the function. -/
noncomputable def tlA (K : Cons) (fd : Nat → DE) (fl : Nat → R1) (fv cv : SV) (g3 : Nat) : T (SV × Mem) :=
  .ask (Row64 (fd 0).1.1 (fd 0).1.2) (.ask (lk PreA 1 K (fd 0) (lk nv fl 0) (dSz' (fd 0)) (lk elD (fd 0).1.1 (fd 0).1.2) ∧ fv = ofV (dK (fd 0)) (fd 0) (lk nv fl 0) ∧ ColOk cv (lk dCol (fd 0)) ∧ K.l = K.l ∧ 44 = 44 ∧ 182 = 182 ∧ 3 = 3)
    (.br (lk okB K 0 (dSz' (fd 0))) (.ret (.tup [], [(1, some (.seq true K (dSz' (fd 0)))), (1, some (.cells [yieldV K] 44)), (2, some (.cells [fv] 182)), (g3, some (.cells [.lit (.int .i64 (lk dCol (fd 0)))] 3))]))
      (.ret (.tup [], [(1, some (.seq false K (lk stopA K 0 (dSz' (fd 0)) + 1))), (1, none), (2, none), (g3, none)]))))
noncomputable def brA (K : Cons) (fd : Nat → DE) (fl : Nat → R1) (fv : SV) : T (SV × Mem) :=
  .br (U.gt (Int.ofNat (fd 0).1.1) 1) (.ask ((0 : Int) ≤ 1 ∧ (1 : Int) < ((fd 0).1.1 : Int)) (.ask (I64 ((fd 0).1.2 (U.toNat 1)).1 ∧ I64 ((fd 0).1.2 (U.toNat 1)).2.1 ∧ I64 ((fd 0).1.2 (U.toNat 1)).2.2.1)
    (tlA K fd fl fv (.lit (.int .i64 (lk size ((fd 0).1.2 (U.toNat 1)).1 ((fd 0).1.2 (U.toNat 1)).2.1 ((fd 0).1.2 (U.toNat 1)).2.2.1))) 3))) (tlA K fd fl fv (.ki .i64 1) 2)
theorem t_223 (K : Cons) (fd : Nat → DE) (fl : Nat → R1) : scall P (conOf kA0) (loopsOf lA) 10 223 [yieldV K, rpD fd, rpL fl] [(0, some (.seq true K 0))] =
    .br (U.eq (dK (fd 0)) 0) (brA K fd fl (.fn (.func 224) [] [rpD fun _ => fd 0])) (.br (U.eq (dK (fd 0)) 1) (brA K fd fl (.fn (.func 225) [] [rpL fun _ => (nv fl 0, ()), rpD fun _ =>
      fd 0])) (.br (U.eq (dK (fd 0)) 2) (brA K fd fl (.fn (.func 226) [] [rpL fun _ => (nv fl 0, ())])) (.br (U.eq (dK (fd 0)) 3) (brA K fd fl (.fn (.func 227) [] [rpD fun _ => fd 0, rpL
      fun _ => (nv fl 0, ())])) (.br (U.eq (dK (fd 0)) 4) (brA K fd fl (.fn (.func 228) [] [rpD fun _ => fd 0, rpL fun _ => (nv fl 0, ())])) (.stuck 41))))) := by kernel_rfl
theorem tl_all {K : Cons} {fd : Nat → DE} {fl : Nat → R1} {fv cv : SV} {g3 : Nat} (hd : dDm (fd 0) (nv fl 0) = 0) (hK : K.P = P) (hn : K.n = dSz (fd 0)) (hel : K.el = elA (fd 0) (nv fl 0)) (hf : fv = ofV (dK (fd 0)) (fd 0) (nv fl 0)) (hc : ColOk cv (dCol (fd 0))) :
    (tlA K fd fl fv cv g3).All fun p => SeqEnd K p.2 := by
  have h64 : Row64 (fd 0).1.1 (fd 0).1.2 := dr_64 (chD_zero.1 (dmE_zero.1 hd).2.2.1).1
  unfold tlA
  simp only [dSz', lk_eq]
  exact ⟨h64, ⟨⟨by decide, hK, hd, rfl, rfl, hn, hel⟩, hf, hc, trivial, trivial, trivial, trivial⟩, fun _ => .inl (by rw [hn]; rfl), fun _ => .inr ⟨_, rfl⟩⟩
theorem br_all {K : Cons} {fd : Nat → DE} {fl : Nat → R1} {fv : SV} (hd : dDm (fd 0) (nv fl 0) = 0) (hK : K.P = P) (hn : K.n = dSz (fd 0)) (hel : K.el = elA (fd 0) (nv fl 0)) (hf : fv = ofV (dK (fd 0)) (fd 0) (nv fl 0)) :
    (brA K fd fl fv).All fun p => SeqEnd K p.2 := by
  obtain ⟨d1, _⟩ := chD_zero.1 (dmE_zero.1 hd).2.2.1
  have hdn : dN (fd 0) = 1 ∨ dN (fd 0) = 2 := d1.1
  unfold brA
  have t1 : U.toNat (1 : Int) = 1 := tn 1
  simp only [lk_eq, t1]
  refine ⟨fun g => ?_, fun g => tl_all hd hK hn hel hf (.inr ⟨rfl, ?_⟩)⟩
  · have g : (1 : Int) < ((dN (fd 0) : Nat) : Int) := U.gt_t.mp g
    refine ⟨⟨by decide, g⟩, dr_64 d1 1 (show 1 < dN (fd 0) by omega), tl_all hd hK hn hel hf (.inl ?_)⟩
    have hr := d1.2 1 (show 1 < dN (fd 0) by omega)
    have e := szN_R hr
    have ec : dCol (fd 0) = szR ((fd 0).1.2 1) := by
      show ((colN (fd 0).1.1 (fd 0).1.2 : Nat) : Int) = _
      have : ¬ dN (fd 0) = 1 := by omega
      exact (congrArg (fun v : Nat => (v : Int)) (if_neg this)).trans e
    exact congrArg (fun v => SV.lit (.int .i64 v)) ec.symm
  · have g : ((dN (fd 0) : Nat) : Int) ≤ 1 := U.gt_f.mp g
    show ((colN (fd 0).1.1 (fd 0).1.2 : Nat) : Int) = 1
    have : dN (fd 0) = 1 := by omega
    exact congrArg (fun v : Nat => (v : Int)) (if_pos this)
theorem sc223_ok : SConOK P 223 sc223 := scon_of (allOKL mixed kA0_ok lA_ok) 10 223 fun args q h K hK hn hel => by
  unfold sc223 at h
  split at h
  · rename_i fd fl
    have hd : dDm (fd 0) (nv fl 0) = 0 := by have := (T.is_ask h).1; simp only [lk_eq] at this; exact this
    obtain rfl := T.is_ret (T.is_ask h).2
    simp only [lk_eq] at hn hel
    refine T.all_of_eq (t_223 K fd fl) ?_
    have fit := fit_k (chD_zero.1 (dmE_zero.1 hd).2.2.1).2
    have fit : dK (fd 0) = 0 ∨ dK (fd 0) = 1 ∨ dK (fd 0) = 2 ∨ (dK (fd 0) = 3 ∧ _ ∧ _) ∨ dK (fd 0) = 4 := fit
    refine ⟨fun g => br_all hd hK hn hel ?_, fun g0 => ⟨fun g => br_all hd hK hn hel ?_, fun g1 => ⟨fun g => br_all hd hK hn hel ?_, fun g2 => ⟨fun g => br_all hd hK hn hel ?_, fun g3 => ⟨fun g => br_all hd hK hn hel ?_, fun g4 => ?_⟩⟩⟩⟩⟩
    · have g := U.eq_t.mp g; unfold ofV; rw [if_pos g]
    · have g := U.eq_t.mp g; unfold ofV; rw [if_neg (by omega), if_pos g]
    · have g := U.eq_t.mp g; unfold ofV; rw [if_neg (by omega), if_neg (by omega), if_pos g]
    · have g := U.eq_t.mp g; unfold ofV; rw [if_neg (by omega), if_neg (by omega), if_neg (by omega), if_pos g]
    · have g := U.eq_t.mp g; unfold ofV; rw [if_neg (by omega), if_neg (by omega), if_neg (by omega), if_neg (by omega)]
    · have a0 := U.eq_f.mp g0; have a1 := U.eq_f.mp g1; have a2 := U.eq_f.mp g2; have a3 := U.eq_f.mp g3; have a4 := U.eq_f.mp g4
      omega
  · exact h.elim
end Go.RX.Span

/- Domain maps: the local parts of all locales: the states. -/
set_option linter.unusedVariables false
set_option linter.unusedSimpArgs false
set_option maxRecDepth 100000
namespace Go.RX.Span
open Go Go.RX
attribute [local irreducible] sx conB

abbrev NF := Nat → Bool × Nat × (Nat → R1)
noncomputable abbrev cdPt : Code := rangeOf P 131 1003 --%K
noncomputable abbrev asPt : Code := match rangeOf P 131 1003 with | .rangeFunc _ _ a _ => a | _ => .skip --%K
noncomputable abbrev bdPt : Code := match rangeOf P 131 1003 with | .rangeFunc _ _ _ b => b | _ => .skip --%K
noncomputable abbrev EPt : Env := ⟨P, conOf [], scall P (conOf []) noLoops 10⟩
noncomputable abbrev memPt (N : Nat) (F : NF) : Mem := [(0, none), (0, some (.nest N [.int .i64] F none 35 3)), (0, some (.cells [.own false 1 N] 134))]
/-- The positions of a locale among the first so many. -/
def pkL (ow : Nat → Int) (i : Nat) (l : Int) : List Nat := (List.range i).filter fun p => decide (ow p = l)
noncomputable def nFd (d : DE) (L : Int) (i : Nat) : NF := fun l => (decide (pkL (dOw d L) i l = []), (pkL (dOw d L) i l).length, rowN (pkL (dOw d L) i l))
/-- The local parts, as rows. -/
noncomputable def paF (d : DE) (L : Int) (l : Nat) : Els [.sl [.int .i64]] := (((partL d.1.1 d.1.2 d.2.1 d.2.2.1 d.2.2.2.1 L l).length, rowN (partL d.1.1 d.1.2 d.2.1 d.2.2.1 d.2.2.2.1 L l)), ())
def PrePt (n0 : Nat) (d : DE) (L : Int) (c : Nat) (el : Nat → List Value) (N : Nat) (F : NF) : Prop := n0 ≤ 3 ∧ dDm d L = 0 ∧ c = dSz d ∧ el = elA d L ∧ N = U.toNat L ∧ c ≤ 5000 ∧ ∀ l, l < N → (F l).1 = true ∧ (F l).2.1 = 0
noncomputable def gPt : Nat → Nat → (Nat → List Value) → Few → T (Ex × Few)
  | n0, c, el, ([.lit (.int .i64 L), .ptr 2 0], [(_, some (.cells [.row [.int .i64, .int .i64, .int .i64] n f, .lit (.int .i64 k), .lit (.int .i64 s), .lit (.int .i64 h)] t0)), (_, some (.nest N [.int .i64] F none t1 t2)), (_, some (.cells [.own false 1 N'] t3))]) =>
    .ask (lk PrePt n0 ((n, f), k, s, h, ()) L c el N F ∧ N' = N ∧ t0 = 49 ∧ t1 = 35 ∧ t2 = 3 ∧ t3 = 134) (.ret (.normal, ([.lit (.int .i64 L), .ptr 2 0], memPt N (lk nFd ((n, f), k, s, h, ()) L c))))
  | _, _, _, _ => .stuck 1
structure XPt where
  (d : DE) (L : Int) (c : Nat) (el : Nat → List Value) (N : Nat) (F : NF)
end Go.RX.Span

/- Domain maps: the local parts of all locales: the walk. -/
set_option linter.unusedVariables false
set_option linter.unusedSimpArgs false
set_option maxRecDepth 100000
namespace Go.RX.Span
open Go Go.RX
attribute [local irreducible] sx conB

set_option maxRecDepth 100000 in
theorem t_Pt (N : Nat) (F : NF) (L p l : Int) : (sxR EPt [] 3 #[13, 14] asPt bdPt [.int .i64 p, .int .i64 l] (mkS 26 [1, 5] [.lit (.int .i64 L), .ptr 2 0], memPt N F)).bind (fun r => .ret (r.1, unf r.2.2)) =
    T.ask ((0 : Int) ≤ l ∧ l < ↑N) (.ask (U.toNat l < N) (.ask (((F (U.toNat l)).2.1 + (1 : Nat)) * nat_lit 8 ≤ nat_lit 140737488351232) (.ask ((0 : Int) ≤ l ∧ l < ↑N) (.ask (U.toNat l
      = U.toNat l) (.ret (Ex.normal, [(nat_lit 0, none), (nat_lit 3, some (Blk.nest N [.int .i64] (U.upd F (U.toNat l) (false, (F (U.toNat l)).2.1.add (nat_lit 1), U.cat (F (U.toNat
      l)).2.1 (F (U.toNat l)).snd.2 fun x => (p, PUnit.unit))) none (nat_lit 35) (nat_lit 3))), (nat_lit 0, some (Blk.cells [SV.own false (nat_lit 1) N] (nat_lit 134))), (nat_lit 1,
      none), (nat_lit 0, some (Blk.cells [.lit (.int .i64 p)] (nat_lit 3))), (nat_lit 1, none)])))))) := by kernel_rfl
theorem pk_s (ow : Nat → Int) (i : Nat) (l : Int) : pkL ow (i + 1) l = pkL ow i l ++ (if ow i = l then [i] else []) := by
  unfold pkL
  rw [List.range_succ, List.filter_append]
  by_cases h : ow i = l <;> simp [h]
theorem pk_len (ow : Nat → Int) (i : Nat) (l : Int) : (pkL ow i l).length ≤ i := Nat.le_trans (List.length_filter_le _ _) (by simp)
def oneR (x : Int) : R1 := (x, ())
theorem rowN_app (l : List Nat) (p : Nat) (x : Int) (hx : x = (p : Int)) : ∀ i, i < l.length + 1 → U.cat l.length (rowN l) (fun _ => oneR x) i = rowN (l ++ [p]) i := fun i hi => by
  refine (U.cat_eq _ _ _ _).trans ?_
  subst hx
  by_cases h : i < l.length
  · rw [if_pos h]; unfold rowN
    rw [List.getD_eq_getElem?_getD, List.getD_eq_getElem?_getD, List.getElem?_append_left h]
  · rw [if_neg h]
    obtain rfl : i = l.length := by omega
    unfold rowN
    rw [List.getD_eq_getElem?_getD, List.getElem?_append_right (Nat.le_refl _), Nat.sub_self]; rfl
theorem nat64 {x : Int} (h : 0 ≤ x) : ((U.toNat x : Nat) : Int) = x := by rw [U.toNat_eq]; omega
theorem rangePt : RangeC P cdPt (rfewN 26 [1, 5] gPt) := by
  refine range_fewN (E := EPt) (L := []) mixed (envOK (allOK mixed none_ok) 10) (g0 := .tmp 12) (ps := #[13, 14]) (assign := asPt) (body := bdPt) (by kernel_rfl) loopsOK_none loopsOK_none 26 [1, 5] (by decide) (X := XPt) gPt
    (fun _ q => [.lit (.int .i64 q.L), .ptr 2 0]) (fun _ q i => memPt q.N (nFd q.d q.L i)) (fun q => q.c) (fun q => q.el) (fun n0 q => PrePt n0 q.d q.L q.c q.el q.N q.F)
    (fun _ _ _ => True) (fun _ q o => o = (.normal, ([.lit (.int .i64 q.L), .ptr 2 0], memPt q.N (nFd q.d q.L q.c))))
    (fun _ _ => rfl) ?_ ?_ ?_ ?_ ?_
  · intro m0 c0 el0 st r h
    unfold gPt at h
    split at h
    · rename_i L e0 n f k s h' t0 e1 N F t1 t2 e2 N' t3
      obtain ⟨hp, rfl, rfl, rfl, rfl, rfl⟩ := (T.is_ask h).1
      obtain rfl := T.is_ret (T.is_ask h).2
      rw [lk_eq] at hp
      have h0 : m0 ≤ 3 := hp.1
      refine ⟨⟨((n, f), k, s, h', ()), L, c0, el0, N', F⟩, hp, rfl, rfl, ?_, trivial, fun o ho => by rw [ho]; simp only [lk_eq]⟩
      refine wk_of (idR 3) rfl h0 (renId h0) ⟨rfl, ⟨rfl, rfl⟩, trivial⟩ ⟨⟨rfl, rfl, rfl, rfl, eqShs_refl _, fun i hi => ?_⟩, ⟨rfl, ⟨rfl, rfl, rfl⟩, trivial⟩, trivial⟩
      obtain ⟨a1, a2⟩ := hp.2.2.2.2.2.2 i hi
      exact ⟨a1, a2, eqShs_refl _, fun j hj => absurd hj (Nat.not_lt_zero j)⟩
    · exact h.elim
  · intro n0 q i hq hi
    have : q.el = elA _ _ := hq.2.2.2.1
    show (q.el i).length = 2
    rw [this]; rfl
  · intro n0 q i hq
    exact hq.1
  · intro n0 q i hq hi _
    obtain ⟨d, L, c, el, N, F⟩ := q
    obtain ⟨h0, hd, hc, hel, hN, h5, _⟩ := hq
    simp only [] at h0 hd hc hel hN h5 hi
    subst hel hN
    obtain ⟨l1, l8, hch, _⟩ := dmE_zero.1 hd
    obtain ⟨o1, o2⟩ := owP_bnd (L := L) hd (show i < szDn d.1.1 d.1.2 d.2.1 d.2.2.1 d.2.2.2.1 from (by omega : i < dSz d))
    have o1 : 0 ≤ dOw d L i := o1
    have o2 : dOw d L i < L := o2
    have eo := nat64 o1
    have eL := nat64 (show 0 ≤ L by omega)
    have lp := pk_len (dOw d L) i ((U.toNat (dOw d L i) : Nat) : Int)
    refine T.all_of_eq (t_Pt (U.toNat L) (nFd d L i) L (i : Int) (dOw d L i)) ?_
    refine ⟨⟨o1, by omega⟩, by omega, ?_, ⟨o1, by omega⟩, rfl, trivial, ?_⟩
    · show ((pkL (dOw d L) i ((U.toNat (dOw d L i) : Nat) : Int)).length + 1) * 8 ≤ 140737488351232
      omega
    · refine wk_of (idR 3) rfl h0 (renId h0) ⟨rfl, ⟨rfl, rfl⟩, trivial⟩ ⟨⟨rfl, rfl, rfl, rfl, eqShs_refl _, fun j hj => ?_⟩, ⟨rfl, ⟨rfl, rfl, rfl⟩, trivial⟩, trivial⟩
      by_cases e : j = U.toNat (dOw d L i)
      · have eu : ∀ v, U.upd (nFd d L i) (U.toNat (dOw d L i)) v j = v := fun v => (U.upd_eq _ _ _ _).trans (if_pos e)
        have ep : pkL (dOw d L) (i + 1) (j : Int) = pkL (dOw d L) i (j : Int) ++ [i] := by rw [pk_s, if_pos (by rw [e, eo])]
        rw [eu]
        subst e
        refine ⟨?_, ?_, eqShs_refl _, fun x hx => ?_⟩
        · show false = decide (pkL (dOw d L) (i + 1) _ = [])
          rw [ep]; simp
        · show (pkL (dOw d L) i _).length + 1 = (pkL (dOw d L) (i + 1) _).length
          rw [ep, List.length_append]; rfl
        · have hx : x < (pkL (dOw d L) (i + 1) ((U.toNat (dOw d L i) : Nat) : Int)).length := hx
          rw [ep, List.length_append] at hx
          have := rowN_app (pkL (dOw d L) i ((U.toNat (dOw d L i) : Nat) : Int)) i (i : Int) rfl x hx
          rw [← ep] at this
          exact this
      · have eu : ∀ v, U.upd (nFd d L i) (U.toNat (dOw d L i)) v j = nFd d L i j := fun v => (U.upd_eq _ _ _ _).trans (if_neg e)
        have ep : pkL (dOw d L) (i + 1) (j : Int) = pkL (dOw d L) i (j : Int) := by rw [pk_s, if_neg (by omega), List.append_nil]
        rw [eu]
        have en : nFd d L (i + 1) j = nFd d L i j := by unfold nFd; rw [ep]
        rw [en]
        exact ⟨rfl, rfl, eqShs_refl _, fun x hx => rfl⟩
  · intro n0 q hq _
    have h0 : n0 ≤ 3 := hq.1
    exact ⟨_, rfl, wk_of (idR 3) rfl h0 (renId h0) ⟨rfl, ⟨rfl, rfl⟩, trivial⟩ ⟨⟨rfl, rfl, rfl, rfl, eqShs_refl _, fun j hj => ⟨rfl, rfl, eqShs_refl _, fun x hx => rfl⟩⟩, ⟨rfl, ⟨rfl, rfl, rfl⟩, trivial⟩, trivial⟩⟩
end Go.RX.Span

/- Domain maps: the local parts of all locales; Part. -/
set_option linter.unusedVariables false
set_option linter.unusedSimpArgs false
set_option maxRecDepth 100000
namespace Go.RX.Span
open Go Go.RX
attribute [local irreducible] sx conB

noncomputable abbrev lPt : List (Nat × Loops) := [(131, [(1003, .rng 223 sc223 (rfewN 26 [1, 5] gPt))])] --%K
theorem lPt_ok : ∀ p ∈ lPt, LoopsOK P p.2 (bodyOf P p.1) := by
  intro p hp
  simp only [lPt, List.mem_singleton] at hp
  subst hp
  refine loopsOK_ofR (by kernel_rfl) (by kernel_rfl) (fun k g hk => by simp at hk) fun k gf sc g hk => ?_
  simp only [List.mem_singleton, Prod.mk.injEq, LoopC.rng.injEq] at hk
  obtain ⟨rfl, rfl, rfl, rfl⟩ := hk
  exact ⟨sc223_ok, rangePt⟩
noncomputable abbrev kPt : List (Nat × Con) := [(187, c_all2)] --%K
theorem kPt_ok : ∀ p ∈ kPt, ConOK P p.1 p.2 := by
  intro p hp
  simp only [kPt, List.mem_singleton] at hp
  subst hp
  exact all2_ok
def PaAsk (n : Nat) (f : Nat → R3) (k s h L : Int) : Prop := dmE n f k s h L = 0 ∧ szDn n f k s h ≤ 5000
noncomputable def c_parts : Con := fun args => match args with
  | [.agg [.row [.int .i64, .int .i64, .int .i64] n f, .lit (.int .i64 k), .lit (.int .i64 s), .lit (.int .i64 h)], .lit (.int .i64 L)] => .ask (lk PaAsk n f k s h L) (.ret (.row [.sl [.int .i64]] (U.toNat L) (lk paF ((n, f), k, s, h, ()) L)))
  | _ => .stuck 1
set_option maxRecDepth 100000 in
theorem t_parts (n : Nat) (f : Nat → R3) (k s h L : Int) : conB Go.Proofs.Try.prog (conOf kPt) (loopsOf lPt) 10 131 [.agg [.row [.int .i64, .int .i64, .int .i64] n f, .lit (.int .i64 k), .lit (.int .i64 s), .lit (.int .i64 h)], .lit (.int .i64 L)] =
    T.ask ((0 : Int) ≤ L ∧ L ≤ L ∧ ↑(nat_lit 24) * L ≤ (281474976710656 : Int) ∧ L ≤ (140737488351232 : Int)) (.ask (lk DmAsk ((fun x => ((n, f), k, s, h, ())) (0 : Nat)) (lk nv (fun x
      => (L, PUnit.unit)) (nat_lit 0))) (.ask ((lk PrePt (nat_lit 0) ((n, f), k, s, h, ()) L (lk dSz ((n, f), k, s, h, PUnit.unit)) (lk dSz ((n, f), k, s, h, PUnit.unit), lk elA ((fun x
      => ((n, f), k, s, h, ())) (0 : Nat)) (lk nv (fun x => (L, PUnit.unit)) (nat_lit 0))).snd (U.toNat L) fun x => (true, (0 : Nat), fun x => zeroEs [.int .i64])) ∧ U.toNat L = U.toNat L
      ∧ (49 : Nat) = (49 : TypeId) ∧ (35 : Nat) = (35 : TypeId) ∧ (3 : Nat) = (3 : TypeId) ∧ (134 : Nat) = (134 : TypeId)) (.ret (.row [.sl [.int .i64]] (U.toNat L) fun i => (((lk nFd
      ((n, f), k, s, h, ()) L (lk dSz ((fun x => ((n, f), k, s, h, ())) (0 : Nat)), lk elA ((fun x => ((n, f), k, s, h, ())) (0 : Nat)) (lk nv (fun x => (L, ())) (0 : Nat))).fst i).2.1,
      (lk nFd ((n, f), k, s, h, ()) L (lk dSz ((fun x => ((n, f), k, s, h, ())) (0 : Nat)), lk elA ((fun x => ((n, f), k, s, h, ())) (0 : Nat)) (lk nv (fun x => (L, ())) (0 : Nat))).fst
      i).snd.2), PUnit.unit))))) := by kernel_rfl
theorem parts_ok : ConOK P 131 c_parts := con_cl (allOKL mixed kPt_ok lPt_ok) 10 131 fun args r hh => by
  unfold c_parts at hh
  split at hh
  · rename_i n f k s h L
    obtain ⟨hd, h5⟩ := (lk_eq PaAsk ▸ (T.is_ask hh).1 : PaAsk n f k s h L)
    obtain rfl := T.is_ret (T.is_ask hh).2
    obtain ⟨l1, l8, _⟩ := dmE_zero.1 hd
    refine T.all_of_eq (t_parts n f k s h L) ?_
    simp only [lk_eq]
    refine ⟨⟨by omega, by omega, ?_, by omega⟩, hd, ⟨⟨by decide, hd, rfl, rfl, rfl, h5, fun l hl => ⟨rfl, rfl⟩⟩, trivial, trivial, trivial, trivial, trivial⟩, rfl, eqShs_refl _, fun i hi => rfl⟩
    show (24 : Int) * L ≤ 281474976710656
    omega
  · exact hh.elim
end Go.RX.Span

/- Domain maps: Part, the awake's contracts. -/
set_option linter.unusedVariables false
set_option linter.unusedSimpArgs false
set_option maxRecDepth 100000
namespace Go.RX.Span
open Go Go.RX
attribute [local irreducible] sx conB

/-- The part of a locale, as a row; its length. -/
noncomputable def ptE (n : Nat) (f : Nat → R3) (k s h L l : Int) : Int := lcE n f k s h L l
noncomputable def ptN (n : Nat) (f : Nat → R3) (k s h L l : Int) : Nat := if lcE n f k s h L l ≠ 0 then 0 else (partL n f k s h L l).length
noncomputable def ptF (n : Nat) (f : Nat → R3) (k s h L l : Int) : Nat → R1 := rowN (partL n f k s h L l)
noncomputable def c_Part : Con := fun args => match args with
  | [.agg [.row [.int .i64, .int .i64, .int .i64] n f, .lit (.int .i64 k), .lit (.int .i64 s), .lit (.int .i64 h)], .lit (.int .i64 L), .lit (.int .i64 l)] => .ask (Row64 n f) (.ret (.tup [.row [.int .i64] (lk ptN n f k s h L l) (lk ptF n f k s h L l), .lit (.int .i64 (lk ptE n f k s h L l))]))
  | _ => .stuck 1
noncomputable abbrev kPp : List (Nat × Con) := [(134, c_located), (129, c_listed), (131, c_parts)] --%K
theorem kPp_ok : ∀ p ∈ kPp, ConOK P p.1 p.2 := by
  intro p hp
  simp only [kPp, List.mem_cons, List.not_mem_nil, or_false] at hp
  rcases hp with rfl | rfl | rfl
  · exact located_ok
  · exact listed_ok
  · exact parts_ok
end Go.RX.Span

/- Domain maps: Part. -/
set_option linter.unusedVariables false
set_option linter.unusedSimpArgs false
set_option maxRecDepth 100000
namespace Go.RX.Span
open Go Go.RX
attribute [local irreducible] sx conB

set_option maxRecDepth 100000 in
theorem t_Part (n : Nat) (f : Nat → R3) (k s h L l : Int) : conB Go.Proofs.Try.prog (conOf kPp) noLoops 10 47 [.agg [.row [.int .i64, .int .i64, .int .i64] n f, .lit (.int .i64 k), .lit (.int .i64 s), .lit (.int .i64 h)], .lit (.int .i64 L), .lit (.int .i64 l)] =
    T.ask (Row64 n f) (.br (U.ne (lk lcE n f k s h L l) (0 : Int)) (.ret (.tup [.lit (.slice none (nat_lit 0) (nat_lit 0)), .lit (.int .i64 (lk lcE n f k s h L l))])) (.ask (lk PaAsk n
      f k s h L) (.ask ((0 : Int) ≤ l ∧ l < ↑(U.toNat L)) (.ret (.tup [.row [.int .i64] (lk paF ((n, f), k, s, h, ()) L (U.toNat l)).fst.1 (lk paF ((n, f), k, s, h, ()) L (U.toNat
      l)).fst.2, .lit (.int .i64 0)]))))) := by kernel_rfl
section
variable {n : Nat} {f : Nat → R3} {k s h L l : Int}
theorem lsE_zero : lsE n f k s h L = 0 ↔ dmE n f k s h L = 0 ∧ szD n f k s h ≤ 5000 := by
  unfold lsE
  by_cases h1 : dmE n f k s h L = 0
  · rw [if_neg (by simp [h1])]
    by_cases h2 : 5000 < szD n f k s h
    · rw [if_pos h2]; exact ⟨fun g => by omega, fun g => by omega⟩
    · rw [if_neg h2]; exact ⟨fun _ => ⟨h1, by omega⟩, fun _ => rfl⟩
  · rw [if_pos h1]; exact ⟨fun g => absurd g h1, fun g => absurd g.1 h1⟩
theorem lcE_zero : lcE n f k s h L l = 0 ↔ lsE n f k s h L = 0 ∧ 0 ≤ l ∧ l < L := by
  unfold lcE
  by_cases h1 : lsE n f k s h L = 0
  · rw [if_neg (by simp [h1])]
    by_cases h2 : l < 0 ∨ L ≤ l
    · rw [if_pos h2]; exact ⟨fun g => by omega, fun g => by omega⟩
    · rw [if_neg h2]; exact ⟨fun _ => ⟨h1, by omega⟩, fun _ => rfl⟩
  · rw [if_pos h1]; exact ⟨fun g => absurd g h1, fun g => absurd g.1 h1⟩
theorem pa_ask (h0 : lsE n f k s h L = 0) : PaAsk n f k s h L := by
  obtain ⟨h1, h2⟩ := lsE_zero.1 h0
  refine ⟨h1, ?_⟩
  unfold szDn; omega
end
theorem Part_ok : ConOK P 47 c_Part := con_cl (allOK mixed kPp_ok) 10 47 fun args r hh => by
  unfold c_Part at hh
  split at hh
  · rename_i n f k s h L l
    have d := (T.is_ask hh).1
    obtain rfl := T.is_ret (T.is_ask hh).2
    refine T.all_of_eq (t_Part n f k s h L l) ?_
    simp only [lk_eq]
    refine ⟨d, fun g => ?_, fun g => ?_⟩
    · have g := U.ne_t.mp g
      have e : ptN n f k s h L l = 0 := by unfold ptN; rw [if_pos g]
      rw [e]
      exact ⟨cl_nil, .inl rfl, rfl⟩
    · have g := U.ne_f.mp g
      obtain ⟨g1, g2, g3⟩ := lcE_zero.1 g
      have e : ptN n f k s h L l = (partL n f k s h L l).length := by unfold ptN; rw [if_neg (by simp [g])]
      have el := nat64 g2
      have eL := nat64 (show 0 ≤ L by omega)
      rw [e]
      refine ⟨pa_ask g1, ⟨g2, by omega⟩, ⟨?_, eqShs_refl _, fun i hi => ?_⟩, .inl (congrArg (fun v => SV.lit (.int .i64 v)) g), rfl⟩
      · show (partL n f k s h L ((U.toNat l : Nat) : Int)).length = _
        rw [el]
      · show rowN (partL n f k s h L ((U.toNat l : Nat) : Int)) i = rowN (partL n f k s h L l) i
        rw [el]
  · exact hh.elim
end Go.RX.Span

/- Domain maps: the example of the laws: contracts. -/
set_option linter.unusedVariables false
set_option linter.unusedSimpArgs false
set_option maxRecDepth 100000
namespace Go.RX.Span
open Go Go.RX
attribute [local irreducible] sx conB

noncomputable abbrev kW0 : List (Nat × Con) := [(47, c_Part), (53, c_Hash), (30, c_Equal)] --%K
theorem kW0_ok : ∀ p ∈ kW0, ConOK P p.1 p.2 := by
  intro p hp
  simp only [kW0, List.mem_cons, List.not_mem_nil, or_false] at hp
  rcases hp with rfl | rfl | rfl
  · exact Part_ok
  · exact Hash_ok
  · exact Equal_ok
end Go.RX.Span

/- Domain maps: the example of the laws. -/
set_option linter.unusedVariables false
set_option linter.unusedSimpArgs false
set_option maxRecDepth 100000
namespace Go.RX.Span
open Go Go.RX
attribute [local irreducible] sx conB

def exD : Nat → R3 := fun _ => ((0 : Int), (9 : Int), (1 : Int), ())
def ex5 : Nat → R1 := fun _ => oneR 5
def exL : List R1 := [oneR 0, oneR 1, oneR 8, oneR 9]
theorem t_awake5 : (conB P (conOf kW0) noLoops 10 42 []).force [true, true] = .ask (Row64 1 exD) (.ask (U.eq (lk ptE 1 exD 3 2 0 4 0) 0 = true) (.ask (lk ptN 1 exD 3 2 0 4 0 ≤ 9223372036854775807)
    (.ask (lk eqR (lk ptN 1 exD 3 2 0 4 0) (lk ptF 1 exD 3 2 0 4 0) 4 (U.nth exL (oneR 0)) = true) (.ask (1 ≤ 1000000 ∧ I64s 1 ex5) (.ret (.lit (.bool (U.eq (lk hashN ex5 1) 222)))))))) := by kernel_rfl
theorem exPt : ptE 1 exD 3 2 0 4 0 = 0 := by decide +kernel
theorem exPl : partL 1 exD 3 2 0 4 0 = [0, 1, 8, 9] := by decide +kernel
theorem exH : hashN ex5 1 = 222 := by decide +kernel
theorem awake5_ok : ConOK P 42 c_true := con_force (allOK mixed kW0_ok) 10 42 fun args r h => by
  unfold c_true at h
  split at h
  · obtain rfl := T.is_ret h
    have eN : ptN 1 exD 3 2 0 4 0 = 4 := by unfold ptN; rw [if_neg (by have : lcE 1 exD 3 2 0 4 0 = 0 := exPt; simp [this]), exPl]; rfl
    refine ⟨_, T.all_of_eq t_awake5 ?_⟩
    simp only [lk_eq]
    refine ⟨fun i hi => (show I64 0 ∧ I64 9 ∧ I64 1 by unfold I64; omega), U.eq_t.mpr exPt, by rw [eN]; decide, eqR_t.2 ⟨eN, fun i hi => ?_⟩, ⟨by decide, fun i hi => (show I64 5 by unfold I64; omega)⟩, .inl ?_⟩
    · rw [eN] at hi
      show (rowN (partL 1 exD 3 2 0 4 0) i).1 = (U.nth exL (oneR 0) i).1
      rw [exPl, U.nth_eq]
      rcases (show i = 0 ∨ i = 1 ∨ i = 2 ∨ i = 3 by omega) with rfl | rfl | rfl | rfl <;> rfl
    · rw [U.eq_t.mpr exH]
  · exact h.elim
end Go.RX.Span

/- Domain maps: Counts, the least and the greatest of a list: the states. -/
set_option linter.unusedVariables false
set_option linter.unusedSimpArgs false
set_option maxRecDepth 100000
namespace Go.RX.Span
open Go Go.RX
attribute [local irreducible] sx conB

abbrev RL := Els [.sl [.int .i64]]
/-- The lengths of lists. -/
def lenL (F : Nat → RL) (i : Nat) : Int := (((F i).1.1 : Nat) : Int)
def lenF (F : Nat → RL) (i : Nat) : R1 := oneR (lenL F i)
noncomputable abbrev slMp (n : Nat) (F : Nat → RL) (u : Bool) (j : Nat) (i : Int) : List SV := [.fn (.func 132) [] [], .own u 0 j, .row [.sl [.int .i64]] n F, .lit (.int .i64 (n : Int)), .lit (.int .i64 i)]
noncomputable abbrev memMp (F : Nat → RL) (u : Bool) (j : Nat) (G : Nat → R1) : Mem := [(0, some (.row u j [.int .i64] G 3))]
noncomputable def gMp : Nat → Few → T (Ex × Few)
  | n0, ([.fn (.func 132) [] [], .lit (.slice none 0 0), .row [.sl [.int .i64]] n F, .lit (.int .i64 N'), .ki .i64 0], []) =>
    .ask (n0 = 0 ∧ n ≤ 100000 ∧ N' = (n : Int)) (.ret (.exit 0, (slMp n F (U.isz n) n (n : Int), memMp F (U.isz n) n (lk lenF F))))
  | _, _ => .stuck 1
noncomputable def c_mapped : Con := fun args => match args with
  | [.row [.sl [.int .i64]] n F, .fn (.func 132) [] []] => .ask (n ≤ 100000) (.ret (.row [.int .i64] n (lk lenF F)))
  | _ => .stuck 1
noncomputable abbrev lMp : List (Nat × Loops) := [(130, [(3, .sum (few 22 [1,5,8,9,10] gMp))])] --%K
/-- The greatest and the least of the first so many numbers. -/
def mmN (b : Bool) (e : Nat → R1) : Nat → Int
  | 0 => nv e 0
  | j + 1 => if b = true then max (mmN b e j) (nv e j) else min (mmN b e j) (nv e j)
noncomputable def ctN (n : Nat) (f : Nat → R3) (k s h L : Int) : Nat := if lsE n f k s h L ≠ 0 then 0 else U.toNat L
noncomputable def ctF (n : Nat) (f : Nat → R3) (k s h L : Int) (l : Nat) : R1 := oneR (((partL n f k s h L l).length : Nat) : Int)
noncomputable def c_Counts : Con := fun args => match args with
  | [.agg [.row [.int .i64, .int .i64, .int .i64] n f, .lit (.int .i64 k), .lit (.int .i64 s), .lit (.int .i64 h)], .lit (.int .i64 L)] => .ask (Row64 n f) (.ret (.tup [.row [.int .i64] (lk ctN n f k s h L) (lk ctF n f k s h L), .lit (.int .i64 (lk lsE n f k s h L))]))
  | _ => .stuck 1
noncomputable def fewB (n : Nat) (f : Nat → R3) (k s h : Int) (w : Int) : Bool := decide (n ≤ 10 ∧ (szD n f k s h ≤ w ∨ 5000 < szD n f k s h))
noncomputable def c_Few : Con := fun args => match args with
  | [.agg [.row [.int .i64, .int .i64, .int .i64] n f, .lit (.int .i64 k), .lit (.int .i64 s), .lit (.int .i64 h)], .lit (.int .i64 w)] => .ask (Row64 n f) (.ret (.lit (.bool (lk fewB n f k s h w))))
  | _ => .stuck 1
end Go.RX.Span

/- Domain maps: Counts, the least and the greatest of a list: the walks. -/
set_option linter.unusedVariables false
set_option linter.unusedSimpArgs false
set_option maxRecDepth 100000
namespace Go.RX.Span
open Go Go.RX
attribute [local irreducible] sx conB

--%R ↑n = ↑n => ((n : Nat) : Int) = ((n : Nat) : Int)
set_option maxRecDepth 100000 in
theorem t_Mp (n : Nat) (F : Nat → RL) (u : Bool) (j : Nat) (i : Int) (G : Nat → R1) : (sx E0 [] 0 (loopOf P 130 3) (mkS 22 [1,5,8,9,10] (slMp n F u j i), memMp F u j G)).bind (proj 22 [1,5,8,9,10]) =
    T.br (U.lt i (Int.ofNat n)) (.ask ((0 : Int) ≤ i ∧ i < ↑n) (.ask ((j + (1 : Nat)) * nat_lit 8 ≤ nat_lit 140737488351232) (.ret (Ex.normal, [SV.fn (Fn.func (nat_lit 132)) [] [],
      SV.own false (nat_lit 2) (j.add (nat_lit 1)), .row [.sl [.int .i64]] n F, .lit (.int .i64 (Int.ofNat n)), .lit (.int .i64 (U.add .i64 i (1 : Int)))], [(nat_lit 1, none), (nat_lit 0,
      some (Blk.cells [.lit (.int .i64 (Int.ofNat (F (U.toNat i)).fst.1))] (nat_lit 3))), (nat_lit 0, some (Blk.row false (j.add (nat_lit 1)) [.int .i64] (U.cat j G fun x => (Int.ofNat (F
      (U.toNat i)).fst.1, PUnit.unit)) (nat_lit 3)))])))) (.ret (Ex.exit (nat_lit 0), [SV.fn (Fn.func (nat_lit 132)) [] [], SV.own u (nat_lit 0) j, .row [.sl [.int .i64]] n F, .lit (.int
      .i64 (Int.ofNat n)), .lit (.int .i64 i)], [(nat_lit 0, some (Blk.row u j [.int .i64] G (nat_lit 3)))])) := by kernel_rfl
set_option maxRecDepth 100000 in
theorem t_mapped (n : Nat) (F : Nat → RL) : conB Go.Proofs.Try.prog (conOf []) (loopsOf lMp) 10 130 [.row [.sl [.int .i64]] n F, .fn (.func 132) [] []] =
    T.ask (nat_lit 0 = (0 : Nat) ∧ n ≤ (100000 : Nat) ∧ ((n : Nat) : Int) = ((n : Nat) : Int)) (.ret (.row [.int .i64] n (lk lenF F))) := by kernel_rfl
set_option maxRecDepth 100000 in
theorem t_Few (n : Nat) (f : Nat → R3) (k s h w : Int) : conB Go.Proofs.Try.prog (conOf kQ0) noLoops 10 39 [.agg [.row [.int .i64, .int .i64, .int .i64] n f, .lit (.int .i64 k), .lit (.int .i64 s), .lit (.int .i64 h)], .lit (.int .i64 w)] =
    T.ask (Row64 n f) (.br (U.le (Int.ofNat n) (10 : Int)) (.br (U.le (lk szD n f k s h) w) (.ret (.lit (.bool true))) (.ret (.lit (.bool (U.gt (lk szD n f k s h) (5000 : Int))))))
      (.ret (.lit (.bool false)))) := by kernel_rfl
set_option maxRecDepth 100000 in
theorem t_Counts (n : Nat) (f : Nat → R3) (k s h L : Int) : conB Go.Proofs.Try.prog (conOf ((130, c_mapped) :: kPp)) noLoops 10 43 [.agg [.row [.int .i64, .int .i64, .int .i64] n f, .lit (.int .i64 k), .lit (.int .i64 s), .lit (.int .i64 h)], .lit (.int .i64 L)] =
    T.ask (Row64 n f) (.br (U.ne (lk lsE n f k s h L) (0 : Int)) (.ret (.tup [.lit (.slice none (nat_lit 0) (nat_lit 0)), .lit (.int .i64 (lk lsE n f k s h L))])) (.ask (lk PaAsk n f k
      s h L) (.ask (U.toNat L ≤ (100000 : Nat)) (.ret (.tup [.row [.int .i64] (U.toNat L) (lk lenF (lk paF ((n, f), k, s, h, PUnit.unit) L)), .lit (.int .i64 0)]))))) := by kernel_rfl
end Go.RX.Span

/- Domain maps: Counts, the least and the greatest of a list: the contracts. -/
set_option linter.unusedVariables false
set_option linter.unusedSimpArgs false
set_option maxRecDepth 100000
namespace Go.RX.Span
open Go Go.RX
attribute [local irreducible] sx conB

structure XMp where
  (n : Nat) (F : Nat → RL) (j : Nat)
noncomputable abbrev VMp (q : XMp) : Few := (slMp q.n q.F (U.isz q.j) q.j (q.j : Int), memMp q.F (U.isz q.j) q.j (lenF q.F))
noncomputable def OMp (q : XMp) : Ex × Few := (.exit 0, VMp { q with j := q.n })
def PhiMp (n0 : Nat) (q : XMp) : Prop := n0 = 0 ∧ q.n ≤ 100000 ∧ q.j ≤ q.n
theorem rowRL {n : Nat} {f g : Nat → RL} (h : ∀ i, i < n → f i = g i) : sameRow n f g := ⟨eqShs_refl _, fun i hi => h i hi⟩
theorem ren1z (ρ : Ren) : ∀ b, b < 0 → ρ.of b = some b := fun b hb => absurd hb (Nat.not_lt_zero b)
theorem isz_s (j : Nat) : U.isz (j + 1) = false := by rw [U.isz_eq]; simp
theorem roundMp (n0 : Nat) (q : XMp) (hq : PhiMp n0 q) : ((sx E0 [] n0 (loopOf P 130 3) (mkS 22 [1,5,8,9,10] (VMp q).1, (VMp q).2)).bind (proj 22 [1,5,8,9,10])).All fun r => match r.1 with
      | .normal => ∃ q', PhiMp n0 q' ∧ q'.n - q'.j < q.n - q.j ∧ Wk 22 [1,5,8,9,10] n0 r.2 (VMp q') ∧ ∀ o, o = OMp q' → o = OMp q
      | e => ∃ s, (e, s) = OMp q ∧ Wk 22 [1,5,8,9,10] n0 r.2 s := by
  obtain ⟨n, F, j⟩ := q
  obtain ⟨h0, hn, hj⟩ := hq
  simp only [] at h0 hn hj
  subst h0
  refine T.all_of_eq (t_Mp n F (U.isz j) j (j : Int) (lenF F)) ?_
  have e2 : U.add .i64 (j : Int) 1 = ((j + 1 : Nat) : Int) := by rw [U.add64 (by unfold I64; omega)]; omega
  simp only [tnH, e2]
  by_cases hlt : j < n
  · refine ⟨fun _ => ⟨⟨by omega, by omega⟩, ?_, ⟨n, F, j + 1⟩, ⟨rfl, hn, by simp only []; omega⟩, by simp only []; omega, ?_, fun o ho => ho⟩, fun h => absurd (U.lt_f.mp h) (by simp only [Int.ofNat_eq_natCast]; omega)⟩
    · show (j + 1) * 8 ≤ 140737488351232
      omega
    · refine wk_of [some 2] rfl (Nat.zero_le _) (ren1z _) ⟨⟨rfl, trivial, trivial⟩, ⟨(isz_s j).symm, rfl, rfl⟩, ⟨rfl, rowRL fun _ _ => rfl⟩, rfl, rfl, trivial⟩ ⟨⟨rfl, (isz_s j).symm, rfl, row1H fun i hi => ?_⟩, trivial⟩
      refine (U.cat_eq _ _ _ _).trans ?_
      by_cases hi' : i < j
      · exact if_pos hi'
      · have hi : i < j + 1 := hi
        obtain rfl : i = j := by omega
        exact if_neg hi'
  · obtain rfl : j = n := by omega
    refine ⟨fun h => absurd (U.lt_t.mp h) (by simp only [Int.ofNat_eq_natCast]; omega), fun _ => ⟨_, rfl, ?_⟩⟩
    exact wk_of [some 0] rfl (Nat.zero_le _) (ren1z _) ⟨⟨rfl, trivial, trivial⟩, ⟨rfl, rfl, rfl⟩, ⟨rfl, rowRL fun _ _ => rfl⟩, rfl, rfl, trivial⟩ ⟨⟨rfl, rfl, rfl, row1H fun _ _ => rfl⟩, trivial⟩
theorem loopMp : LoopOK P (loopOf P 130 3) (few 22 [1,5,8,9,10] gMp) :=
  loop_few (E := E0) mixed E0_ok loopsOK_none 22 [1,5,8,9,10] (X := XMp) gMp (fun _ x => VMp x) PhiMp (fun q => q.n - q.j) (fun _ x o => o = OMp x)
    (fun n0 st r h => by
      unfold gMp at h
      split at h
      · rename_i n0 n F N'
        obtain ⟨h0, hn, rfl⟩ := (T.is_ask h).1
        obtain rfl := T.is_ret (T.is_ask h).2
        subst h0
        have z0 : U.isz 0 = true := by rw [U.isz_eq]; rfl
        exact ⟨⟨n, F, 0⟩, ⟨rfl, hn, Nat.zero_le _⟩, wk_of [none] rfl (Nat.zero_le _) (ren1z _) ⟨⟨rfl, trivial, trivial⟩, ⟨rfl, z0, rfl⟩, ⟨rfl, rowRL fun _ _ => rfl⟩, rfl, rfl, trivial⟩ ⟨⟨z0, rfl⟩, trivial⟩, fun o ho => by rw [ho]; simp only [lk_eq]; rfl⟩
      · exact h.elim)
    roundMp
theorem lMp_ok : ∀ p ∈ lMp, LoopsOK P p.2 (bodyOf P p.1) := by
  intro p hp
  simp only [lMp, List.mem_singleton] at hp
  subst hp
  refine loopsOK_of (by kernel_rfl) fun k g hk => ?_
  simp only [List.mem_singleton, Prod.mk.injEq, LoopC.sum.injEq] at hk
  obtain ⟨rfl, rfl⟩ := hk
  exact loopMp
theorem mapped_ok : ConOK P 130 c_mapped := con_of (allOKL mixed none_ok lMp_ok) 10 130 fun args r h => by
  unfold c_mapped at h
  split at h
  · rename_i n F
    have hn := (T.is_ask h).1
    obtain rfl := T.is_ret (T.is_ask h).2
    rw [t_mapped]
    exact ⟨⟨rfl, hn, rfl⟩, rfl⟩
  · exact h.elim
theorem Few_ok : ConOK P 39 c_Few := con_of (allOK mixed kQ0_ok) 10 39 fun args r h => by
  unfold c_Few at h
  split at h
  · rename_i n f k s h' w
    have d := (T.is_ask h).1
    obtain rfl := T.is_ret (T.is_ask h).2
    refine T.all_of_eq (t_Few n f k s h' w) ?_
    simp only [lk_eq]
    have key : ∀ x, x = fewB n f k s h' w → SV.lit (.bool x) = SV.lit (.bool (fewB n f k s h' w)) := fun x hx => by rw [hx]
    refine ⟨d, fun g => ⟨fun g2 => key _ ?_, fun g2 => key _ ?_⟩, fun g => key _ ?_⟩
    · have a := U.le_t.mp g; have b := U.le_t.mp g2
      simp only [Int.ofNat_eq_natCast] at a
      exact (decide_eq_true ⟨by omega, .inl b⟩).symm
    · have a := U.le_t.mp g; have b := U.le_f.mp g2
      simp only [Int.ofNat_eq_natCast] at a
      unfold fewB
      rw [Bool.eq_iff_iff, U.gt_t, decide_eq_true_eq]
      constructor
      · intro c; exact ⟨by omega, .inr c⟩
      · rintro ⟨_, c | c⟩ <;> omega
    · have a := U.le_f.mp g
      simp only [Int.ofNat_eq_natCast] at a
      exact (decide_eq_false fun c => by omega).symm
  · exact h.elim
noncomputable abbrev kCt : List (Nat × Con) := (130, c_mapped) :: kPp
theorem kCt_ok : ∀ p ∈ kCt, ConOK P p.1 p.2 := by
  intro p hp
  simp only [kCt, List.mem_cons] at hp
  rcases hp with rfl | hp
  · exact mapped_ok
  · exact kPp_ok p (by simpa [kPp] using hp)
theorem Counts_ok : ConOK P 43 c_Counts := con_cl (allOK mixed kCt_ok) 10 43 fun args r hh => by
  unfold c_Counts at hh
  split at hh
  · rename_i n f k s h L
    have d := (T.is_ask hh).1
    obtain rfl := T.is_ret (T.is_ask hh).2
    refine T.all_of_eq (t_Counts n f k s h L) ?_
    simp only [lk_eq]
    refine ⟨d, fun g => ?_, fun g => ?_⟩
    · have g := U.ne_t.mp g
      have e : ctN n f k s h L = 0 := by unfold ctN; rw [if_pos g]
      rw [e]
      exact ⟨cl_nil, .inl rfl, rfl⟩
    · have g := U.ne_f.mp g
      have e : ctN n f k s h L = U.toNat L := by unfold ctN; rw [if_neg (by simp [g])]
      obtain ⟨l1, l8, _⟩ := dmE_zero.1 (lsE_zero.1 g).1
      have eL := nat64 (show 0 ≤ L by omega)
      rw [e]
      exact ⟨pa_ask g, by omega, ⟨rfl, row1H fun i hi => rfl⟩, .inl (congrArg (fun v => SV.lit (.int .i64 v)) g), rfl⟩
  · exact hh.elim
end Go.RX.Span

/- Domain maps: Global, Local: plain; BinarySearch: its loop. -/
set_option linter.unusedVariables false
set_option linter.unusedSimpArgs false
set_option maxRecDepth 100000
namespace Go.RX.Span
open Go Go.RX
attribute [local irreducible] sx conB

section
variable (n : Nat) (f : Nat → R3) (k s h L : Int)
end
end Go.RX.Span

/- Domain maps: Global, Local, BinarySearch: the walks. -/
set_option linter.unusedVariables false
set_option linter.unusedSimpArgs false
set_option maxRecDepth 100000
namespace Go.RX.Span
open Go Go.RX
attribute [local irreducible] sx conB

--%R ↑n = ↑n => ((n : Nat) : Int) = ((n : Nat) : Int)
--%R ↑\((lk\s+bsI\s+n\s+e\s+x)\) => ((\1 : Nat) : Int)
end Go.RX.Span

/- Domain maps: Global, Local, BinarySearch: the contracts. -/
set_option linter.unusedVariables false
set_option linter.unusedSimpArgs false
set_option maxRecDepth 100000
namespace Go.RX.Span
open Go Go.RX
attribute [local irreducible] sx conB

end Go.RX.Span

/- Domain maps: Global, Local. -/
set_option linter.unusedVariables false
set_option linter.unusedSimpArgs false
set_option maxRecDepth 100000
namespace Go.RX.Span
open Go Go.RX
attribute [local irreducible] sx conB

section
variable {n : Nat} {f : Nat → R3} {k s h L : Int}
end
end Go.RX.Span

/- Domain maps: how many indices the locales have, in plain Lean. -/
set_option linter.unusedVariables false
set_option linter.unusedSimpArgs false
namespace Go.RX.Span
open Go Go.RX

section
variable {n : Nat} {f : Nat → R3} {k s h L : Int}
end
end Go.RX.Span

/- Domain maps: the law of balance. -/
set_option linter.unusedVariables false
set_option linter.unusedSimpArgs false
set_option maxRecDepth 100000
namespace Go.RX.Span
open Go Go.RX
attribute [local irreducible] sx conB

section
variable (n : Nat) (f : Nat → R3) (k s h L : Int)
noncomputable def hB (t : T SV) : T SV := .ask (Row64 n f) (.ask (U.not (lk fewB n f k s h 300) = false) (.ask (Row64 n f) (.ask (U.ne (lk dmE n f k s h L) 0 = false) (.ask (Row64 n f) (.ask (U.gt (lk szD n f k s h) 300 = false) (.ask (Row64 n f) (.ask (U.ne (lk lsE n f k s h L) 0 = false) (.ask (U.ne (Int.ofNat (lk ctN n f k s h L)) L = false) t))))))))
noncomputable def eB (b : Bool) (t : T SV) : T SV := .ask (U.ne k 0 = b) t
end
section
variable {n : Nat} {f : Nat → R3} {k s h L : Int} {K : SV → Prop} {t : T SV}
theorem szD_nn (hc : chD n f k s h = 0) : ((szDn n f k s h : Nat) : Int) = szD n f k s h := by
  have := (dr_prod (chD_zero.1 hc).1).1
  unfold szDn
  rw [szD_right hc]; omega
end
end Go.RX.Span

/- Domain maps: the law of inverses: plain facts, the loops' states. -/
set_option linter.unusedVariables false
set_option linter.unusedSimpArgs false
set_option maxRecDepth 100000
namespace Go.RX.Span
open Go Go.RX
attribute [local irreducible] sx conB

section
variable {n : Nat} {f : Nat → R3} {k s h L : Int}
end
noncomputable abbrev boxD (n : Nat) (f : Nat → R3) (k s h : Int) : Nat × Option Blk := (0, some (.cells [.row [.int .i64, .int .i64, .int .i64] n f, .lit (.int .i64 k), .lit (.int .i64 s), .lit (.int .i64 h)] 49))
end Go.RX.Span

/- Domain maps: the pieces: contracts of the small ones. -/
set_option linter.unusedVariables false
set_option linter.unusedSimpArgs false
set_option maxRecDepth 100000
namespace Go.RX.Span
open Go Go.RX
attribute [local irreducible] sx conB

end Go.RX.Span

/- Domain maps: the pieces: plain facts. -/
set_option linter.unusedVariables false
set_option linter.unusedSimpArgs false
set_option maxRecDepth 100000
namespace Go.RX.Span
open Go Go.RX
attribute [local irreducible] sx conB

def cutN (len w c : Nat) : Nat := c * len / w
section
variable {F : Nat → RL} {w l : Nat}
end
end Go.RX.Span

/- Domain maps: Pieces: the loops' states. -/
set_option linter.unusedVariables false
set_option linter.unusedSimpArgs false
set_option maxRecDepth 100000
namespace Go.RX.Span
open Go Go.RX
attribute [local irreducible] sx conB

end Go.RX.Span

/- Domain maps: Pieces: the walks. -/
set_option linter.unusedVariables false
set_option linter.unusedSimpArgs false
set_option maxRecDepth 100000
namespace Go.RX.Span
open Go Go.RX
attribute [local irreducible] sx conB

--%R i < ↑FN => i < ((FN : Nat) : Int)
--%R ↑FN = ↑FN => ((FN : Nat) : Int) = ((FN : Nat) : Int)
--%R ≤ ↑pN => ≤ ((pN : Nat) : Int)
end Go.RX.Span

/- Domain maps: Pieces. -/
set_option linter.unusedVariables false
set_option linter.unusedSimpArgs false
set_option maxRecDepth 100000
namespace Go.RX.Span
open Go Go.RX
attribute [local irreducible] sx conB

theorem add1p {j : Nat} (h : j ≤ 1000000) : U.add .i64 (j : Int) 1 = ((j + 1 : Nat) : Int) := by rw [U.add64 (by unfold I64; omega)]; omega
section
variable {F : Nat → RL} {W I C : Nat}
end
section
variable (n : Nat) (f : Nat → R3) (k s h L w : Int)
end
end Go.RX.Span

/- Domain maps: the reference's checkLocale and part: the lists. -/
set_option linter.unusedVariables false
set_option linter.unusedSimpArgs false
set_option maxRecDepth 100000
namespace Go.RX.Span
open Go Go.RX
attribute [local irreducible] sx conB

noncomputable abbrev kQ2 : List (Nat × Con) := [(52, c_dmCheck), (87, c_DSize), (84, c_DNth), (137, c_qowner)] --%K
theorem kQ2_ok : ∀ p ∈ kQ2, ConOK P p.1 p.2 := by
  intro p hp
  simp only [kQ2, List.mem_cons, List.not_mem_nil, or_false] at hp
  rcases hp with rfl | rfl | rfl | rfl
  · exact qdmCheck_ok
  · exact kQ0_ok (87, c_DSize) (by simp [kQ0])
  · exact kQ0_ok (84, c_DNth) (by simp [kQ0])
  · exact qowner_ok
noncomputable abbrev EQ2 : Env := ⟨P, conOf kQ2, scall P (conOf kQ2) noLoops 10⟩
theorem EQ2_ok : EnvOK EQ2 := envOK (allOK mixed kQ2_ok) 10
end Go.RX.Span

/- Domain maps: the reference's part: the loop's states. -/
set_option linter.unusedVariables false
set_option linter.unusedSimpArgs false
set_option maxRecDepth 100000
namespace Go.RX.Span
open Go Go.RX
attribute [local irreducible] sx conB

noncomputable def plN (n : Nat) (f : Nat → R3) (k s h L l : Int) : Nat := (partL n f k s h L l).length
def PreQa (n0 n : Nat) (f : Nat → R3) (k s h L sz : Int) : Prop := n0 = 0 ∧ dmE n f k s h L = 0 ∧ szDn n f k s h ≤ 5000 ∧ sz = szD n f k s h
noncomputable abbrev slQa (L l : Int) (N : Nat) (sz i : Int) : List SV := [.lit (.int .i64 L), .lit (.int .i64 l), .ptr 0 0, .own false 1 N, .lit (.int .i64 sz), .lit (.int .i64 i)]
noncomputable abbrev memQa (n : Nat) (f : Nat → R3) (k s h : Int) (N : Nat) (G : Nat → R1) : Mem := [boxD n f k s h, (0, some (.row false N [.int .i64] G 3))]
noncomputable def gQa : Nat → Few → T (Ex × Few)
  | n0, ([.lit (.int .i64 L), .lit (.int .i64 l), .ptr 0 0, .own z b 0, .lit (.int .i64 sz), .ki .i64 0],
      [(_, some (.cells [.row [.int .i64, .int .i64, .int .i64] n f, .lit (.int .i64 k), .lit (.int .i64 s), .lit (.int .i64 h)] t0)), (_, some (.row z' 0 [.int .i64] G t1))]) =>
    .ask (lk PreQa n0 n f k s h L sz ∧ z = false ∧ b = 1 ∧ z' = false ∧ t0 = 49 ∧ t1 = 3)
      (.ret (.exit 0, (slQa L l (lk plN n f k s h L l) sz sz, memQa n f k s h (lk plN n f k s h L l) (lk ptF n f k s h L l))))
  | _, _ => .stuck 1
noncomputable abbrev lQa : List (Nat × Loops) := [(140, [(4, .sum (few 37 [1,2,3,7,8,9] gQa))])] --%K
noncomputable def c_part : Con := fun args => match args with
  | [.agg [.row [.int .i64, .int .i64, .int .i64] n f, .lit (.int .i64 k), .lit (.int .i64 s), .lit (.int .i64 h)], .lit (.int .i64 L), .lit (.int .i64 l)] => .ask (Row64 n f ∧ lk PaAsk n f k s h L) (.ret (.row [.int .i64] (lk plN n f k s h L l) (lk ptF n f k s h L l)))
  | _ => .stuck 1
end Go.RX.Span

/- Domain maps: the reference's checkLocale and part: the walks. -/
set_option linter.unusedVariables false
set_option linter.unusedSimpArgs false
set_option maxRecDepth 100000
namespace Go.RX.Span
open Go Go.RX
attribute [local irreducible] sx conB

set_option maxRecDepth 100000 in
theorem t_Qa (n : Nat) (f : Nat → R3) (k s h L l sz : Int) (N : Nat) (G : Nat → R1) (i : Int) : (sx EQ2 [] 0 (loopOf P 140 4) (mkS 37 [1,2,3,7,8,9] (slQa L l N sz i), memQa n f k s h N G)).bind (proj 37 [1,2,3,7,8,9]) =
    T.br (U.lt i sz) (.ask (Row64 n f ∧ I64 i) (.ask (lk QwAsk n f k s h L (lk dnN n f k s h i) (lk dnF n f i)) (.br (U.eq (lk owX n f k s h L (lk dnF n f i)) l) (.ask ((N + (1 : Nat))
      * nat_lit 8 ≤ nat_lit 140737488351232) (.ret (Ex.normal, [.lit (.int .i64 L), .lit (.int .i64 l), SV.ptr (nat_lit 0) (nat_lit 0), SV.own false (nat_lit 3) (N.add (nat_lit 1)), .lit
      (.int .i64 sz), .lit (.int .i64 (U.add .i64 i (1 : Int)))], [(nat_lit 0, some (Blk.cells [.row [.int .i64, .int .i64, .int .i64] n f, .lit (.int .i64 k), .lit (.int .i64 s), .lit
      (.int .i64 h)] (nat_lit 49))), (nat_lit 1, none), (nat_lit 0, some (Blk.cells [.lit (.int .i64 i)] (nat_lit 3))), (nat_lit 0, some (Blk.row false (N.add (nat_lit 1)) [.int .i64]
      (U.cat N G fun x => (i, PUnit.unit)) (nat_lit 3)))]))) (.ret (Ex.normal, [.lit (.int .i64 L), .lit (.int .i64 l), SV.ptr (nat_lit 0) (nat_lit 0), SV.own false (nat_lit 1) N, .lit
      (.int .i64 sz), .lit (.int .i64 (U.add .i64 i (1 : Int)))], [(nat_lit 0, some (Blk.cells [.row [.int .i64, .int .i64, .int .i64] n f, .lit (.int .i64 k), .lit (.int .i64 s), .lit
      (.int .i64 h)] (nat_lit 49))), (nat_lit 0, some (Blk.row false N [.int .i64] G (nat_lit 3)))]))))) (.ret (Ex.exit (nat_lit 0), [.lit (.int .i64 L), .lit (.int .i64 l), SV.ptr
      (nat_lit 0) (nat_lit 0), SV.own false (nat_lit 1) N, .lit (.int .i64 sz), .lit (.int .i64 i)], [(nat_lit 0, some (Blk.cells [.row [.int .i64, .int .i64, .int .i64] n f, .lit (.int
      .i64 k), .lit (.int .i64 s), .lit (.int .i64 h)] (nat_lit 49))), (nat_lit 0, some (Blk.row false N [.int .i64] G (nat_lit 3)))])) := by kernel_rfl
set_option maxRecDepth 100000 in
theorem t_part (n : Nat) (f : Nat → R3) (k s h L l : Int) : conB Go.Proofs.Try.prog (conOf kQ2) (loopsOf lQa) 10 140 [.agg [.row [.int .i64, .int .i64, .int .i64] n f, .lit (.int .i64 k), .lit (.int .i64 s), .lit (.int .i64 h)], .lit (.int .i64 L), .lit (.int .i64 l)] =
    T.ask (Row64 n f) (.ask (lk PreQa (nat_lit 0) n f k s h L (lk szD n f k s h) ∧ false = false ∧ (1 : Nat) = (1 : Nat) ∧ false = false ∧ (49 : Nat) = (49 : TypeId) ∧ (3 : Nat) = (3 :
      TypeId)) (.ret (.row [.int .i64] (lk plN n f k s h L l) (lk ptF n f k s h L l)))) := by kernel_rfl
set_option maxRecDepth 100000 in
theorem t_qloc (n : Nat) (f : Nat → R3) (k s h L l : Int) : conB Go.Proofs.Try.prog (conOf kQ2) noLoops 10 139 [.agg [.row [.int .i64, .int .i64, .int .i64] n f, .lit (.int .i64 k), .lit (.int .i64 s), .lit (.int .i64 h)], .lit (.int .i64 L), .lit (.int .i64 l)] =
    T.ask (Row64 n f) (.br (U.ne (lk dmE n f k s h L) (0 : Int)) (.ret (.lit (.int .i64 (lk dmE n f k s h L)))) (.ask (Row64 n f) (.br (U.gt (lk szD n f k s h) (5000 : Int)) (.ret (.lit
      (.int .i64 7))) (.br (U.lt l (0 : Int)) (.ret (.lit (.int .i64 4))) (.br (U.ge l L) (.ret (.lit (.int .i64 4))) (.ret (.lit (.int .i64 0)))))))) := by kernel_rfl
end Go.RX.Span

/- Domain maps: the reference's checkLocale, part and Part. -/
set_option linter.unusedVariables false
set_option linter.unusedSimpArgs false
set_option maxRecDepth 100000
namespace Go.RX.Span
open Go Go.RX
attribute [local irreducible] sx conB

section
variable {n : Nat} {f : Nat → R3} {k s h L : Int}
theorem qw_of (hd : dmE n f k s h L = 0) {p : Nat} (hp : p < szDn n f k s h) : QwAsk n f k s h L (dnN n f k s h p) (dnF n f p) ∧ owX n f k s h L (dnF n f p) = owP n f k s h L p := by
  have hc := (dmE_zero.1 hd).2.2.1
  obtain ⟨z1, z2⟩ := dn_zero hc hp
  obtain ⟨_, b2, _⟩ := dn_has hc z1
  obtain ⟨_, h1, h2, _⟩ := hasD_has b2
  refine ⟨⟨hd, z2, h2, I64s_hasD b2⟩, ?_⟩
  have e := (oa_at hd hp).2
  unfold oaV at e
  rw [if_neg (by simp [(oa_at hd hp).1])] at e
  exact e
end
structure XQa where
  (n : Nat) (f : Nat → R3) (k s h L l : Int) (i : Nat)
noncomputable abbrev VQa (q : XQa) : Few := (slQa q.L q.l (pkL (owP q.n q.f q.k q.s q.h q.L) q.i q.l).length (szD q.n q.f q.k q.s q.h) (q.i : Int), memQa q.n q.f q.k q.s q.h (pkL (owP q.n q.f q.k q.s q.h q.L) q.i q.l).length (rowN (pkL (owP q.n q.f q.k q.s q.h q.L) q.i q.l)))
noncomputable def OQa (q : XQa) : Ex × Few := (.exit 0, (slQa q.L q.l (plN q.n q.f q.k q.s q.h q.L q.l) (szD q.n q.f q.k q.s q.h) (szD q.n q.f q.k q.s q.h), memQa q.n q.f q.k q.s q.h (plN q.n q.f q.k q.s q.h q.L q.l) (ptF q.n q.f q.k q.s q.h q.L q.l)))
def PhiQa (n0 : Nat) (q : XQa) : Prop := n0 = 0 ∧ dmE q.n q.f q.k q.s q.h q.L = 0 ∧ szDn q.n q.f q.k q.s q.h ≤ 5000 ∧ q.i ≤ szDn q.n q.f q.k q.s q.h
theorem slQa_rl {ρ : Ren} {b b' : Nat} {L l : Int} {N N' : Nat} {sz i i' : Int} (h0 : ρ.of 0 = some 0) (hb : ρ.of b' = some b) (hN : N = N') (hi : i = i') :
    RlL ρ [.lit (.int .i64 L), .lit (.int .i64 l), .ptr 0 0, .own false b N, .lit (.int .i64 sz), .lit (.int .i64 i)] [.lit (.int .i64 L), .lit (.int .i64 l), .ptr 0 0, .own false b' N', .lit (.int .i64 sz), .lit (.int .i64 i')] := by
  subst hN hi
  exact ⟨rfl, rfl, ⟨h0, rfl⟩, ⟨rfl, rfl, hb⟩, rfl, rfl, trivial⟩
theorem roundQa (n0 : Nat) (q : XQa) (hq : PhiQa n0 q) : ((sx EQ2 [] n0 (loopOf P 140 4) (mkS 37 [1,2,3,7,8,9] (VQa q).1, (VQa q).2)).bind (proj 37 [1,2,3,7,8,9])).All fun r => match r.1 with
      | .normal => ∃ q', PhiQa n0 q' ∧ szDn q'.n q'.f q'.k q'.s q'.h - q'.i < szDn q.n q.f q.k q.s q.h - q.i ∧ Wk 37 [1,2,3,7,8,9] n0 r.2 (VQa q') ∧ ∀ o, o = OQa q' → o = OQa q
      | e => ∃ s, (e, s) = OQa q ∧ Wk 37 [1,2,3,7,8,9] n0 r.2 s := by
  obtain ⟨n, f, k, s, h, L, l, i⟩ := q
  obtain ⟨h0, hd, h5, hi⟩ := hq
  have hi : i ≤ szDn n f k s h := hi
  have h5 : szDn n f k s h ≤ 5000 := h5
  simp only [] at h0 hd
  subst h0
  have d := dr_64 (chD_zero.1 (dmE_zero.1 hd).2.2.1).1
  have hz := szD_nn (dmE_zero.1 hd).2.2.1
  have pl := pk_len (owP n f k s h L) i l
  refine T.all_of_eq (t_Qa n f k s h L l (szD n f k s h) (pkL (owP n f k s h L) i l).length (rowN (pkL (owP n f k s h L) i l)) (i : Int)) ?_
  have e2 := add1p (j := i) (by omega)
  by_cases hlt : i < szDn n f k s h
  · obtain ⟨w1, w2⟩ := qw_of hd hlt
    have ps := pk_s (owP n f k s h L) i l
    simp only [e2, lk_eq, w2]
    refine ⟨fun _ => ⟨⟨d, by unfold I64; omega⟩, w1, fun g => ?_, fun g => ?_⟩, fun g => absurd (U.lt_f.mp g) (by omega)⟩
    · have g := U.eq_t.mp g
      rw [if_pos g] at ps
      have el : (pkL (owP n f k s h L) (i + 1) l).length = (pkL (owP n f k s h L) i l).length + 1 := by rw [ps]; simp
      refine ⟨?_, ⟨n, f, k, s, h, L, l, i + 1⟩, ⟨rfl, hd, h5, hlt⟩, (show szDn n f k s h - (i + 1) < szDn n f k s h - i by omega), ?_, fun o ho => ho⟩
      · show ((pkL (owP n f k s h L) i l).length + 1) * 8 ≤ 140737488351232
        omega
      · refine wk_of [some 0, some 3] rfl (Nat.zero_le _) (ren1z _) (slQa_rl rfl rfl el.symm rfl) ⟨⟨rfl, ⟨rfl, sameR fun _ _ => rfl⟩, rfl, rfl, rfl, trivial⟩, ⟨rfl, rfl, el.symm, row1H fun t ht => ?_⟩, trivial⟩
        have ht : t < (pkL (owP n f k s h L) (i + 1) l).length := ht
        refine (rowN_app (pkL (owP n f k s h L) i l) i (i : Int) rfl t (by omega)).trans ?_
        rw [ps]
    · have g : ¬ owP n f k s h L i = l := U.eq_f.mp g
      rw [if_neg g, List.append_nil] at ps
      refine ⟨⟨n, f, k, s, h, L, l, i + 1⟩, ⟨rfl, hd, h5, hlt⟩, (show szDn n f k s h - (i + 1) < szDn n f k s h - i by omega), ?_, fun o ho => ho⟩
      exact wk_of [some 0, some 1] rfl (Nat.zero_le _) (ren1z _) (slQa_rl rfl rfl (by rw [ps]) rfl) ⟨⟨rfl, ⟨rfl, sameR fun _ _ => rfl⟩, rfl, rfl, rfl, trivial⟩, ⟨rfl, rfl, by rw [ps], row1H fun t ht => by rw [ps]⟩, trivial⟩
  · obtain rfl : i = szDn n f k s h := by omega
    refine ⟨fun g => absurd (U.lt_t.mp g) (by omega), fun _ => ⟨_, rfl, ?_⟩⟩
    exact wk_of [some 0, some 1] rfl (Nat.zero_le _) (ren1z _) (slQa_rl rfl rfl rfl hz) ⟨⟨rfl, ⟨rfl, sameR fun _ _ => rfl⟩, rfl, rfl, rfl, trivial⟩, ⟨rfl, rfl, rfl, row1H fun t ht => rfl⟩, trivial⟩
theorem loopQa : LoopOK P (loopOf P 140 4) (few 37 [1,2,3,7,8,9] gQa) :=
  loop_few (E := EQ2) mixed EQ2_ok loopsOK_none 37 [1,2,3,7,8,9] (X := XQa) gQa (fun _ x => VQa x) PhiQa (fun q => szDn q.n q.f q.k q.s q.h - q.i) (fun _ x o => o = OQa x)
    (fun n0 st r h => by
      unfold gQa at h
      split at h
      · rename_i n0 L l z b sz e0 n f k s h' t0 e1 z' G t1
        obtain ⟨hp, rfl, rfl, rfl, rfl, rfl⟩ := (T.is_ask h).1
        obtain rfl := T.is_ret (T.is_ask h).2
        rw [lk_eq] at hp
        obtain ⟨h0, hd, h5, hs⟩ := hp
        subst h0 hs
        refine ⟨⟨n, f, k, s, h', L, l, 0⟩, ⟨rfl, hd, h5, Nat.zero_le _⟩, wk_of [some 0, some 1] rfl (Nat.zero_le _) (ren1z _) (slQa_rl rfl rfl rfl rfl) ⟨⟨rfl, ⟨rfl, sameR fun _ _ => rfl⟩, rfl, rfl, rfl, trivial⟩, ⟨rfl, rfl, rfl, row1H fun t ht => absurd ht (Nat.not_lt_zero _)⟩, trivial⟩, fun o ho => ?_⟩
        rw [ho]
        simp only [lk_eq]; rfl
      · exact h.elim)
    roundQa
theorem lQa_ok : ∀ p ∈ lQa, LoopsOK P p.2 (bodyOf P p.1) := by
  intro p hp
  simp only [lQa, List.mem_singleton] at hp
  subst hp
  refine loopsOK_of (by kernel_rfl) fun k g hk => ?_
  simp only [List.mem_singleton, Prod.mk.injEq, LoopC.sum.injEq] at hk
  obtain ⟨rfl, rfl⟩ := hk
  exact loopQa
theorem part_ok : ConOK P 140 c_part := con_of (allOKL mixed kQ2_ok lQa_ok) 10 140 fun args r hh => by
  unfold c_part at hh
  split at hh
  · rename_i n f k s h L l
    obtain ⟨d, hp⟩ := (T.is_ask hh).1
    obtain rfl := T.is_ret (T.is_ask hh).2
    rw [lk_eq] at hp
    obtain ⟨hd, h5⟩ := hp
    refine T.all_of_eq (t_part n f k s h L l) ?_
    simp only [lk_eq]
    exact ⟨d, ⟨⟨rfl, hd, h5, rfl⟩, trivial, trivial, trivial, trivial, trivial⟩, rfl⟩
  · exact hh.elim
theorem qloc_ok : ConOK P 139 c_located := con_of (allOK mixed kQ2_ok) 10 139 fun args r hh => by
  unfold c_located at hh
  split at hh
  · rename_i n f k s h L l
    have d := (T.is_ask hh).1
    obtain rfl := T.is_ret (T.is_ask hh).2
    refine T.all_of_eq (t_qloc n f k s h L l) ?_
    simp only [lk_eq]
    have key : ∀ x, x = lcE n f k s h L l → (SV.lit (.int .i64 x)) = SV.lit (.int .i64 (lcE n f k s h L l)) := fun x hx => by rw [hx]
    refine ⟨d, fun g => key _ ?_, fun g => ⟨d, fun g2 => key _ ?_, fun g2 => ⟨fun g3 => key _ ?_, fun g3 => ⟨fun g4 => key _ ?_, fun g4 => key _ ?_⟩⟩⟩⟩
    · have g := U.ne_t.mp g
      have e : lsE n f k s h L = dmE n f k s h L := by unfold lsE; rw [if_pos g]
      unfold lcE; rw [e, if_pos g]
    · have g := U.ne_f.mp g; have g2 := U.gt_t.mp g2
      have e : lsE n f k s h L = 7 := by unfold lsE; rw [if_neg (by simp [g]), if_pos g2]
      unfold lcE; rw [e, if_pos (by decide)]
    all_goals
      have g := U.ne_f.mp g; have g2 := U.gt_f.mp g2
      have e : lsE n f k s h L = 0 := lsE_zero.2 ⟨g, by omega⟩
      unfold lcE; rw [e, if_neg (by decide)]
    · have g3 := U.lt_t.mp g3
      rw [if_pos (.inl g3)]
    · have g4 := U.ge_t.mp g4
      rw [if_pos (.inr (by omega))]
    · have g3 := U.lt_f.mp g3; have g4 := U.ge_f.mp g4
      rw [if_neg (by omega)]
  · exact hh.elim
end Go.RX.Span

/- Domain maps: the reference's Local and Global: the states. -/
set_option linter.unusedVariables false
set_option linter.unusedSimpArgs false
set_option maxRecDepth 100000
namespace Go.RX.Span
open Go Go.RX
attribute [local irreducible] sx conB

noncomputable abbrev kQ3 : List (Nat × Con) := [(139, c_located), (51, c_OwnerAt), (140, c_part)] --%K
theorem kQ3_ok : ∀ p ∈ kQ3, ConOK P p.1 p.2 := by
  intro p hp
  simp only [kQ3, List.mem_cons, List.not_mem_nil, or_false] at hp
  rcases hp with rfl | rfl | rfl
  · exact qloc_ok
  · exact qOwnerAt_ok
  · exact part_ok
end Go.RX.Span

/- Domain maps: the reference's Local and Global: the walks. -/
set_option linter.unusedVariables false
set_option linter.unusedSimpArgs false
set_option maxRecDepth 100000
namespace Go.RX.Span
open Go Go.RX
attribute [local irreducible] sx conB

--%R i < ↑n => i < ((n : Nat) : Int)
--%R < ↑\(lk plN n f k s h L l\) => < ((lk plN n f k s h L l : Nat) : Int)
set_option maxRecDepth 100000 in
theorem t_qPart (n : Nat) (f : Nat → R3) (k s h L l : Int) : conB Go.Proofs.Try.prog (conOf kQ3) noLoops 10 55 [.agg [.row [.int .i64, .int .i64, .int .i64] n f, .lit (.int .i64 k), .lit (.int .i64 s), .lit (.int .i64 h)], .lit (.int .i64 L), .lit (.int .i64 l)] =
    T.ask (Row64 n f) (.br (U.ne (lk lcE n f k s h L l) (0 : Int)) (.ret (.tup [.lit (.slice none (nat_lit 0) (nat_lit 0)), .lit (.int .i64 (lk lcE n f k s h L l))])) (.ask (Row64 n f ∧
      lk PaAsk n f k s h L) (.ret (.tup [.row [.int .i64] (lk plN n f k s h L l) (lk ptF n f k s h L l), .lit (.int .i64 0)])))) := by kernel_rfl
end Go.RX.Span

/- Domain maps: the reference's Local, Global and Part. -/
set_option linter.unusedVariables false
set_option linter.unusedSimpArgs false
set_option maxRecDepth 100000
namespace Go.RX.Span
open Go Go.RX
attribute [local irreducible] sx conB

theorem lc0 {n : Nat} {f : Nat → R3} {k s h L : Int} : lcE n f k s h L 0 = lsE n f k s h L := by
  by_cases g : lsE n f k s h L = 0
  · have := (dmE_zero.1 (lsE_zero.1 g).1).1
    rw [g]; exact lcE_zero.2 ⟨g, by omega, by omega⟩
  · unfold lcE; rw [if_pos g]
theorem qPart_ok : ConOK P 55 c_Part := con_cl (allOK mixed kQ3_ok) 10 55 fun args r hh => by
  unfold c_Part at hh
  split at hh
  · rename_i n f k s h L l
    have d := (T.is_ask hh).1
    obtain rfl := T.is_ret (T.is_ask hh).2
    refine T.all_of_eq (t_qPart n f k s h L l) ?_
    simp only [lk_eq]
    refine ⟨d, fun g => ?_, fun g => ?_⟩
    · have g := U.ne_t.mp g
      have e : ptN n f k s h L l = 0 := by unfold ptN; rw [if_pos g]
      rw [e]
      exact ⟨cl_nil, .inl rfl, rfl⟩
    · have g := U.ne_f.mp g
      obtain ⟨g1, g2, g3⟩ := lcE_zero.1 g
      have e : ptN n f k s h L l = plN n f k s h L l := by unfold ptN; rw [if_neg (by simp [g])]; rfl
      rw [e]
      exact ⟨⟨d, pa_ask g1⟩, ⟨rfl, row1H fun i hi => rfl⟩, .inl (congrArg (fun v => SV.lit (.int .i64 v)) g), rfl⟩
  · exact hh.elim
end Go.RX.Span

/- Domain maps: the reference's Pieces: the lists. -/
set_option linter.unusedVariables false
set_option linter.unusedSimpArgs false
set_option maxRecDepth 100000
namespace Go.RX.Span
open Go Go.RX
attribute [local irreducible] sx conB

noncomputable abbrev kQ4 : List (Nat × Con) := [(139, c_located), (140, c_part)] --%K
theorem kQ4_ok : ∀ p ∈ kQ4, ConOK P p.1 p.2 := by
  intro p hp
  simp only [kQ4, List.mem_cons, List.not_mem_nil, or_false] at hp
  rcases hp with rfl | rfl
  · exact qloc_ok
  · exact part_ok
noncomputable abbrev EQ4 : Env := ⟨P, conOf kQ4, scall P (conOf kQ4) noLoops 10⟩
theorem EQ4_ok : EnvOK EQ4 := envOK (allOK mixed kQ4_ok) 10
end Go.RX.Span

/- Domain maps: the reference's Pieces: the loops' states. -/
set_option linter.unusedVariables false
set_option linter.unusedSimpArgs false
set_option maxRecDepth 100000
namespace Go.RX.Span
open Go Go.RX
attribute [local irreducible] sx conB

end Go.RX.Span

/- Domain maps: the reference's Pieces: the walks. -/
set_option linter.unusedVariables false
set_option linter.unusedSimpArgs false
set_option maxRecDepth 100000
namespace Go.RX.Span
open Go Go.RX
attribute [local irreducible] sx conB

--%R ≤ ↑pN => ≤ ((pN : Nat) : Int)
end Go.RX.Span

/- Domain maps: the reference's Pieces. -/
set_option linter.unusedVariables false
set_option linter.unusedSimpArgs false
set_option maxRecDepth 100000
namespace Go.RX.Span
open Go Go.RX
attribute [local irreducible] sx conB

end Go.RX.Span

/- Domain maps: Pieces of both, whatever is asked for. -/
set_option linter.unusedVariables false
set_option linter.unusedSimpArgs false
set_option maxRecDepth 100000
namespace Go.RX.Span
open Go Go.RX
attribute [local irreducible] sx conB

section
variable (n : Nat) (f : Nat → R3) (k s h L w : Int)
end
section
variable {n : Nat} {f : Nat → R3} {k s h L w : Int}
end
end Go.RX.Span

/- Domain maps: lists of pieces compared: the states. -/
set_option linter.unusedVariables false
set_option linter.unusedSimpArgs false
set_option maxRecDepth 100000
namespace Go.RX.Span
open Go Go.RX
attribute [local irreducible] sx conB

end Go.RX.Span

/- Domain maps: lists of pieces compared: the walks. -/
set_option linter.unusedVariables false
set_option linter.unusedSimpArgs false
set_option maxRecDepth 100000
namespace Go.RX.Span
open Go Go.RX
attribute [local irreducible] sx conB

--%R i < ↑n => i < ((n : Nat) : Int)
--%R i < ↑m => i < ((m : Nat) : Int)
--%R ↑n = ↑n => ((n : Nat) : Int) = ((n : Nat) : Int)
end Go.RX.Span

/- Domain maps: lists of pieces compared. -/
set_option linter.unusedVariables false
set_option linter.unusedSimpArgs false
set_option maxRecDepth 100000
namespace Go.RX.Span
open Go Go.RX
attribute [local irreducible] sx conB

end Go.RX.Span

/- Domain maps: the law of numbers returns true. -/
set_option linter.unusedVariables false
set_option linter.unusedSimpArgs false
set_option maxRecDepth 100000
namespace Go.RX.Span
open Go Go.RX
attribute [local irreducible] sx conB

section
variable (n : Nat) (f : Nat → R3) (k s h L l a w : Int)
end
end Go.RX.Span

/- Domain maps: the rows of a locale: what they call. -/
set_option linter.unusedVariables false
set_option linter.unusedSimpArgs false
set_option maxRecDepth 100000
namespace Go.RX.Span
open Go Go.RX
attribute [local irreducible] sx conB

noncomputable abbrev kBr : List (Nat × Con) := [(28, c_Size), (151, c_Nth)] --%K
noncomputable abbrev EBr : Env := ⟨P, conOf kBr, scall P (conOf kBr) noLoops 10⟩
end Go.RX.Span

/- Domain maps: the rows of a locale: plain facts and states. -/
set_option linter.unusedVariables false
set_option linter.unusedSimpArgs false
set_option maxRecDepth 100000
namespace Go.RX.Span
open Go Go.RX
attribute [local irreducible] sx conB

theorem kBr_ok : ∀ p ∈ kBr, ConOK P p.1 p.2 := by
  intro p hp
  simp only [kBr, List.mem_cons, List.not_mem_nil, or_false] at hp
  rcases hp with rfl | rfl
  · exact kU0_ok (28, c_Size) (by simp [kU0])
  · exact Nth_ok
theorem EBr_ok : EnvOK EBr := envOK (allOK mixed kBr_ok) 10
theorem rr_nth {r : R3} (h : RR r) {k : Int} (h0 : 0 ≤ k) (h1 : k < szR r) : nth (rA r) (rB r) (rC r) k = rA r + rC r * k := by
  obtain ⟨e1, _, _⟩ := rr_size h
  have hab : rA r ≤ rB r := by
    rcases Int.lt_or_le (rB r) (rA r) with w | w
    · rw [e1] at h1; unfold ofC at h1; rw [if_pos w] at h1; omega
    · exact w
  rw [nth_eq' h.1 hab h0 (by rw [← e1]; exact h1), if_neg (by have := h.2; omega)]
  have : absI (rC r) = rC r := by unfold absI; rw [if_neg (by have := h.2; omega)]
  rw [this]
/-- The rows from a to b, every c-th, as a range. -/
def tr3 (a b c : Int) : R3 := (a, b, c, ())
def rgR (r : R3) (a b c : Int) : R3 := if b ≤ a then tr3 1 0 1 else if (b - 1 - a) / c = 0 then tr3 (rA r + rC r * a) (rA r + rC r * a) 1 else tr3 (rA r + rC r * a) (rA r + rC r * (a + (b - 1 - a) / c * c)) (rC r * c)
end Go.RX.Span

/- Domain maps: the rows of a locale: the loop's states. -/
set_option linter.unusedVariables false
set_option linter.unusedSimpArgs false
set_option maxRecDepth 100000
namespace Go.RX.Span
open Go Go.RX
attribute [local irreducible] sx conB

/-- The rows of a locale, blocks of s dealt in turn: how many, and which. -/
def bcN (x L s l : Int) : Nat := if x ≤ l * s then 0 else ((x - 1 - l * s) / (L * s)).toNat + 1
def bcF (r : R3) (x L s l : Int) (j : Nat) : R3 := rgR r (l * s + j * (L * s)) (min (l * s + j * (L * s) + s) x) 1
def PreRw (n0 : Nat) (r : R3) (x s L l i : Int) : Prop := n0 = 0 ∧ RR r ∧ x = szR r ∧ 1 ≤ s ∧ s ≤ 1000 ∧ 0 ≤ l ∧ l < L ∧ L ≤ 8 ∧ i = l * s
noncomputable abbrev slRw (u : Bool) (N : Nat) (i : Int) : List SV := [.ptr 0 0, .ptr 1 0, .ptr 2 0, .ptr 3 0, .fn (.func 189) [] [.ptr 2 0], .own u 4 N, .lit (.int .i64 i)]
noncomputable abbrev memRw (n : Nat) (f : Nat → R3) (k s h L a b c x : Int) (u : Bool) (N : Nat) (G : Nat → R3) : Mem := [boxD n f k s h, (0, some (.cells [.lit (.int .i64 L)] 3)), (0, some (.cells [.lit (.int .i64 a), .lit (.int .i64 b), .lit (.int .i64 c)] 23)), (0, some (.cells [.lit (.int .i64 x)] 3)), (0, some (.row u N [.int .i64, .int .i64, .int .i64] G 23))]
/-- Which locale, out of the loop's start. -/
def loS (i s : Int) : Int := i / s
noncomputable def gRw : Nat → Few → T (Ex × Few)
  | n0, ([.ptr 0 0, .ptr 1 0, .ptr 2 0, .ptr 3 0, .fn (.func 189) [] [.ptr 2 0], .lit (.slice none 0 0), .lit (.int .i64 i)],
      [(_, some (.cells [.row [.int .i64, .int .i64, .int .i64] n f, .lit (.int .i64 k), .lit (.int .i64 s), .lit (.int .i64 h)] t0)), (_, some (.cells [.lit (.int .i64 L)] t1)), (_, some (.cells [.lit (.int .i64 a), .lit (.int .i64 b), .lit (.int .i64 c)] t2)), (_, some (.cells [.lit (.int .i64 x)] t3))]) =>
    .ask (lk PreRw n0 (lk tr3 a b c) x s L (lk loS i s) i ∧ t0 = 49 ∧ t1 = 3 ∧ t2 = 23 ∧ t3 = 3)
      (.ret (.exit 1, ([.any, .any, .any, .any, .any, .own (U.isz (lk bcN x L s (lk loS i s))) 4 (lk bcN x L s (lk loS i s)), .any], [(0, none), (0, none), (0, none), (0, none), (0, some (.row (U.isz (lk bcN x L s (lk loS i s))) (lk bcN x L s (lk loS i s)) [.int .i64, .int .i64, .int .i64] (lk bcF (lk tr3 a b c) x L s (lk loS i s)) 23))])))
  | _, _ => .stuck 1
noncomputable abbrev lRw : List (Nat × Loops) := [(141, [(16, .sum (few 82 [3,4,7,8,9,11,12] gRw))])] --%K
end Go.RX.Span

/- Domain maps: the rows of a locale: the walk of the loop. -/
set_option linter.unusedVariables false
set_option linter.unusedSimpArgs false
set_option maxRecDepth 100000
namespace Go.RX.Span
open Go Go.RX
attribute [local irreducible] sx conB

set_option maxRecDepth 100000 in
theorem t_Rw (n : Nat) (f : Nat → R3) (k s h L a b c x : Int) (u : Bool) (N : Nat) (G : Nat → R3) (i : Int) : (sx EBr [] 0 (loopOf P 141 16) (mkS 82 [3,4,7,8,9,11,12] (slRw u N i), memRw n f k s h L a b c x u N G)).bind (proj 82 [3,4,7,8,9,11,12]) =
    T.br (U.lt i x) (.br (U.ge i (U.mm false (U.add .i64 i s) x)) (.ask ((N + (1 : Nat)) * nat_lit 24 ≤ nat_lit 140737488351232) (.ret (Ex.normal, [SV.ptr (nat_lit 0) (nat_lit 0),
      SV.ptr (nat_lit 1) (nat_lit 0), SV.ptr (nat_lit 2) (nat_lit 0), SV.ptr (nat_lit 3) (nat_lit 0), SV.fn (Fn.func (nat_lit 189)) [] [SV.ptr (nat_lit 2) (nat_lit 0)], SV.own false
      (nat_lit 7) (N.add (nat_lit 1)), .lit (.int .i64 (U.add .i64 i (U.mul .i64 L s)))], [(nat_lit 0, some (Blk.cells [.row [.int .i64, .int .i64, .int .i64] n f, .lit (.int .i64 k),
      .lit (.int .i64 s), .lit (.int .i64 h)] (nat_lit 49))), (nat_lit 0, some (Blk.cells [.lit (.int .i64 L)] (nat_lit 3))), (nat_lit 0, some (Blk.cells [.lit (.int .i64 a), .lit (.int
      .i64 b), .lit (.int .i64 c)] (nat_lit 23))), (nat_lit 0, some (Blk.cells [.lit (.int .i64 x)] (nat_lit 3))), (nat_lit 1, none), (nat_lit 0, some (Blk.cells [SV.ki .i64 1, SV.ki .i64
      0, SV.ki .i64 1] (nat_lit 23))), (nat_lit 0, some (Blk.cells [SV.ki .i64 1, SV.ki .i64 0, SV.ki .i64 1] (nat_lit 23))), (nat_lit 0, some (Blk.row false (N.add (nat_lit 1)) [.int
      .i64, .int .i64, .int .i64] (U.cat N G fun x => ((1 : Int), (0 : Int), (1 : Int), PUnit.unit)) (nat_lit 23)))]))) (.ask (I64 a ∧ I64 b ∧ I64 c) (.ask ((1 : Int) ≠ (0 : Int)) (.ask
      (I64 a ∧ I64 b ∧ I64 c) (.br (U.eq (lk nth a b c i) (lk nth a b c (U.add .i64 i (U.mul .i64 (U.quo .i64 (U.sub .i64 (U.sub .i64 (U.mm false (U.add .i64 i s) x) (1 : Int)) i) (1 :
      Int)) (1 : Int))))) (.ask ((N + (1 : Nat)) * nat_lit 24 ≤ nat_lit 140737488351232) (.ret (Ex.normal, [SV.ptr (nat_lit 0) (nat_lit 0), SV.ptr (nat_lit 1) (nat_lit 0), SV.ptr (nat_lit
      2) (nat_lit 0), SV.ptr (nat_lit 3) (nat_lit 0), SV.fn (Fn.func (nat_lit 189)) [] [SV.ptr (nat_lit 2) (nat_lit 0)], SV.own false (nat_lit 7) (N.add (nat_lit 1)), .lit (.int .i64
      (U.add .i64 i (U.mul .i64 L s)))], [(nat_lit 0, some (Blk.cells [.row [.int .i64, .int .i64, .int .i64] n f, .lit (.int .i64 k), .lit (.int .i64 s), .lit (.int .i64 h)] (nat_lit
      49))), (nat_lit 0, some (Blk.cells [.lit (.int .i64 L)] (nat_lit 3))), (nat_lit 0, some (Blk.cells [.lit (.int .i64 a), .lit (.int .i64 b), .lit (.int .i64 c)] (nat_lit 23))),
      (nat_lit 0, some (Blk.cells [.lit (.int .i64 x)] (nat_lit 3))), (nat_lit 1, none), (nat_lit 0, some (Blk.cells [.lit (.int .i64 (lk nth a b c i)), .lit (.int .i64 (lk nth a b c i)),
      SV.ki .i64 1] (nat_lit 23))), (nat_lit 0, some (Blk.cells [.lit (.int .i64 (lk nth a b c i)), .lit (.int .i64 (lk nth a b c i)), SV.ki .i64 1] (nat_lit 23))), (nat_lit 0, some
      (Blk.row false (N.add (nat_lit 1)) [.int .i64, .int .i64, .int .i64] (U.cat N G fun x => (lk nth a b c i, lk nth a b c i, (1 : Int), PUnit.unit)) (nat_lit 23)))]))) (.ask ((N + (1 :
      Nat)) * nat_lit 24 ≤ nat_lit 140737488351232) (.ret (Ex.normal, [SV.ptr (nat_lit 0) (nat_lit 0), SV.ptr (nat_lit 1) (nat_lit 0), SV.ptr (nat_lit 2) (nat_lit 0), SV.ptr (nat_lit 3)
      (nat_lit 0), SV.fn (Fn.func (nat_lit 189)) [] [SV.ptr (nat_lit 2) (nat_lit 0)], SV.own false (nat_lit 7) (N.add (nat_lit 1)), .lit (.int .i64 (U.add .i64 i (U.mul .i64 L s)))],
      [(nat_lit 0, some (Blk.cells [.row [.int .i64, .int .i64, .int .i64] n f, .lit (.int .i64 k), .lit (.int .i64 s), .lit (.int .i64 h)] (nat_lit 49))), (nat_lit 0, some (Blk.cells
      [.lit (.int .i64 L)] (nat_lit 3))), (nat_lit 0, some (Blk.cells [.lit (.int .i64 a), .lit (.int .i64 b), .lit (.int .i64 c)] (nat_lit 23))), (nat_lit 0, some (Blk.cells [.lit (.int
      .i64 x)] (nat_lit 3))), (nat_lit 1, none), (nat_lit 0, some (Blk.cells [.lit (.int .i64 (lk nth a b c i)), .lit (.int .i64 (lk nth a b c (U.add .i64 i (U.mul .i64 (U.quo .i64 (U.sub
      .i64 (U.sub .i64 (U.mm false (U.add .i64 i s) x) (1 : Int)) i) (1 : Int)) (1 : Int))))), .lit (.int .i64 (U.mul .i64 c (1 : Int)))] (nat_lit 23))), (nat_lit 0, some (Blk.cells [.lit
      (.int .i64 (lk nth a b c i)), .lit (.int .i64 (lk nth a b c (U.add .i64 i (U.mul .i64 (U.quo .i64 (U.sub .i64 (U.sub .i64 (U.mm false (U.add .i64 i s) x) (1 : Int)) i) (1 : Int)) (1
      : Int))))), .lit (.int .i64 (U.mul .i64 c (1 : Int)))] (nat_lit 23))), (nat_lit 0, some (Blk.row false (N.add (nat_lit 1)) [.int .i64, .int .i64, .int .i64] (U.cat N G fun x_1 =>
      (lk nth a b c i, lk nth a b c (U.add .i64 i (U.mul .i64 (U.quo .i64 (U.sub .i64 (U.sub .i64 (U.mm false (U.add .i64 i s) x) (1 : Int)) i) (1 : Int)) (1 : Int))), U.mul .i64 c (1 :
      Int), PUnit.unit)) (nat_lit 23)))])))))))) (.ret (Ex.exit (nat_lit 1), [SV.ptr (nat_lit 0) (nat_lit 0), SV.ptr (nat_lit 1) (nat_lit 0), SV.ptr (nat_lit 2) (nat_lit 0), SV.ptr
      (nat_lit 3) (nat_lit 0), SV.fn (Fn.func (nat_lit 189)) [] [SV.ptr (nat_lit 2) (nat_lit 0)], SV.own u (nat_lit 4) N, .lit (.int .i64 i)], [(nat_lit 0, some (Blk.cells [.row [.int
      .i64, .int .i64, .int .i64] n f, .lit (.int .i64 k), .lit (.int .i64 s), .lit (.int .i64 h)] (nat_lit 49))), (nat_lit 0, some (Blk.cells [.lit (.int .i64 L)] (nat_lit 3))), (nat_lit
      0, some (Blk.cells [.lit (.int .i64 a), .lit (.int .i64 b), .lit (.int .i64 c)] (nat_lit 23))), (nat_lit 0, some (Blk.cells [.lit (.int .i64 x)] (nat_lit 3))), (nat_lit 0, some
      (Blk.row u N [.int .i64, .int .i64, .int .i64] G (nat_lit 23)))])) := by kernel_rfl
end Go.RX.Span

/- Domain maps: the rows of a locale: the round of the loop. -/
set_option linter.unusedVariables false
set_option linter.unusedSimpArgs false
set_option maxRecDepth 100000
namespace Go.RX.Span
open Go Go.RX
attribute [local irreducible] sx conB

section
variable {x L s l : Int}
theorem bc_lt (hs : 1 ≤ s) (hL : 1 ≤ L) {j : Nat} : l * s + j * (L * s) < x ↔ j < bcN x L s l := by
  have hw : 0 < L * s := Int.mul_pos (by omega) (by omega)
  unfold bcN
  by_cases h : x ≤ l * s
  · rw [if_pos h]
    have : 0 ≤ (j : Int) * (L * s) := Int.mul_nonneg (by omega) (by omega)
    constructor
    · intro g; omega
    · intro g; exact absurd g (Nat.not_lt_zero _)
  · rw [if_neg h]
    have e := Int.le_ediv_iff_mul_le (a := (j : Int)) (b := x - 1 - l * s) hw
    have hq : 0 ≤ (x - 1 - l * s) / (L * s) := Int.ediv_nonneg (by omega) (by omega)
    constructor
    · intro g
      have := e.2 (by omega)
      omega
    · intro g
      have := e.1 (by omega)
      omega
end
theorem rgR_one {r : R3} {a b : Int} (h : a < b) : rgR r a b 1 = if b - 1 - a = 0 then tr3 (rA r + rC r * a) (rA r + rC r * a) 1 else tr3 (rA r + rC r * a) (rA r + rC r * (b - 1)) (rC r) := by
  unfold rgR
  rw [if_neg (by omega), Int.ediv_one, Int.mul_one, Int.mul_one]
  by_cases e : b - 1 - a = 0
  · rw [if_pos e, if_pos e]
  · rw [if_neg e, if_neg e, show a + (b - 1 - a) = b - 1 by omega]
structure XRw where
  (n : Nat) (f : Nat → R3) (k s h L a b c x l : Int) (j : Nat)
noncomputable abbrev VRw (q : XRw) : Few := (slRw (U.isz q.j) q.j (q.l * q.s + q.j * (q.L * q.s)), memRw q.n q.f q.k q.s q.h q.L q.a q.b q.c q.x (U.isz q.j) q.j (bcF (tr3 q.a q.b q.c) q.x q.L q.s q.l))
noncomputable def ORw (q : XRw) : Ex × Few := (.exit 1, ([.any, .any, .any, .any, .any, .own (U.isz (bcN q.x q.L q.s q.l)) 4 (bcN q.x q.L q.s q.l), .any], [(0, none), (0, none), (0, none), (0, none), (0, some (.row (U.isz (bcN q.x q.L q.s q.l)) (bcN q.x q.L q.s q.l) [.int .i64, .int .i64, .int .i64] (bcF (tr3 q.a q.b q.c) q.x q.L q.s q.l) 23))]))
def PhiRw (n0 : Nat) (q : XRw) : Prop := n0 = 0 ∧ RR (tr3 q.a q.b q.c) ∧ q.x = szR (tr3 q.a q.b q.c) ∧ 1 ≤ q.s ∧ q.s ≤ 1000 ∧ 0 ≤ q.l ∧ q.l < q.L ∧ q.L ≤ 8 ∧ q.j ≤ bcN q.x q.L q.s q.l
theorem roundRw (n0 : Nat) (q : XRw) (hq : PhiRw n0 q) : ((sx EBr [] n0 (loopOf P 141 16) (mkS 82 [3,4,7,8,9,11,12] (VRw q).1, (VRw q).2)).bind (proj 82 [3,4,7,8,9,11,12])).All fun r => match r.1 with
      | .normal => ∃ q', PhiRw n0 q' ∧ bcN q'.x q'.L q'.s q'.l - q'.j < bcN q.x q.L q.s q.l - q.j ∧ Wk 82 [3,4,7,8,9,11,12] n0 r.2 (VRw q') ∧ ∀ o, o = ORw q' → o = ORw q
      | e => ∃ s, (e, s) = ORw q ∧ Wk 82 [3,4,7,8,9,11,12] n0 r.2 s := by
  obtain ⟨n, f, k, s, h, L, a, b, c, x, l, j⟩ := q
  obtain ⟨h0, hr, hx, s1, s2, l0, l1, l8, hj⟩ := hq
  have hj : j ≤ bcN x L s l := hj
  have s1 : 1 ≤ s := s1
  have s2 : s ≤ 1000 := s2
  have l0 : 0 ≤ l := l0
  have l1 : l < L := l1
  have l8 : L ≤ 8 := l8
  have hr : RR (tr3 a b c) := hr
  have hx : x = szR (tr3 a b c) := hx
  have h0 : n0 = 0 := h0
  subst h0
  have hlt := bc_lt (x := x) (L := L) (l := l) s1 (by omega) (j := j)
  have b1 : 0 ≤ l * s := Int.mul_nonneg l0 (by omega)
  have b2 : 0 ≤ (j : Int) * (L * s) := Int.mul_nonneg (by omega) (Int.mul_nonneg (by omega) (by omega))
  have b3 : L * s ≤ 8 * 1000 := Int.mul_le_mul l8 s2 (by omega) (by omega)
  have b4 : 1 * 1 ≤ L * s := Int.mul_le_mul (by omega) s1 (by omega) (by omega)
  have b5 : (j : Int) * 1 ≤ (j : Int) * (L * s) := Int.mul_le_mul_of_nonneg_left (by omega) (by omega)
  have b6 : l * s ≤ 8 * 1000 := Int.mul_le_mul (by omega) s2 (by omega) (by omega)
  obtain ⟨_, z1, z2⟩ := rr_size hr
  obtain ⟨i1, i2, i3⟩ := rr_64 hr
  refine T.all_of_eq (t_Rw n f k s h L a b c x (U.isz j) j (bcF (tr3 a b c) x L s l) (l * s + j * (L * s))) ?_
  generalize hi : l * s + (j : Int) * (L * s) = i at *
  have hmul : U.mul .i64 L s = L * s := U.mul64 (by unfold I64; omega)
  have rlA : ∀ {vs : List SV}, vs.length = 7 → True := fun _ => trivial
  by_cases g : i < x
  · have hjn := hlt.1 g
    have ea : U.add .i64 i s = i + s := U.add64 (by unfold I64; omega)
    have em : U.mm false (i + s) x = min (i + s) x := mm_min _ _
    have en : U.add .i64 i (L * s) = i + L * s := U.add64 (by unfold I64; omega)
    have hto : i < min (i + s) x := by omega
    have e1 : U.sub .i64 (min (i + s) x) 1 = min (i + s) x - 1 := U.sub64 (by unfold I64; omega)
    have e2 : U.sub .i64 (min (i + s) x - 1) i = min (i + s) x - 1 - i := U.sub64 (by unfold I64; omega)
    have e3 : U.quo .i64 (min (i + s) x - 1 - i) 1 = min (i + s) x - 1 - i := by rw [U.quo64 (by rw [Int.tdiv_one]; unfold I64; omega), Int.tdiv_one]
    have e4 : U.mul .i64 (min (i + s) x - 1 - i) 1 = min (i + s) x - 1 - i := by rw [U.mul64 (by rw [Int.mul_one]; unfold I64; omega), Int.mul_one]
    have e5 : U.add .i64 i (min (i + s) x - 1 - i) = min (i + s) x - 1 := by rw [U.add64 (by unfold I64; omega)]; omega
    have e6 : U.mul .i64 c 1 = c := by rw [U.mul64 (by rw [Int.mul_one]; exact i3), Int.mul_one]
    have n1 : nth a b c i = a + c * i := rr_nth hr (by omega) (by omega)
    have n2 : nth a b c (min (i + s) x - 1) = a + c * (min (i + s) x - 1) := rr_nth hr (by omega) (by omega)
    have er := rgR_one (r := tr3 a b c) hto
    have hc : 0 < c := hr.2
    simp only [ea, em, en, hmul, lk_eq, e1, e2, e3, e4, e5, e6, n1, n2]
    have key : ∀ v : R3, v = rgR (tr3 a b c) i (min (i + s) x) 1 → ∀ t, t < j + 1 → U.cat j (bcF (tr3 a b c) x L s l) (fun _ => v) t = bcF (tr3 a b c) x L s l t := fun v hv t ht => by
      refine (U.cat_eq _ _ _ _).trans ?_
      by_cases h : t < j
      · exact if_pos h
      · obtain rfl : t = j := by omega
        refine (if_neg h).trans ?_
        rw [hv]
        show _ = rgR (tr3 a b c) (l * s + t * (L * s)) (min (l * s + t * (L * s) + s) x) 1
        rw [hi]
    have nx : i + L * s = l * s + ((j + 1 : Nat) : Int) * (L * s) := by
      rw [← hi, Int.natCast_add, Int.add_mul]; omega
    have fin : ∀ (v : R3) (c5 c6 : Nat × Option Blk), v = rgR (tr3 a b c) i (min (i + s) x) 1 → Wk 82 [3,4,7,8,9,11,12] 0 ([.ptr 0 0, .ptr 1 0, .ptr 2 0, .ptr 3 0, .fn (.func 189) [] [.ptr 2 0], .own false 7 (j + 1), .lit (.int .i64 (i + L * s))],
        [(0, some (.cells [.row [.int .i64, .int .i64, .int .i64] n f, .lit (.int .i64 k), .lit (.int .i64 s), .lit (.int .i64 h)] 49)), (0, some (.cells [.lit (.int .i64 L)] 3)), (0, some (.cells [.lit (.int .i64 a), .lit (.int .i64 b), .lit (.int .i64 c)] 23)), (0, some (.cells [.lit (.int .i64 x)] 3)), (1, none), c5, c6, (0, some (.row false (j + 1) [.int .i64, .int .i64, .int .i64] (U.cat j (bcF (tr3 a b c) x L s l) fun _ => v) 23))])
        (VRw ⟨n, f, k, s, h, L, a, b, c, x, l, j + 1⟩) := fun v c5 c6 hv => by
      have iz : false = U.isz (j + 1) := (isz_s j).symm
      refine wk_of [some 0, some 1, some 2, some 3, some 7] rfl (Nat.zero_le _) (ren1z _) ⟨⟨rfl, rfl⟩, ⟨rfl, rfl⟩, ⟨rfl, rfl⟩, ⟨rfl, rfl⟩, ⟨rfl, trivial, ⟨rfl, rfl⟩, trivial⟩, ⟨iz, rfl, rfl⟩, ?_, trivial⟩
        ⟨⟨rfl, ⟨rfl, sameR fun _ _ => rfl⟩, rfl, rfl, rfl, trivial⟩, ⟨rfl, rfl, trivial⟩, ⟨rfl, rfl, rfl, rfl, trivial⟩, ⟨rfl, rfl, trivial⟩, ⟨rfl, iz, rfl, sameR fun t ht => key v hv t ht⟩, trivial⟩
      show Value.int .i64 (i + L * s) = Value.int .i64 (l * s + ((j + 1 : Nat) : Int) * (L * s))
      rw [nx]
    have ask : (j + 1) * 24 ≤ 140737488351232 := by omega
    have stp : PhiRw 0 ⟨n, f, k, s, h, L, a, b, c, x, l, j + 1⟩ := ⟨rfl, hr, hx, s1, s2, l0, l1, l8, hjn⟩
    have ms : bcN x L s l - (j + 1) < bcN x L s l - j := by omega
    refine ⟨fun _ => ⟨fun g => absurd (U.ge_t.mp g) (by omega), fun _ => ⟨⟨i1, i2, i3⟩, by decide, ⟨i1, i2, i3⟩, fun g => ?_, fun g => ?_⟩⟩, fun g => absurd (U.lt_f.mp g) (by omega)⟩
    · have g := U.eq_t.mp g
      have e0 : min (i + s) x - 1 - i = 0 := by
        have : c * i = c * (min (i + s) x - 1) := by omega
        have := Int.eq_of_mul_eq_mul_left (by omega) this
        omega
      rw [if_pos e0] at er
      exact ⟨ask, ⟨n, f, k, s, h, L, a, b, c, x, l, j + 1⟩, stp, ms, fin _ _ _ er.symm, fun o ho => ho⟩
    · have g := U.eq_f.mp g
      have e0 : ¬ min (i + s) x - 1 - i = 0 := fun w => g (by rw [show min (i + s) x - 1 = i by omega])
      rw [if_neg e0] at er
      exact ⟨ask, ⟨n, f, k, s, h, L, a, b, c, x, l, j + 1⟩, stp, ms, fin _ _ _ er.symm, fun o ho => ho⟩
  · have ej : j = bcN x L s l := by
      have : ¬ j < bcN x L s l := fun w => g (hlt.2 w)
      omega
    refine ⟨fun g' => absurd (U.lt_t.mp g') (by omega), fun _ => ⟨_, rfl, ?_⟩⟩
    refine wk_of [none, none, none, none, some 4] rfl (Nat.zero_le _) (ren1z _) ⟨rl_any _, rl_any _, rl_any _, rl_any _, rl_any _, ⟨congrArg U.isz ej, ej, rfl⟩, rl_any _, trivial⟩
      ⟨⟨rfl, congrArg U.isz ej, ej, sameR fun _ _ => rfl⟩, trivial⟩
end Go.RX.Span

/- Domain maps: the rows of a locale: the loop; what rows returns. -/
set_option linter.unusedVariables false
set_option linter.unusedSimpArgs false
set_option maxRecDepth 100000
namespace Go.RX.Span
open Go Go.RX
attribute [local irreducible] sx conB

theorem loS_mul {l s : Int} (hs : 1 ≤ s) : loS (l * s) s = l := Int.mul_ediv_cancel l (by omega)
theorem loopRw : LoopOK P (loopOf P 141 16) (few 82 [3,4,7,8,9,11,12] gRw) :=
  loop_few (E := EBr) mixed EBr_ok loopsOK_none 82 [3,4,7,8,9,11,12] (X := XRw) gRw (fun _ x => VRw x) PhiRw (fun q => bcN q.x q.L q.s q.l - q.j) (fun _ x o => o = ORw x)
    (fun n0 st r hh => by
      unfold gRw at hh
      split at hh
      · rename_i n0 i g0 n f k s h t0 g1 L t1 g2 a b c t2 g3 x t3
        obtain ⟨hp, rfl, rfl, rfl, rfl⟩ := (T.is_ask hh).1
        obtain rfl := T.is_ret (T.is_ask hh).2
        simp only [lk_eq] at hp
        obtain ⟨h0, hr, hx, s1, s2, l0, l1, l8, hi⟩ := hp
        subst h0
        generalize hl : loS i s = l at *
        have zi : U.isz 0 = true := by rw [U.isz_eq]; rfl
        refine ⟨⟨n, f, k, s, h, L, a, b, c, x, l, 0⟩, ⟨rfl, hr, hx, s1, s2, l0, l1, l8, Nat.zero_le _⟩, wk_of [some 0, some 1, some 2, some 3, none] rfl (Nat.zero_le _) (ren1z _) ⟨⟨rfl, rfl⟩, ⟨rfl, rfl⟩, ⟨rfl, rfl⟩, ⟨rfl, rfl⟩, ⟨rfl, trivial, ⟨rfl, rfl⟩, trivial⟩, ⟨rfl, zi, rfl⟩, ?_, trivial⟩
          ⟨⟨rfl, ⟨rfl, sameR fun _ _ => rfl⟩, rfl, rfl, rfl, trivial⟩, ⟨rfl, rfl, trivial⟩, ⟨rfl, rfl, rfl, rfl, trivial⟩, ⟨rfl, rfl, trivial⟩, ⟨zi, rfl⟩, trivial⟩, fun o ho => ?_⟩
        · show Value.int .i64 i = Value.int .i64 (l * s + ((0 : Nat) : Int) * (L * s))
          rw [hi]; simp
        · rw [ho]
          simp only [lk_eq, hl]; rfl
      · exact hh.elim)
    roundRw
theorem lRw_ok : ∀ p ∈ lRw, LoopsOK P p.2 (bodyOf P p.1) := by
  intro p hp
  simp only [lRw, List.mem_singleton] at hp
  subst hp
  refine loopsOK_of (by kernel_rfl) fun k g hk => ?_
  simp only [List.mem_singleton, Prod.mk.injEq, LoopC.sum.injEq] at hk
  obtain ⟨rfl, rfl⟩ := hk
  exact loopRw
/-- Where a locale's rows begin. -/
def loB (x L l : Int) : Int := (l * x + L - 1) / L
def rwN (n : Nat) (f : Nat → R3) (k s h L l : Int) : Nat := if k = 0 then (if l = h then 1 else 0) else if k = 1 ∨ k = 2 then 1 else bcN (szR (f 0)) L s l
def rwF (n : Nat) (f : Nat → R3) (k s h L l : Int) (j : Nat) : R3 := if k = 0 then rgR (f 0) 0 (szR (f 0)) 1 else if k = 1 then rgR (f 0) (loB (szR (f 0)) L l) (loB (szR (f 0)) L (l + 1)) 1 else if k = 2 then rgR (f 0) l (szR (f 0)) L else bcF (f 0) (szR (f 0)) L s l j
def RwAsk (n : Nat) (f : Nat → R3) (k s h L l : Int) : Prop := dmE n f k s h L = 0 ∧ k ≠ 4 ∧ 0 ≤ l ∧ l < L
noncomputable def c_rows : Con := fun args => match args with
  | [.agg [.row [.int .i64, .int .i64, .int .i64] n f, .lit (.int .i64 k), .lit (.int .i64 s), .lit (.int .i64 h)], .lit (.int .i64 L), .lit (.int .i64 l)] => .ask (lk RwAsk n f k s h L l) (.ret (.row [.int .i64, .int .i64, .int .i64] (lk rwN n f k s h L l) (lk rwF n f k s h L l)))
  | _ => .stuck 1
end Go.RX.Span

/- Domain maps: the rows of a locale: the ways. -/
set_option linter.unusedVariables false
set_option linter.unusedSimpArgs false
set_option maxRecDepth 100000
namespace Go.RX.Span
open Go Go.RX
attribute [local irreducible] sx conB

--%R < ↑n => < ((n : Nat) : Int)
set_option maxRecDepth 100000 in
theorem t_rw0a (n : Nat) (f : Nat → R3) (k s h L l : Int) : (conB Go.Proofs.Try.prog (conOf kBr) (loopsOf lRw) 10 141 [.agg [.row [.int .i64, .int .i64, .int .i64] n f, .lit (.int .i64 k), .lit (.int .i64 s), .lit (.int .i64 h)], .lit (.int .i64 L), .lit (.int .i64 l)]).force [true, true] =
    T.ask ((0 : Int) ≤ (0 : Int) ∧ (0 : Int) < ((n : Nat) : Int)) (.ask (I64 (f (U.toNat (0 : Int))).1 ∧ I64 (f (U.toNat (0 : Int))).2.1 ∧ I64 (f (U.toNat (0 : Int))).2.2.1) (.ask (U.eq
      k (0 : Int) = true) (.ask (U.ne l h = true) (.ret (.lit (.slice none (nat_lit 0) (nat_lit 0))))))) := by kernel_rfl
set_option maxRecDepth 100000 in
theorem t_rw0b (n : Nat) (f : Nat → R3) (k s h L l : Int) : (conB Go.Proofs.Try.prog (conOf kBr) (loopsOf lRw) 10 141 [.agg [.row [.int .i64, .int .i64, .int .i64] n f, .lit (.int .i64 k), .lit (.int .i64 s), .lit (.int .i64 h)], .lit (.int .i64 L), .lit (.int .i64 l)]).force [true, false] =
    T.ask ((0 : Int) ≤ (0 : Int) ∧ (0 : Int) < ((n : Nat) : Int)) (.ask (I64 (f (U.toNat (0 : Int))).1 ∧ I64 (f (U.toNat (0 : Int))).2.1 ∧ I64 (f (U.toNat (0 : Int))).2.2.1) (.ask (U.eq
      k (0 : Int) = true) (.ask (U.ne l h = false) (.ret (.row [.int .i64, .int .i64, .int .i64] (nat_lit 1) fun x => ((f (U.toNat (0 : Int))).1, (f (U.toNat (0 : Int))).2.1, (f (U.toNat
      (0 : Int))).2.2.1, PUnit.unit)))))) := by kernel_rfl
set_option maxRecDepth 100000 in
theorem t_rw1a (n : Nat) (f : Nat → R3) (k s h L l : Int) : (conB Go.Proofs.Try.prog (conOf kBr) (loopsOf lRw) 10 141 [.agg [.row [.int .i64, .int .i64, .int .i64] n f, .lit (.int .i64 k), .lit (.int .i64 s), .lit (.int .i64 h)], .lit (.int .i64 L), .lit (.int .i64 l)]).force [false, true, true] =
    T.ask ((0 : Int) ≤ (0 : Int) ∧ (0 : Int) < ((n : Nat) : Int)) (.ask (I64 (f (U.toNat (0 : Int))).1 ∧ I64 (f (U.toNat (0 : Int))).2.1 ∧ I64 (f (U.toNat (0 : Int))).2.2.1) (.ask (U.eq
      k (0 : Int) = false) (.ask (U.eq k (1 : Int) = true) (.ask (L ≠ (0 : Int)) (.ask (L ≠ (0 : Int)) (.ask (U.ge (U.quo .i64 (U.sub .i64 (U.add .i64 (U.mul .i64 l (lk size (f (U.toNat
      (0 : Int))).1 (f (U.toNat (0 : Int))).2.1 (f (U.toNat (0 : Int))).2.2.1)) L) (1 : Int)) L) (U.quo .i64 (U.sub .i64 (U.add .i64 (U.mul .i64 (U.add .i64 l (1 : Int)) (lk size (f
      (U.toNat (0 : Int))).1 (f (U.toNat (0 : Int))).2.1 (f (U.toNat (0 : Int))).2.2.1)) L) (1 : Int)) L) = true) (.ret (.row [.int .i64, .int .i64, .int .i64] (nat_lit 1) fun x => ((1 :
      Int), (0 : Int), (1 : Int), PUnit.unit))))))))) := by kernel_rfl
set_option maxRecDepth 100000 in
theorem t_rw1b (n : Nat) (f : Nat → R3) (k s h L l : Int) : (conB Go.Proofs.Try.prog (conOf kBr) (loopsOf lRw) 10 141 [.agg [.row [.int .i64, .int .i64, .int .i64] n f, .lit (.int .i64 k), .lit (.int .i64 s), .lit (.int .i64 h)], .lit (.int .i64 L), .lit (.int .i64 l)]).force [false, true, false, true] =
    T.ask ((0 : Int) ≤ (0 : Int) ∧ (0 : Int) < ((n : Nat) : Int)) (.ask (I64 (f (U.toNat (0 : Int))).1 ∧ I64 (f (U.toNat (0 : Int))).2.1 ∧ I64 (f (U.toNat (0 : Int))).2.2.1) (.ask (U.eq
      k (0 : Int) = false) (.ask (U.eq k (1 : Int) = true) (.ask (L ≠ (0 : Int)) (.ask (L ≠ (0 : Int)) (.ask (U.ge (U.quo .i64 (U.sub .i64 (U.add .i64 (U.mul .i64 l (lk size (f (U.toNat
      (0 : Int))).1 (f (U.toNat (0 : Int))).2.1 (f (U.toNat (0 : Int))).2.2.1)) L) (1 : Int)) L) (U.quo .i64 (U.sub .i64 (U.add .i64 (U.mul .i64 (U.add .i64 l (1 : Int)) (lk size (f
      (U.toNat (0 : Int))).1 (f (U.toNat (0 : Int))).2.1 (f (U.toNat (0 : Int))).2.2.1)) L) (1 : Int)) L) = false) (.ask (I64 (f (U.toNat (0 : Int))).1 ∧ I64 (f (U.toNat (0 : Int))).2.1 ∧
      I64 (f (U.toNat (0 : Int))).2.2.1) (.ask ((1 : Int) ≠ (0 : Int)) (.ask (I64 (f (U.toNat (0 : Int))).1 ∧ I64 (f (U.toNat (0 : Int))).2.1 ∧ I64 (f (U.toNat (0 : Int))).2.2.1) (.ask
      (U.eq (lk nth (f (U.toNat (0 : Int))).1 (f (U.toNat (0 : Int))).2.1 (f (U.toNat (0 : Int))).2.2.1 (U.quo .i64 (U.sub .i64 (U.add .i64 (U.mul .i64 l (lk size (f (U.toNat (0 :
      Int))).1 (f (U.toNat (0 : Int))).2.1 (f (U.toNat (0 : Int))).2.2.1)) L) (1 : Int)) L)) (lk nth (f (U.toNat (0 : Int))).1 (f (U.toNat (0 : Int))).2.1 (f (U.toNat (0 : Int))).2.2.1
      (U.add .i64 (U.quo .i64 (U.sub .i64 (U.add .i64 (U.mul .i64 l (lk size (f (U.toNat (0 : Int))).1 (f (U.toNat (0 : Int))).2.1 (f (U.toNat (0 : Int))).2.2.1)) L) (1 : Int)) L) (U.mul
      .i64 (U.quo .i64 (U.sub .i64 (U.sub .i64 (U.quo .i64 (U.sub .i64 (U.add .i64 (U.mul .i64 (U.add .i64 l (1 : Int)) (lk size (f (U.toNat (0 : Int))).1 (f (U.toNat (0 : Int))).2.1 (f
      (U.toNat (0 : Int))).2.2.1)) L) (1 : Int)) L) (1 : Int)) (U.quo .i64 (U.sub .i64 (U.add .i64 (U.mul .i64 l (lk size (f (U.toNat (0 : Int))).1 (f (U.toNat (0 : Int))).2.1 (f (U.toNat
      (0 : Int))).2.2.1)) L) (1 : Int)) L)) (1 : Int)) (1 : Int)))) = true) (.ret (.row [.int .i64, .int .i64, .int .i64] (nat_lit 1) fun x => (lk nth (f (U.toNat (0 : Int))).1 (f
      (U.toNat (0 : Int))).2.1 (f (U.toNat (0 : Int))).2.2.1 (U.quo .i64 (U.sub .i64 (U.add .i64 (U.mul .i64 l (lk size (f (U.toNat (0 : Int))).1 (f (U.toNat (0 : Int))).2.1 (f (U.toNat
      (0 : Int))).2.2.1)) L) (1 : Int)) L), lk nth (f (U.toNat (0 : Int))).1 (f (U.toNat (0 : Int))).2.1 (f (U.toNat (0 : Int))).2.2.1 (U.quo .i64 (U.sub .i64 (U.add .i64 (U.mul .i64 l
      (lk size (f (U.toNat (0 : Int))).1 (f (U.toNat (0 : Int))).2.1 (f (U.toNat (0 : Int))).2.2.1)) L) (1 : Int)) L), (1 : Int), PUnit.unit))))))))))))) := by kernel_rfl
set_option maxRecDepth 100000 in
theorem t_rw1c (n : Nat) (f : Nat → R3) (k s h L l : Int) : (conB Go.Proofs.Try.prog (conOf kBr) (loopsOf lRw) 10 141 [.agg [.row [.int .i64, .int .i64, .int .i64] n f, .lit (.int .i64 k), .lit (.int .i64 s), .lit (.int .i64 h)], .lit (.int .i64 L), .lit (.int .i64 l)]).force [false, true, false, false] =
    T.ask ((0 : Int) ≤ (0 : Int) ∧ (0 : Int) < ((n : Nat) : Int)) (.ask (I64 (f (U.toNat (0 : Int))).1 ∧ I64 (f (U.toNat (0 : Int))).2.1 ∧ I64 (f (U.toNat (0 : Int))).2.2.1) (.ask (U.eq
      k (0 : Int) = false) (.ask (U.eq k (1 : Int) = true) (.ask (L ≠ (0 : Int)) (.ask (L ≠ (0 : Int)) (.ask (U.ge (U.quo .i64 (U.sub .i64 (U.add .i64 (U.mul .i64 l (lk size (f (U.toNat
      (0 : Int))).1 (f (U.toNat (0 : Int))).2.1 (f (U.toNat (0 : Int))).2.2.1)) L) (1 : Int)) L) (U.quo .i64 (U.sub .i64 (U.add .i64 (U.mul .i64 (U.add .i64 l (1 : Int)) (lk size (f
      (U.toNat (0 : Int))).1 (f (U.toNat (0 : Int))).2.1 (f (U.toNat (0 : Int))).2.2.1)) L) (1 : Int)) L) = false) (.ask (I64 (f (U.toNat (0 : Int))).1 ∧ I64 (f (U.toNat (0 : Int))).2.1 ∧
      I64 (f (U.toNat (0 : Int))).2.2.1) (.ask ((1 : Int) ≠ (0 : Int)) (.ask (I64 (f (U.toNat (0 : Int))).1 ∧ I64 (f (U.toNat (0 : Int))).2.1 ∧ I64 (f (U.toNat (0 : Int))).2.2.1) (.ask
      (U.eq (lk nth (f (U.toNat (0 : Int))).1 (f (U.toNat (0 : Int))).2.1 (f (U.toNat (0 : Int))).2.2.1 (U.quo .i64 (U.sub .i64 (U.add .i64 (U.mul .i64 l (lk size (f (U.toNat (0 :
      Int))).1 (f (U.toNat (0 : Int))).2.1 (f (U.toNat (0 : Int))).2.2.1)) L) (1 : Int)) L)) (lk nth (f (U.toNat (0 : Int))).1 (f (U.toNat (0 : Int))).2.1 (f (U.toNat (0 : Int))).2.2.1
      (U.add .i64 (U.quo .i64 (U.sub .i64 (U.add .i64 (U.mul .i64 l (lk size (f (U.toNat (0 : Int))).1 (f (U.toNat (0 : Int))).2.1 (f (U.toNat (0 : Int))).2.2.1)) L) (1 : Int)) L) (U.mul
      .i64 (U.quo .i64 (U.sub .i64 (U.sub .i64 (U.quo .i64 (U.sub .i64 (U.add .i64 (U.mul .i64 (U.add .i64 l (1 : Int)) (lk size (f (U.toNat (0 : Int))).1 (f (U.toNat (0 : Int))).2.1 (f
      (U.toNat (0 : Int))).2.2.1)) L) (1 : Int)) L) (1 : Int)) (U.quo .i64 (U.sub .i64 (U.add .i64 (U.mul .i64 l (lk size (f (U.toNat (0 : Int))).1 (f (U.toNat (0 : Int))).2.1 (f (U.toNat
      (0 : Int))).2.2.1)) L) (1 : Int)) L)) (1 : Int)) (1 : Int)))) = false) (.ret (.row [.int .i64, .int .i64, .int .i64] (nat_lit 1) fun x => (lk nth (f (U.toNat (0 : Int))).1 (f
      (U.toNat (0 : Int))).2.1 (f (U.toNat (0 : Int))).2.2.1 (U.quo .i64 (U.sub .i64 (U.add .i64 (U.mul .i64 l (lk size (f (U.toNat (0 : Int))).1 (f (U.toNat (0 : Int))).2.1 (f (U.toNat
      (0 : Int))).2.2.1)) L) (1 : Int)) L), lk nth (f (U.toNat (0 : Int))).1 (f (U.toNat (0 : Int))).2.1 (f (U.toNat (0 : Int))).2.2.1 (U.add .i64 (U.quo .i64 (U.sub .i64 (U.add .i64
      (U.mul .i64 l (lk size (f (U.toNat (0 : Int))).1 (f (U.toNat (0 : Int))).2.1 (f (U.toNat (0 : Int))).2.2.1)) L) (1 : Int)) L) (U.mul .i64 (U.quo .i64 (U.sub .i64 (U.sub .i64 (U.quo
      .i64 (U.sub .i64 (U.add .i64 (U.mul .i64 (U.add .i64 l (1 : Int)) (lk size (f (U.toNat (0 : Int))).1 (f (U.toNat (0 : Int))).2.1 (f (U.toNat (0 : Int))).2.2.1)) L) (1 : Int)) L) (1
      : Int)) (U.quo .i64 (U.sub .i64 (U.add .i64 (U.mul .i64 l (lk size (f (U.toNat (0 : Int))).1 (f (U.toNat (0 : Int))).2.1 (f (U.toNat (0 : Int))).2.2.1)) L) (1 : Int)) L)) (1 : Int))
      (1 : Int))), U.mul .i64 (f (U.toNat (0 : Int))).2.2.1 (1 : Int), PUnit.unit))))))))))))) := by kernel_rfl
set_option maxRecDepth 100000 in
theorem t_rw2a (n : Nat) (f : Nat → R3) (k s h L l : Int) : (conB Go.Proofs.Try.prog (conOf kBr) (loopsOf lRw) 10 141 [.agg [.row [.int .i64, .int .i64, .int .i64] n f, .lit (.int .i64 k), .lit (.int .i64 s), .lit (.int .i64 h)], .lit (.int .i64 L), .lit (.int .i64 l)]).force [false, false, true, true] =
    T.ask ((0 : Int) ≤ (0 : Int) ∧ (0 : Int) < ((n : Nat) : Int)) (.ask (I64 (f (U.toNat (0 : Int))).1 ∧ I64 (f (U.toNat (0 : Int))).2.1 ∧ I64 (f (U.toNat (0 : Int))).2.2.1) (.ask (U.eq
      k (0 : Int) = false) (.ask (U.eq k (1 : Int) = false) (.ask (U.eq k (2 : Int) = true) (.ask (U.ge l (lk size (f (U.toNat (0 : Int))).1 (f (U.toNat (0 : Int))).2.1 (f (U.toNat (0 :
      Int))).2.2.1) = true) (.ret (.row [.int .i64, .int .i64, .int .i64] (nat_lit 1) fun x => ((1 : Int), (0 : Int), (1 : Int), PUnit.unit)))))))) := by kernel_rfl
set_option maxRecDepth 100000 in
theorem t_rw2b (n : Nat) (f : Nat → R3) (k s h L l : Int) : (conB Go.Proofs.Try.prog (conOf kBr) (loopsOf lRw) 10 141 [.agg [.row [.int .i64, .int .i64, .int .i64] n f, .lit (.int .i64 k), .lit (.int .i64 s), .lit (.int .i64 h)], .lit (.int .i64 L), .lit (.int .i64 l)]).force [false, false, true, false, true] =
    T.ask ((0 : Int) ≤ (0 : Int) ∧ (0 : Int) < ((n : Nat) : Int)) (.ask (I64 (f (U.toNat (0 : Int))).1 ∧ I64 (f (U.toNat (0 : Int))).2.1 ∧ I64 (f (U.toNat (0 : Int))).2.2.1) (.ask (U.eq
      k (0 : Int) = false) (.ask (U.eq k (1 : Int) = false) (.ask (U.eq k (2 : Int) = true) (.ask (U.ge l (lk size (f (U.toNat (0 : Int))).1 (f (U.toNat (0 : Int))).2.1 (f (U.toNat (0 :
      Int))).2.2.1) = false) (.ask (I64 (f (U.toNat (0 : Int))).1 ∧ I64 (f (U.toNat (0 : Int))).2.1 ∧ I64 (f (U.toNat (0 : Int))).2.2.1) (.ask (L ≠ (0 : Int)) (.ask (I64 (f (U.toNat (0 :
      Int))).1 ∧ I64 (f (U.toNat (0 : Int))).2.1 ∧ I64 (f (U.toNat (0 : Int))).2.2.1) (.ask (U.eq (lk nth (f (U.toNat (0 : Int))).1 (f (U.toNat (0 : Int))).2.1 (f (U.toNat (0 :
      Int))).2.2.1 l) (lk nth (f (U.toNat (0 : Int))).1 (f (U.toNat (0 : Int))).2.1 (f (U.toNat (0 : Int))).2.2.1 (U.add .i64 l (U.mul .i64 (U.quo .i64 (U.sub .i64 (U.sub .i64 (lk size (f
      (U.toNat (0 : Int))).1 (f (U.toNat (0 : Int))).2.1 (f (U.toNat (0 : Int))).2.2.1) (1 : Int)) l) L) L))) = true) (.ret (.row [.int .i64, .int .i64, .int .i64] (nat_lit 1) fun x =>
      (lk nth (f (U.toNat (0 : Int))).1 (f (U.toNat (0 : Int))).2.1 (f (U.toNat (0 : Int))).2.2.1 l, lk nth (f (U.toNat (0 : Int))).1 (f (U.toNat (0 : Int))).2.1 (f (U.toNat (0 :
      Int))).2.2.1 l, (1 : Int), PUnit.unit)))))))))))) := by kernel_rfl
set_option maxRecDepth 100000 in
theorem t_rw2c (n : Nat) (f : Nat → R3) (k s h L l : Int) : (conB Go.Proofs.Try.prog (conOf kBr) (loopsOf lRw) 10 141 [.agg [.row [.int .i64, .int .i64, .int .i64] n f, .lit (.int .i64 k), .lit (.int .i64 s), .lit (.int .i64 h)], .lit (.int .i64 L), .lit (.int .i64 l)]).force [false, false, true, false, false] =
    T.ask ((0 : Int) ≤ (0 : Int) ∧ (0 : Int) < ((n : Nat) : Int)) (.ask (I64 (f (U.toNat (0 : Int))).1 ∧ I64 (f (U.toNat (0 : Int))).2.1 ∧ I64 (f (U.toNat (0 : Int))).2.2.1) (.ask (U.eq
      k (0 : Int) = false) (.ask (U.eq k (1 : Int) = false) (.ask (U.eq k (2 : Int) = true) (.ask (U.ge l (lk size (f (U.toNat (0 : Int))).1 (f (U.toNat (0 : Int))).2.1 (f (U.toNat (0 :
      Int))).2.2.1) = false) (.ask (I64 (f (U.toNat (0 : Int))).1 ∧ I64 (f (U.toNat (0 : Int))).2.1 ∧ I64 (f (U.toNat (0 : Int))).2.2.1) (.ask (L ≠ (0 : Int)) (.ask (I64 (f (U.toNat (0 :
      Int))).1 ∧ I64 (f (U.toNat (0 : Int))).2.1 ∧ I64 (f (U.toNat (0 : Int))).2.2.1) (.ask (U.eq (lk nth (f (U.toNat (0 : Int))).1 (f (U.toNat (0 : Int))).2.1 (f (U.toNat (0 :
      Int))).2.2.1 l) (lk nth (f (U.toNat (0 : Int))).1 (f (U.toNat (0 : Int))).2.1 (f (U.toNat (0 : Int))).2.2.1 (U.add .i64 l (U.mul .i64 (U.quo .i64 (U.sub .i64 (U.sub .i64 (lk size (f
      (U.toNat (0 : Int))).1 (f (U.toNat (0 : Int))).2.1 (f (U.toNat (0 : Int))).2.2.1) (1 : Int)) l) L) L))) = false) (.ret (.row [.int .i64, .int .i64, .int .i64] (nat_lit 1) fun x =>
      (lk nth (f (U.toNat (0 : Int))).1 (f (U.toNat (0 : Int))).2.1 (f (U.toNat (0 : Int))).2.2.1 l, lk nth (f (U.toNat (0 : Int))).1 (f (U.toNat (0 : Int))).2.1 (f (U.toNat (0 :
      Int))).2.2.1 (U.add .i64 l (U.mul .i64 (U.quo .i64 (U.sub .i64 (U.sub .i64 (lk size (f (U.toNat (0 : Int))).1 (f (U.toNat (0 : Int))).2.1 (f (U.toNat (0 : Int))).2.2.1) (1 : Int))
      l) L) L)), U.mul .i64 (f (U.toNat (0 : Int))).2.2.1 L, PUnit.unit)))))))))))) := by kernel_rfl
set_option maxRecDepth 100000 in
theorem t_rw3 (n : Nat) (f : Nat → R3) (k s h L l : Int) : (conB Go.Proofs.Try.prog (conOf kBr) (loopsOf lRw) 10 141 [.agg [.row [.int .i64, .int .i64, .int .i64] n f, .lit (.int .i64 k), .lit (.int .i64 s), .lit (.int .i64 h)], .lit (.int .i64 L), .lit (.int .i64 l)]).force [false, false, false] =
    T.ask ((0 : Int) ≤ (0 : Int) ∧ (0 : Int) < ((n : Nat) : Int)) (.ask (I64 (f (U.toNat (0 : Int))).1 ∧ I64 (f (U.toNat (0 : Int))).2.1 ∧ I64 (f (U.toNat (0 : Int))).2.2.1) (.ask (U.eq
      k (0 : Int) = false) (.ask (U.eq k (1 : Int) = false) (.ask (U.eq k (2 : Int) = false) (.ask (lk PreRw (nat_lit 0) (lk tr3 (f (U.toNat (0 : Int))).1 (f (U.toNat (0 : Int))).2.1 (f
      (U.toNat (0 : Int))).2.2.1) (lk size (f (U.toNat (0 : Int))).1 (f (U.toNat (0 : Int))).2.1 (f (U.toNat (0 : Int))).2.2.1) s L (lk loS (U.mul .i64 l s) s) (U.mul .i64 l s) ∧ (49 :
      Nat) = (49 : TypeId) ∧ (3 : Nat) = (3 : TypeId) ∧ (23 : Nat) = (23 : TypeId) ∧ (3 : Nat) = (3 : TypeId)) (.ret (.row [.int .i64, .int .i64, .int .i64] (lk bcN (lk size (f (U.toNat
      (0 : Int))).1 (f (U.toNat (0 : Int))).2.1 (f (U.toNat (0 : Int))).2.2.1) L s (lk loS (U.mul .i64 l s) s)) (lk bcF (lk tr3 (f (U.toNat (0 : Int))).1 (f (U.toNat (0 : Int))).2.1 (f
      (U.toNat (0 : Int))).2.2.1) (lk size (f (U.toNat (0 : Int))).1 (f (U.toNat (0 : Int))).2.1 (f (U.toNat (0 : Int))).2.2.1) L s (lk loS (U.mul .i64 l s) s))))))))) := by kernel_rfl
end Go.RX.Span

/- Domain maps: the rows of a locale. -/
set_option linter.unusedVariables false
set_option linter.unusedSimpArgs false
set_option maxRecDepth 100000
namespace Go.RX.Span
open Go Go.RX
attribute [local irreducible] sx conB

theorem loB_bnd {x L l : Int} (hx : 0 ≤ x) (l0 : 0 ≤ l) (hl : l ≤ L) (h1 : 1 ≤ L) : 0 ≤ loB x L l ∧ loB x L l ≤ x := by
  unfold loB
  have h := Int.mul_nonneg l0 hx
  have h2 : l * x ≤ L * x := Int.mul_le_mul_of_nonneg_right hl hx
  constructor
  · exact Int.ediv_nonneg (by omega) (by omega)
  · have : (l * x + L - 1) / L < x + 1 := (Int.ediv_lt_iff_lt_mul (by omega)).2 (by
      rw [Int.add_mul, Int.mul_comm x L]; omega)
    omega
theorem loB_u {x L l : Int} (hx : 0 ≤ x) (hx2 : x ≤ 2000001) (l0 : 0 ≤ l) (l8 : l ≤ 8) (h1 : 1 ≤ L) (h8 : L ≤ 8) : U.quo .i64 (U.sub .i64 (U.add .i64 (U.mul .i64 l x) L) 1) L = loB x L l := by
  have h := Int.mul_nonneg l0 hx
  have h2 : l * x ≤ 8 * 2000001 := Int.mul_le_mul l8 hx2 hx (by omega)
  rw [U.mul64 (by unfold I64; omega), U.add64 (by unfold I64; omega), U.sub64 (by unfold I64; omega), quo_pos (by omega) (by omega) (by omega), Int.tdiv_eq_ediv_of_nonneg (by omega)]
  rfl
/-- The last row of a step, as the code says it. -/
noncomputable def zT (a b c : Int) : Int := U.add .i64 a (U.mul .i64 (U.quo .i64 (U.sub .i64 (U.sub .i64 b 1) a) c) c)
theorem zT_eq {a b c : Int} (h0 : 0 ≤ a) (hab : a < b) (hb : b ≤ 2000001) (hc : 1 ≤ c) : zT a b c = a + (b - 1 - a) / c * c ∧ a ≤ zT a b c ∧ zT a b c ≤ b - 1 ∧ (zT a b c = a ↔ (b - 1 - a) / c = 0) := by
  have q0 : 0 ≤ (b - 1 - a) / c := Int.ediv_nonneg (by omega) (by omega)
  have q1 : (b - 1 - a) / c * c ≤ b - 1 - a := Int.ediv_mul_le _ (by omega)
  have q2 : 0 ≤ (b - 1 - a) / c * c := Int.mul_nonneg q0 (by omega)
  have e : zT a b c = a + (b - 1 - a) / c * c := by
    unfold zT
    have e1 : U.sub .i64 b 1 = b - 1 := U.sub64 (by unfold I64; omega)
    have e2 : U.sub .i64 (b - 1) a = b - 1 - a := U.sub64 (by unfold I64; omega)
    have e3 : U.quo .i64 (b - 1 - a) c = (b - 1 - a) / c := by rw [quo_pos (by omega) (by omega) (by omega), Int.tdiv_eq_ediv_of_nonneg (by omega)]
    rw [e1, e2, e3, U.mul64 (by unfold I64; omega), U.add64 (by unfold I64; omega)]
  refine ⟨e, by omega, by omega, ?_⟩
  constructor
  · intro h
    have : (b - 1 - a) / c * c = 0 := by omega
    rcases Int.mul_eq_zero.1 this with w | w
    · exact w
    · omega
  · intro h; rw [e, h]; omega
section
variable {r : R3} {a b c : Int} (hr : RR r) (h0 : 0 ≤ a) (hb : b ≤ szR r) (hc : 1 ≤ c)
include hr h0 hb hc
omit hr h0 hb hc in
theorem rg_A (h : b ≤ a) : rgR r a b c = tr3 1 0 1 := by unfold rgR; rw [if_pos h]
theorem rg_B (h : a < b) (g : nth (rA r) (rB r) (rC r) a = nth (rA r) (rB r) (rC r) (zT a b c)) : rgR r a b c = tr3 (nth (rA r) (rB r) (rC r) a) (nth (rA r) (rB r) (rC r) a) 1 := by
  obtain ⟨_, z1, z2⟩ := rr_size hr
  obtain ⟨e1, e2, e3, e4⟩ := zT_eq h0 h (by omega) hc
  rw [rr_nth hr h0 (by omega), rr_nth hr (by omega) (by omega)] at g
  have hC := hr.2
  have : rC r * a = rC r * zT a b c := by omega
  have := Int.eq_of_mul_eq_mul_left (by omega) this
  rw [rr_nth hr h0 (by omega)]
  unfold rgR; rw [if_neg (by omega), if_pos (e4.1 this.symm)]
theorem rg_C (h : a < b) (g : ¬ nth (rA r) (rB r) (rC r) a = nth (rA r) (rB r) (rC r) (zT a b c)) : rgR r a b c = tr3 (nth (rA r) (rB r) (rC r) a) (nth (rA r) (rB r) (rC r) (zT a b c)) (rC r * c) := by
  obtain ⟨_, z1, z2⟩ := rr_size hr
  obtain ⟨e1, e2, e3, e4⟩ := zT_eq h0 h (by omega) hc
  rw [rr_nth hr h0 (by omega), rr_nth hr (by omega) (by omega)] at g
  rw [rr_nth hr h0 (by omega), rr_nth hr (by omega) (by omega)]
  unfold rgR; rw [if_neg (by omega), if_neg (fun w => g (by rw [e4.2 w])), ← e1]
end
theorem rg_all {r : R3} (hr : RR r) : rgR r 0 (szR r) 1 = r := by
  obtain ⟨e1, z1, z2⟩ := rr_size hr
  have hc := hr.2
  have key : ∀ a b c : Int, a = rA r → b = rB r → c = rC r → tr3 a b c = r := fun a b c h1 h2 h3 => by rw [h1, h2, h3]; rfl
  rcases hr.1.2 with ⟨h1, h2, h3⟩ | ⟨h1, h2⟩ | ⟨h1, h2, h3⟩
  · have hz : szR r = 0 := by rw [e1]; unfold ofC; rw [if_pos (by omega)]
    unfold rgR; rw [if_pos (by omega)]
    exact key _ _ _ h1.symm h2.symm h3.symm
  · have hz : szR r = 1 := by
      rw [e1]; unfold ofC; rw [if_neg (by omega), if_neg (by omega), h2, Int.ediv_one]; omega
    rw [rgR_one (by omega), if_pos (by omega)]
    refine key _ _ _ ?_ ?_ h2.symm
    · rw [Int.mul_zero, Int.add_zero]
    · rw [Int.mul_zero, Int.add_zero]; exact h1
  · have hz : szR r = (rB r - rA r) / rC r + 1 := by
      rw [e1]; unfold ofC; rw [if_neg (by omega), if_neg (by omega)]
    have hm : rC r * ((rB r - rA r) / rC r) = rB r - rA r := Int.mul_ediv_cancel_of_emod_eq_zero h3
    have hp : (rB r - rA r) / rC r ≠ 0 := fun w => by rw [w, Int.mul_zero] at hm; omega
    have hn := Int.ediv_nonneg (show 0 ≤ rB r - rA r by omega) (show 0 ≤ rC r by omega)
    rw [rgR_one (by omega), if_neg (by omega)]
    refine key _ _ _ ?_ ?_ rfl
    · rw [Int.mul_zero, Int.add_zero]
    · rw [hz, Int.add_sub_cancel, hm]; omega
theorem row3 {n : Nat} {f g : Nat → R3} (h : ∀ i, i < n → f i = g i) : Cl (.row [.int .i64, .int .i64, .int .i64] n f) (.row [.int .i64, .int .i64, .int .i64] n g) := ⟨rfl, eqShs_refl _, fun i hi => h i hi⟩
theorem rows_ok : ConOK P 141 c_rows := con_force (allOKL mixed kBr_ok lRw_ok) 10 141 fun args r hh => by
  unfold c_rows at hh
  split at hh
  · rename_i n f k s h L l
    have hp := (T.is_ask hh).1
    obtain rfl := T.is_ret (T.is_ask hh).2
    rw [lk_eq] at hp
    obtain ⟨hd, k4, l0, l1⟩ := hp
    obtain ⟨L1, L8, hc, hl⟩ := dmE_zero.1 hd
    obtain ⟨d1, fit⟩ := chD_zero.1 hc
    have hn := d1.1
    have r0 : RR (f 0) := d1.2 0 (by omega)
    have i0 := rr_64 r0
    obtain ⟨_, x0, x1⟩ := rr_size r0
    have ask0 : (0 : Int) ≤ 0 ∧ (0 : Int) < (n : Int) := ⟨by omega, by omega⟩
    have es : size (f 0).1 (f 0).2.1 (f 0).2.2.1 = szR (f 0) := rfl
    rcases fit_k fit with hk | hk | hk | ⟨hk, s1, s2⟩ | hk
    · have eN : rwN n f k s h L l = if l = h then 1 else 0 := by unfold rwN; rw [if_pos hk]
      have eF : rwF n f k s h L l = fun _ => f 0 := by funext j; unfold rwF; rw [if_pos hk, rg_all r0]
      by_cases hlh : l = h
      · rw [if_pos hlh] at eN
        exact ⟨_, by
          rw [t_rw0b]; simp only [lk_eq, tnO0, eN, eF]
          exact ⟨ask0, i0, U.eq_t.mpr hk, U.ne_f.mpr hlh, row3 fun _ _ => rfl⟩⟩
      · rw [if_neg hlh] at eN
        exact ⟨_, by
          rw [t_rw0a]; simp only [lk_eq, tnO0, eN, eF]
          exact ⟨ask0, i0, U.eq_t.mpr hk, U.ne_t.mpr hlh, cl_nil⟩⟩
    · have eN : rwN n f k s h L l = 1 := by unfold rwN; rw [if_neg (by omega), if_pos (.inl hk)]
      have eF : rwF n f k s h L l = fun _ => rgR (f 0) (loB (szR (f 0)) L l) (loB (szR (f 0)) L (l + 1)) 1 := by funext j; unfold rwF; rw [if_neg (by omega), if_pos hk]
      have ul := loB_u (L := L) x0 x1 l0 (by omega) L1 L8
      have ea : U.add .i64 l 1 = l + 1 := U.add64 (by unfold I64; omega)
      have um := loB_u (L := L) (l := l + 1) x0 x1 (by omega) (by omega) L1 L8
      obtain ⟨b1, b2⟩ := loB_bnd (L := L) x0 l0 (by omega) L1
      obtain ⟨b3, b4⟩ := loB_bnd (L := L) (l := l + 1) x0 (by omega) (by omega) L1
      have eC : U.mul .i64 (f 0).2.2.1 1 = rC (f 0) * 1 := U.mul64 (by
        show I64 (rC (f 0) * 1)
        rw [Int.mul_one]; exact i0.2.2)
      by_cases h1 : loB (szR (f 0)) L (l + 1) ≤ loB (szR (f 0)) L l
      · have eR := rg_A (r := f 0) (c := 1) h1
        exact ⟨_, by
          rw [t_rw1a]; simp only [lk_eq, tnO0, eN, eF, es, ea, ul, um, eR]
          exact ⟨ask0, i0, U.eq_f.mpr (by omega), U.eq_t.mpr hk, by omega, by omega, U.ge_t.mpr h1, row3 fun _ _ => rfl⟩⟩
      · have hz := zT_eq b1 (show loB (szR (f 0)) L l < loB (szR (f 0)) L (l + 1) by omega) (by omega) (Int.le_refl 1)
        by_cases h2 : nth (rA (f 0)) (rB (f 0)) (rC (f 0)) (loB (szR (f 0)) L l) = nth (rA (f 0)) (rB (f 0)) (rC (f 0)) (zT (loB (szR (f 0)) L l) (loB (szR (f 0)) L (l + 1)) 1)
        · have eR := rg_B r0 b1 b4 (Int.le_refl 1) (by omega) h2
          exact ⟨_, by
            rw [t_rw1b]; simp only [lk_eq, tnO0, eN, eF, es, ea, ul, um, eR]
            exact ⟨ask0, i0, U.eq_f.mpr (by omega), U.eq_t.mpr hk, by omega, by omega, U.ge_f.mpr (by omega), i0, by decide, i0, U.eq_t.mpr h2, row3 fun _ _ => rfl⟩⟩
        · have eR := rg_C r0 b1 b4 (Int.le_refl 1) (by omega) h2
          exact ⟨_, by
            rw [t_rw1c]; simp only [lk_eq, tnO0, eN, eF, es, ea, ul, um, eR, eC]
            exact ⟨ask0, i0, U.eq_f.mpr (by omega), U.eq_t.mpr hk, by omega, by omega, U.ge_f.mpr (by omega), i0, by decide, i0, U.eq_f.mpr h2, row3 fun _ _ => rfl⟩⟩
    · have eN : rwN n f k s h L l = 1 := by unfold rwN; rw [if_neg (by omega), if_pos (.inr hk)]
      have eF : rwF n f k s h L l = fun _ => rgR (f 0) l (szR (f 0)) L := by funext j; unfold rwF; rw [if_neg (by omega), if_neg (by omega), if_pos hk]
      have cb : rC (f 0) * L ≤ 2000000 * 8 ∧ 0 ≤ rC (f 0) * L := by
        have := right_c r0.1
        have hc0 := r0.2
        exact ⟨Int.mul_le_mul (by omega) L8 (by omega) (by omega), Int.mul_nonneg (by omega) (by omega)⟩
      have eC : U.mul .i64 (f 0).2.2.1 L = rC (f 0) * L := U.mul64 (by
        show I64 (rC (f 0) * L)
        unfold I64; omega)
      by_cases h1 : szR (f 0) ≤ l
      · have eR := rg_A (r := f 0) (c := L) h1
        exact ⟨_, by
          rw [t_rw2a]; simp only [lk_eq, tnO0, eN, eF, es, eR]
          exact ⟨ask0, i0, U.eq_f.mpr (by omega), U.eq_f.mpr (by omega), U.eq_t.mpr hk, U.ge_t.mpr h1, row3 fun _ _ => rfl⟩⟩
      · by_cases h2 : nth (rA (f 0)) (rB (f 0)) (rC (f 0)) l = nth (rA (f 0)) (rB (f 0)) (rC (f 0)) (zT l (szR (f 0)) L)
        · have eR := rg_B r0 l0 (Int.le_refl _) L1 (by omega) h2
          exact ⟨_, by
            rw [t_rw2b]; simp only [lk_eq, tnO0, eN, eF, es, eR]
            exact ⟨ask0, i0, U.eq_f.mpr (by omega), U.eq_f.mpr (by omega), U.eq_t.mpr hk, U.ge_f.mpr (by omega), i0, by omega, i0, U.eq_t.mpr h2, row3 fun _ _ => rfl⟩⟩
        · have eR := rg_C r0 l0 (Int.le_refl _) L1 (by omega) h2
          exact ⟨_, by
            rw [t_rw2c]; simp only [lk_eq, tnO0, eN, eF, es, eR, eC]
            exact ⟨ask0, i0, U.eq_f.mpr (by omega), U.eq_f.mpr (by omega), U.eq_t.mpr hk, U.ge_f.mpr (by omega), i0, by omega, i0, U.eq_f.mpr h2, row3 fun _ _ => rfl⟩⟩
    · have eN : rwN n f k s h L l = bcN (szR (f 0)) L s l := by unfold rwN; rw [if_neg (by omega), if_neg (by omega)]
      have eF : rwF n f k s h L l = bcF (f 0) (szR (f 0)) L s l := by funext j; unfold rwF; rw [if_neg (by omega), if_neg (by omega), if_neg (by omega)]
      have m1 : l * s ≤ 8 * 1000 := Int.mul_le_mul (by omega) s2 (by omega) (by omega)
      have m0 : 0 ≤ l * s := Int.mul_nonneg l0 (by omega)
      have em : U.mul .i64 l s = l * s := U.mul64 (by unfold I64; omega)
      have et : tr3 (f 0).1 (f 0).2.1 (f 0).2.2.1 = f 0 := rfl
      exact ⟨_, by
        rw [t_rw3]; simp only [lk_eq, tnO0, eN, eF, es, em, loS_mul s1, et]
        exact ⟨ask0, i0, U.eq_f.mpr (by omega), U.eq_f.mpr (by omega), U.eq_f.mpr (by omega), ⟨⟨rfl, r0, rfl, s1, s2, l0, l1, L8, rfl⟩, trivial, trivial, trivial, trivial⟩, row3 fun _ _ => rfl⟩⟩
    · exact absurd hk k4
  · exact hh.elim
end Go.RX.Span

/- Domain maps: Concat of rows and the rest: the loops, unrolled. -/
set_option linter.unusedVariables false
set_option linter.unusedSimpArgs false
set_option maxRecDepth 100000
namespace Go.RX.Span
open Go Go.RX
attribute [local irreducible] sx conB

noncomputable abbrev lCr : List (Nat × Loops) := [(142, [(3, .un 3), (11, .un 3)])] --%K
abbrev RLr := Els [.sl [.int .i64, .int .i64, .int .i64]]
end Go.RX.Span

/- Domain maps: Concat of rows and the rest. -/
set_option linter.unusedVariables false
set_option linter.unusedSimpArgs false
set_option maxRecDepth 100000
namespace Go.RX.Span
open Go Go.RX
attribute [local irreducible] sx conB

noncomputable def c_CatR : Con := fun args => match args with
  | [.row [.sl [.int .i64, .int .i64, .int .i64]] 2 F] => .ask (1 ≤ (F 0).1.1 ∧ (F 0).1.1 ≤ 100 ∧ (F 1).1.1 ≤ 100) (.ret (.row [.int .i64, .int .i64, .int .i64] ((F 0).1.1 + (F 1).1.1) (U.cat (F 0).1.1 (F 0).1.2 (F 1).1.2)))
  | _ => .stuck 1
--%R < ↑2 => < ((2 : Nat) : Int)
--%R < ↑\(2 : Nat\) => < ((2 : Nat) : Int)
set_option maxRecDepth 100000 in
theorem t_CatR (F : Nat → RLr) : (conB Go.Proofs.Try.prog (conOf []) (loopsOf lCr) 10 142 [.row [.sl [.int .i64, .int .i64, .int .i64]] 2 F]).force [true, false, true, false, false, false, true, true, true, false] =
    T.ask (U.lt (0 : Int) (2 : Int) = true) (.ask ((0 : Int) ≤ (0 : Int) ∧ (0 : Int) < ((2 : Nat) : Int)) (.ask (U.lt (U.add .i64 0 (Int.ofNat (F (U.toNat (Int.ofNat 0))).fst.1)) (0 :
      Int) = false) (.ask (U.lt (1 : Int) (2 : Int) = true) (.ask ((0 : Int) ≤ (1 : Int) ∧ (1 : Int) < ((2 : Nat) : Int)) (.ask (U.lt (U.add .i64 (U.add .i64 0 (Int.ofNat (F (U.toNat
      (Int.ofNat 0))).fst.1)) (Int.ofNat (F (U.toNat (Int.ofNat 1))).fst.1)) (0 : Int) = false) (.ask (U.lt (2 : Int) (2 : Int) = false) (.ask (U.lt (U.add .i64 (U.add .i64 0 (Int.ofNat
      (F (U.toNat (Int.ofNat 0))).fst.1)) (Int.ofNat (F (U.toNat (Int.ofNat 1))).fst.1)) (0 : Int) = false) (.ask (U.gt (U.sub .i64 (U.add .i64 (U.add .i64 0 (Int.ofNat (F (U.toNat
      (Int.ofNat 0))).fst.1)) (Int.ofNat (F (U.toNat (Int.ofNat 1))).fst.1)) (0 : Int)) (0 : Int) = true) (.ask ((0 : Int) < U.sub .i64 (U.add .i64 (U.add .i64 0 (Int.ofNat (F (U.toNat
      (Int.ofNat 0))).fst.1)) (Int.ofNat (F (U.toNat (Int.ofNat 1))).fst.1)) (0 : Int) ∧ ↑(nat_lit 24) * U.sub .i64 (U.add .i64 (U.add .i64 0 (Int.ofNat (F (U.toNat (Int.ofNat
      0))).fst.1)) (Int.ofNat (F (U.toNat (Int.ofNat 1))).fst.1)) (0 : Int) ≤ (140737488351232 : Int)) (.ask (U.lt (0 : Int) (2 : Int) = true) (.ask ((0 : Int) ≤ (0 : Int) ∧ (0 : Int) <
      ((2 : Nat) : Int)) (.ask (((0 : Nat) + (F (U.toNat (Int.ofNat 0))).fst.1) * nat_lit 24 ≤ nat_lit 140737488351232) (.ask (U.lt (1 : Int) (2 : Int) = true) (.ask ((0 : Int) ≤ (1 :
      Int) ∧ (1 : Int) < ((2 : Nat) : Int)) (.ask (((0 : Nat) + (F (U.toNat (Int.ofNat 0))).fst.1 + (F (U.toNat (Int.ofNat 1))).fst.1) * nat_lit 24 ≤ nat_lit 140737488351232) (.ask (U.lt
      (2 : Int) (2 : Int) = false) (.ret (.row [.int .i64, .int .i64, .int .i64] (nat_lit 0 + (F (U.toNat (Int.ofNat 0))).fst.1 + (F (U.toNat (Int.ofNat 1))).fst.1) (U.cat (nat_lit 0 + (F
      (U.toNat (Int.ofNat 0))).fst.1) (U.cat (nat_lit 0) (fun x => ((0 : Int), (0 : Int), (0 : Int), PUnit.unit)) (F (U.toNat (Int.ofNat 0))).fst.2) (F (U.toNat (Int.ofNat
      1))).fst.2))))))))))))))))))) := by kernel_rfl
theorem lCr_ok : ∀ p ∈ lCr, LoopsOK P p.2 (bodyOf P p.1) := by
  intro p hp
  simp only [lCr, List.mem_singleton] at hp
  subst hp
  exact loopsOK_un fun q hq => by
    simp only [List.mem_cons, List.not_mem_nil, or_false] at hq
    rcases hq with rfl | rfl <;> exact ⟨3, rfl⟩
theorem CatR_ok : ConOK P 142 c_CatR := con_force (allOKL mixed none_ok lCr_ok) 10 142 fun args r h => by
  unfold c_CatR at h
  split at h
  · rename_i F
    obtain ⟨h1, h2, h3⟩ := (T.is_ask h).1
    obtain rfl := T.is_ret (T.is_ask h).2
    refine ⟨_, T.all_of_eq (t_CatR F) ?_⟩
    have t0 : U.toNat (Int.ofNat 0) = 0 := tn 0
    have t1 : U.toNat (Int.ofNat 1) = 1 := tn 1
    generalize ha : (F 0).1.1 = a at *
    generalize hb : (F 1).1.1 = b at *
    have e1 : U.add .i64 0 (Int.ofNat a) = (a : Int) := by rw [U.add64 (by simp only [Int.ofNat_eq_natCast]; unfold I64; omega)]; simp
    have e2 : U.add .i64 (a : Int) (Int.ofNat b) = (a : Int) + b := U.add64 (by simp only [Int.ofNat_eq_natCast]; unfold I64; omega)
    have e3 : U.sub .i64 ((a : Int) + b) 0 = (a : Int) + b := by rw [U.sub64 (by unfold I64; omega)]; omega
    simp only [t0, t1, ha, hb, e1, e2, e3]
    have ez : U.cat 0 (fun x => ((0 : Int), (0 : Int), (0 : Int), PUnit.unit)) (F 0).1.2 = (F 0).1.2 := funext fun i => (U.cat_eq _ _ _ _).trans (if_neg (Nat.not_lt_zero _))
    refine ⟨U.lt_t.mpr (by decide), ⟨by decide, by decide⟩, U.lt_f.mpr (by omega), U.lt_t.mpr (by decide), ⟨by decide, by decide⟩, U.lt_f.mpr (by omega), U.lt_f.mpr (by decide), U.lt_f.mpr (by omega), U.gt_t.mpr (by omega), ⟨by omega, ?_⟩, U.lt_t.mpr (by decide), ⟨by decide, by decide⟩, ?_, U.lt_t.mpr (by decide), ⟨by decide, by decide⟩, ?_, U.lt_f.mpr (by decide), ⟨by omega, eqShs_refl _, fun i hi => ?_⟩⟩
    · show (24 : Int) * ((a : Int) + b) ≤ 140737488351232
      omega
    · show (0 + a) * 24 ≤ 140737488351232
      omega
    · show (0 + a + b) * 24 ≤ 140737488351232
      omega
    · show U.cat (0 + a) (U.cat 0 (fun x => ((0 : Int), (0 : Int), (0 : Int), PUnit.unit)) (F 0).1.2) (F 1).1.2 i = U.cat a (F 0).1.2 (F 1).1.2 i
      rw [ez, Nat.zero_add]; rfl
  · exact h.elim
end Go.RX.Span

/- Domain maps: Blocks: the lists. -/
set_option linter.unusedVariables false
set_option linter.unusedSimpArgs false
set_option maxRecDepth 100000
namespace Go.RX.Span
open Go Go.RX
attribute [local irreducible] sx conB

noncomputable abbrev kBk : List (Nat × Con) := [(134, c_located), (141, c_rows), (142, c_CatR), (41, c_DSize)] --%K
theorem kBk_ok : ∀ p ∈ kBk, ConOK P p.1 p.2 := by
  intro p hp
  simp only [kBk, List.mem_cons, List.not_mem_nil, or_false] at hp
  rcases hp with rfl | rfl | rfl | rfl
  · exact located_ok
  · exact rows_ok
  · exact CatR_ok
  · exact DSize_ok
noncomputable abbrev EBk : Env := ⟨P, conOf kBk, scall P (conOf kBk) noLoops 10⟩
theorem EBk_ok : EnvOK EBk := envOK (allOK mixed kBk_ok) 10
end Go.RX.Span

/- Domain maps: Blocks: the loop's states, the contract. -/
set_option linter.unusedVariables false
set_option linter.unusedSimpArgs false
set_option maxRecDepth 100000
namespace Go.RX.Span
open Go Go.RX
attribute [local irreducible] sx conB

/-- A row of blocks as a domain: the rows, then what the domain has beside its first range. -/
noncomputable def bkD (n : Nat) (f : Nat → R3) (k s h : Int) (r : R3) : DE := ((1 + (n - 1), U.cat 1 (fun _ => r) fun i => f (i + 1)), k, s, h, ())
noncomputable def bkL (n : Nat) (f : Nat → R3) (k s h : Int) (F : Nat → R3) (m : Nat) : DL := pushes (fun j => bkD n f k s h (F j)) noD m
noncomputable def bkN (n : Nat) (f : Nat → R3) (k s h : Int) (F : Nat → R3) (m : Nat) : Nat := (bkL n f k s h F m).1
noncomputable def bkG (n : Nat) (f : Nat → R3) (k s h : Int) (F : Nat → R3) (m : Nat) : Nat → DE := (bkL n f k s h F m).2
def PreBk (n0 n : Nat) (f : Nat → R3) (m : Nat) (F : Nat → R3) : Prop := n0 = 0 ∧ (n = 1 ∨ n = 2) ∧ Row64 n f ∧ m ≤ 3000000 ∧ Row64 m F
noncomputable abbrev slBk (u : Bool) (N : Nat) (m : Nat) (F : Nat → R3) (i : Int) : List SV := [.ptr 0 0, .own u 1 N, .row [.int .i64, .int .i64, .int .i64] m F, .lit (.int .i64 (m : Int)), .lit (.int .i64 i)]
noncomputable abbrev memBk (n : Nat) (f : Nat → R3) (k s h : Int) (u : Bool) (N : Nat) (G : Nat → DE) : Mem := [boxD n f k s h, (0, some (.row u N ssD G 49))]
noncomputable def gBk : Nat → Few → T (Ex × Few)
  | n0, ([.ptr 0 0, .lit (.slice none 0 0), .row [.int .i64, .int .i64, .int .i64] m F, .lit (.int .i64 m'), .ki .i64 0],
      [(_, some (.cells [.row [.int .i64, .int .i64, .int .i64] n f, .lit (.int .i64 k), .lit (.int .i64 s), .lit (.int .i64 h)] t0))]) =>
    .ask (lk PreBk n0 n f m F ∧ m' = (m : Int) ∧ t0 = 49)
      (.ret (.exit 0, ([.any, .own (U.isz (lk bkN n f k s h F m)) 1 (lk bkN n f k s h F m), .any, .any, .any], [(0, none), (0, some (.row (U.isz (lk bkN n f k s h F m)) (lk bkN n f k s h F m) ssD (lk bkG n f k s h F m) 49))])))
  | _, _ => .stuck 1
noncomputable abbrev lBk : List (Nat × Loops) := [(57, [(8, .sum (few 52 [3,9,27,28,29] gBk))])] --%K
def blE (n : Nat) (f : Nat → R3) (k s h L l : Int) : Int := if lcE n f k s h L l ≠ 0 then lcE n f k s h L l else if k = 4 then 70 else 0
noncomputable def blN (n : Nat) (f : Nat → R3) (k s h L l : Int) : Nat := if blE n f k s h L l ≠ 0 then 0 else bkN n f k s h (rwF n f k s h L l) (rwN n f k s h L l)
noncomputable def blG (n : Nat) (f : Nat → R3) (k s h L l : Int) : Nat → DE := bkG n f k s h (rwF n f k s h L l) (rwN n f k s h L l)
noncomputable def c_Blocks : Con := fun args => match args with
  | [.agg [.row [.int .i64, .int .i64, .int .i64] n f, .lit (.int .i64 k), .lit (.int .i64 s), .lit (.int .i64 h)], .lit (.int .i64 L), .lit (.int .i64 l)] => .ask (Row64 n f) (.ret (.tup [.row ssD (lk blN n f k s h L l) (lk blG n f k s h L l), .lit (.int .i64 (lk blE n f k s h L l))]))
  | _ => .stuck 1
end Go.RX.Span

/- Domain maps: Blocks: the walks. -/
set_option linter.unusedVariables false
set_option linter.unusedSimpArgs false
set_option maxRecDepth 100000
namespace Go.RX.Span
open Go Go.RX
attribute [local irreducible] sx conB

--%R i < ↑m => i < ((m : Nat) : Int)
--%R ≤ ↑n ∧ ↑n ≤ ↑n => ≤ ((n : Nat) : Int) ∧ ((n : Nat) : Int) ≤ ((n : Nat) : Int)
set_option maxRecDepth 100000 in
theorem t_Bk (n : Nat) (f : Nat → R3) (k s h : Int) (u : Bool) (N : Nat) (G : Nat → DE) (m : Nat) (F : Nat → R3) (i : Int) : (sx EBk [] 0 (loopOf P 57 8) (mkS 52 [3,9,27,28,29] (slBk u N m F i), memBk n f k s h u N G)).bind (proj 52 [3,9,27,28,29]) =
    T.br (U.lt i (Int.ofNat m)) (.ask ((0 : Int) ≤ i ∧ i < ((m : Nat) : Int)) (.ask ((0 : Int) ≤ (1 : Int) ∧ (1 : Int) ≤ ((n : Nat) : Int) ∧ ((n : Nat) : Int) ≤ ((n : Nat) : Int)) (.ask
      ((1 : Nat) ≤ nat_lit 1 ∧ nat_lit 1 ≤ (100 : Nat) ∧ U.nsub n (U.toNat (1 : Int)) ≤ (100 : Nat)) (.ask (Row64 (nat_lit 1 + U.nsub n (U.toNat (1 : Int))) (U.cat (nat_lit 1) (fun x =>
      ((F (U.toNat i)).1, (F (U.toNat i)).2.1, (F (U.toNat i)).2.2.1, PUnit.unit)) fun i => f (i + U.toNat (1 : Int)))) (.br (U.gt (lk szD (nat_lit 1 + U.nsub n (U.toNat (1 : Int)))
      (U.cat (nat_lit 1) (fun x => ((F (U.toNat i)).1, (F (U.toNat i)).2.1, (F (U.toNat i)).2.2.1, PUnit.unit)) fun i => f (i + U.toNat (1 : Int))) k s h) (0 : Int)) (.ask ((N + (1 :
      Nat)) * nat_lit 48 ≤ nat_lit 140737488351232) (.ret (Ex.normal, [SV.ptr (nat_lit 0) (nat_lit 0), SV.own false (nat_lit 7) (N.add (nat_lit 1)), .row [.int .i64, .int .i64, .int .i64]
      m F, .lit (.int .i64 (Int.ofNat m)), .lit (.int .i64 (U.add .i64 i (1 : Int)))], [(nat_lit 0, some (Blk.cells [.row [.int .i64, .int .i64, .int .i64] n f, .lit (.int .i64 k), .lit
      (.int .i64 s), .lit (.int .i64 h)] (nat_lit 49))), (nat_lit 1, none), (nat_lit 1, some (Blk.cells [.lit (.int .i64 (F (U.toNat i)).1), .lit (.int .i64 (F (U.toNat i)).2.1), .lit
      (.int .i64 (F (U.toNat i)).2.2.1)] (nat_lit 23))), (nat_lit 1, none), (nat_lit 1, none), (nat_lit 1, some (Blk.cells [.row [.int .i64, .int .i64, .int .i64] (nat_lit 1 + U.nsub n
      (U.toNat (1 : Int))) (U.cat (nat_lit 1) (fun x => ((F (U.toNat i)).1, (F (U.toNat i)).2.1, (F (U.toNat i)).2.2.1, PUnit.unit)) fun i => f (i + U.toNat (1 : Int))), .lit (.int .i64
      k), .lit (.int .i64 s), .lit (.int .i64 h)] (nat_lit 49))), (nat_lit 0, some (Blk.cells [.row [.int .i64, .int .i64, .int .i64] (nat_lit 1 + U.nsub n (U.toNat (1 : Int))) (U.cat
      (nat_lit 1) (fun x => ((F (U.toNat i)).1, (F (U.toNat i)).2.1, (F (U.toNat i)).2.2.1, PUnit.unit)) fun i => f (i + U.toNat (1 : Int))), .lit (.int .i64 k), .lit (.int .i64 s), .lit
      (.int .i64 h)] (nat_lit 49))), (nat_lit 0, some (Blk.row false (N.add (nat_lit 1)) [.sl [.int .i64, .int .i64, .int .i64], .int .i64, .int .i64, .int .i64] (U.cat N G fun x =>
      ((nat_lit 1 + U.nsub n (U.toNat (1 : Int)), U.cat (nat_lit 1) (fun x => ((F (U.toNat i)).1, (F (U.toNat i)).2.1, (F (U.toNat i)).2.2.1, PUnit.unit)) fun i => f (i + U.toNat (1 :
      Int))), k, s, h, PUnit.unit)) (nat_lit 49)))]))) (.ret (Ex.normal, [SV.ptr (nat_lit 0) (nat_lit 0), SV.own u (nat_lit 1) N, .row [.int .i64, .int .i64, .int .i64] m F, .lit (.int
      .i64 (Int.ofNat m)), .lit (.int .i64 (U.add .i64 i (1 : Int)))], [(nat_lit 0, some (Blk.cells [.row [.int .i64, .int .i64, .int .i64] n f, .lit (.int .i64 k), .lit (.int .i64 s),
      .lit (.int .i64 h)] (nat_lit 49))), (nat_lit 0, some (Blk.row u N [.sl [.int .i64, .int .i64, .int .i64], .int .i64, .int .i64, .int .i64] G (nat_lit 49))), (nat_lit 1, some
      (Blk.cells [.lit (.int .i64 (F (U.toNat i)).1), .lit (.int .i64 (F (U.toNat i)).2.1), .lit (.int .i64 (F (U.toNat i)).2.2.1)] (nat_lit 23))), (nat_lit 1, none), (nat_lit 1, none),
      (nat_lit 1, some (Blk.cells [.row [.int .i64, .int .i64, .int .i64] (nat_lit 1 + U.nsub n (U.toNat (1 : Int))) (U.cat (nat_lit 1) (fun x => ((F (U.toNat i)).1, (F (U.toNat i)).2.1,
      (F (U.toNat i)).2.2.1, PUnit.unit)) fun i => f (i + U.toNat (1 : Int))), .lit (.int .i64 k), .lit (.int .i64 s), .lit (.int .i64 h)] (nat_lit 49)))]))))))) (.ret (Ex.exit (nat_lit
      0), [SV.ptr (nat_lit 0) (nat_lit 0), SV.own u (nat_lit 1) N, .row [.int .i64, .int .i64, .int .i64] m F, .lit (.int .i64 (Int.ofNat m)), .lit (.int .i64 i)], [(nat_lit 0, some
      (Blk.cells [.row [.int .i64, .int .i64, .int .i64] n f, .lit (.int .i64 k), .lit (.int .i64 s), .lit (.int .i64 h)] (nat_lit 49))), (nat_lit 0, some (Blk.row u N [.sl [.int .i64,
      .int .i64, .int .i64], .int .i64, .int .i64, .int .i64] G (nat_lit 49)))])) := by kernel_rfl
set_option maxRecDepth 100000 in
theorem t_Bl1 (n : Nat) (f : Nat → R3) (k s h L l : Int) : (conB Go.Proofs.Try.prog (conOf kBk) (loopsOf lBk) 10 57 [.agg [.row [.int .i64, .int .i64, .int .i64] n f, .lit (.int .i64 k), .lit (.int .i64 s), .lit (.int .i64 h)], .lit (.int .i64 L), .lit (.int .i64 l)]).force [true] =
    T.ask (Row64 n f) (.ask (U.ne (lk lcE n f k s h L l) (0 : Int) = true) (.ret (.tup [.lit (.slice none (nat_lit 0) (nat_lit 0)), .lit (.int .i64 (lk lcE n f k s h L l))]))) := by kernel_rfl
set_option maxRecDepth 100000 in
theorem t_Bl2 (n : Nat) (f : Nat → R3) (k s h L l : Int) : (conB Go.Proofs.Try.prog (conOf kBk) (loopsOf lBk) 10 57 [.agg [.row [.int .i64, .int .i64, .int .i64] n f, .lit (.int .i64 k), .lit (.int .i64 s), .lit (.int .i64 h)], .lit (.int .i64 L), .lit (.int .i64 l)]).force [false, true] =
    T.ask (Row64 n f) (.ask (U.ne (lk lcE n f k s h L l) (0 : Int) = false) (.ask (U.eq k (4 : Int) = true) (.ret (.tup [.lit (.slice none (nat_lit 0) (nat_lit 0)), .lit (.int .i64
      70)])))) := by kernel_rfl
set_option maxRecDepth 100000 in
theorem t_Bl3 (n : Nat) (f : Nat → R3) (k s h L l : Int) : (conB Go.Proofs.Try.prog (conOf kBk) (loopsOf lBk) 10 57 [.agg [.row [.int .i64, .int .i64, .int .i64] n f, .lit (.int .i64 k), .lit (.int .i64 s), .lit (.int .i64 h)], .lit (.int .i64 L), .lit (.int .i64 l)]).force [false, false] =
    T.ask (Row64 n f) (.ask (U.ne (lk lcE n f k s h L l) (0 : Int) = false) (.ask (U.eq k (4 : Int) = false) (.ask (lk RwAsk n f k s h L l) (.ask (lk PreBk (nat_lit 0) n f (lk rwN n f k
      s h L l) (lk rwF n f k s h L l) ∧ ((lk rwN n f k s h L l : Nat) : Int) = ((lk rwN n f k s h L l : Nat) : Int) ∧ (49 : Nat) = (49 : TypeId)) (.ret (.tup [.row [.sl [.int .i64, .int
      .i64, .int .i64], .int .i64, .int .i64, .int .i64] (lk bkN n f k s h (lk rwF n f k s h L l) (lk rwN n f k s h L l)) (lk bkG n f k s h (lk rwF n f k s h L l) (lk rwN n f k s h L l)),
      .lit (.int .i64 0)])))))) := by kernel_rfl
end Go.RX.Span

/- Domain maps: Blocks. -/
set_option linter.unusedVariables false
set_option linter.unusedSimpArgs false
set_option maxRecDepth 100000
namespace Go.RX.Span
open Go Go.RX
attribute [local irreducible] sx conB

theorem add1q {j : Nat} (h : j ≤ 1000000000) : U.add .i64 (j : Int) 1 = ((j + 1 : Nat) : Int) := by rw [U.add64 (by unfold I64; omega)]; omega
theorem bkL_yes {n : Nat} {f : Nat → R3} {k s h : Int} {F : Nat → R3} {j : Nat} (g : 0 < szE (bkD n f k s h (F j))) : bkN n f k s h F (j + 1) = bkN n f k s h F j + 1 ∧ bkG n f k s h F (j + 1) = U.cat (bkN n f k s h F j) (bkG n f k s h F j) fun _ => bkD n f k s h (F j) := by
  have e : bkL n f k s h F (j + 1) = (bkN n f k s h F j + 1, U.cat (bkN n f k s h F j) (bkG n f k s h F j) fun _ => bkD n f k s h (F j)) := by
    show push (bkL n f k s h F j) (bkD n f k s h (F j)) = _
    unfold push; rw [if_pos g]; rfl
  unfold bkN bkG at *
  rw [e]; exact ⟨rfl, rfl⟩
theorem bkL_no {n : Nat} {f : Nat → R3} {k s h : Int} {F : Nat → R3} {j : Nat} (g : ¬ 0 < szE (bkD n f k s h (F j))) : bkN n f k s h F (j + 1) = bkN n f k s h F j ∧ bkG n f k s h F (j + 1) = bkG n f k s h F j := by
  have e : bkL n f k s h F (j + 1) = bkL n f k s h F j := by
    show push (bkL n f k s h F j) (bkD n f k s h (F j)) = _
    unfold push; rw [if_neg g]
  unfold bkN bkG
  rw [e]; exact ⟨rfl, rfl⟩
theorem bkN_le (n : Nat) (f : Nat → R3) (k s h : Int) (F : Nat → R3) : ∀ j, bkN n f k s h F j ≤ j
  | 0 => Nat.le_refl 0
  | j + 1 => by
    have ih := bkN_le n f k s h F j
    by_cases g : 0 < szE (bkD n f k s h (F j))
    · rw [(bkL_yes g).1]; omega
    · rw [(bkL_no g).1]; omega
structure XBk where
  (n : Nat) (f : Nat → R3) (k s h : Int) (m : Nat) (F : Nat → R3) (j : Nat)
noncomputable abbrev VBk (q : XBk) : Few := (slBk (U.isz (bkN q.n q.f q.k q.s q.h q.F q.j)) (bkN q.n q.f q.k q.s q.h q.F q.j) q.m q.F (q.j : Int), memBk q.n q.f q.k q.s q.h (U.isz (bkN q.n q.f q.k q.s q.h q.F q.j)) (bkN q.n q.f q.k q.s q.h q.F q.j) (bkG q.n q.f q.k q.s q.h q.F q.j))
noncomputable def OBk (q : XBk) : Ex × Few := (.exit 0, ([.any, .own (U.isz (bkN q.n q.f q.k q.s q.h q.F q.m)) 1 (bkN q.n q.f q.k q.s q.h q.F q.m), .any, .any, .any], [(0, none), (0, some (.row (U.isz (bkN q.n q.f q.k q.s q.h q.F q.m)) (bkN q.n q.f q.k q.s q.h q.F q.m) ssD (bkG q.n q.f q.k q.s q.h q.F q.m) 49))]))
def PhiBk (n0 : Nat) (q : XBk) : Prop := PreBk n0 q.n q.f q.m q.F ∧ q.j ≤ q.m
theorem slBk_rl {ρ : Ren} {b b' : Nat} {u u' : Bool} {N N' : Nat} {m : Nat} {F : Nat → R3} {i i' : Int} (h0 : ρ.of 0 = some 0) (hb : ρ.of b' = some b) (hu : u = u') (hN : N = N') (hi : i = i') :
    RlL ρ [.ptr 0 0, .own u b N, .row [.int .i64, .int .i64, .int .i64] m F, .lit (.int .i64 (m : Int)), .lit (.int .i64 i)] [.ptr 0 0, .own u' b' N', .row [.int .i64, .int .i64, .int .i64] m F, .lit (.int .i64 (m : Int)), .lit (.int .i64 i')] := by
  subst hu hN hi
  exact ⟨⟨h0, rfl⟩, ⟨rfl, rfl, hb⟩, ⟨rfl, sameR fun _ _ => rfl⟩, rfl, rfl, trivial⟩
theorem row_bk {n : Nat} {f : Nat → R3} {m : Nat} {F : Nat → R3} (hn : n = 1 ∨ n = 2) (hf : Row64 n f) (hF : Row64 m F) {j : Nat} (hj : j < m) : Row64 (1 + (n - 1)) (U.cat 1 (fun _ => F j) fun i => f (i + 1)) := fun i hi => by
  have e : U.cat 1 (fun _ => F j) (fun i => f (i + 1)) i = if i < 1 then F j else f (i - 1 + 1) := U.cat_eq _ _ _ _
  rw [e]
  by_cases h : i < 1
  · rw [if_pos h]; exact hF j hj
  · rw [if_neg h]; exact hf _ (by omega)
theorem roundBk (n0 : Nat) (q : XBk) (hq : PhiBk n0 q) : ((sx EBk [] n0 (loopOf P 57 8) (mkS 52 [3,9,27,28,29] (VBk q).1, (VBk q).2)).bind (proj 52 [3,9,27,28,29])).All fun r => match r.1 with
      | .normal => ∃ q', PhiBk n0 q' ∧ q'.m - q'.j < q.m - q.j ∧ Wk 52 [3,9,27,28,29] n0 r.2 (VBk q') ∧ ∀ o, o = OBk q' → o = OBk q
      | e => ∃ s, (e, s) = OBk q ∧ Wk 52 [3,9,27,28,29] n0 r.2 s := by
  obtain ⟨n, f, k, s, h, m, F, j⟩ := q
  obtain ⟨⟨h0, hn, hf, hm, hF⟩, hj⟩ := hq
  have hj : j ≤ m := hj
  have hm : m ≤ 3000000 := hm
  have hn : n = 1 ∨ n = 2 := hn
  simp only [] at h0 hf hF
  subst h0
  have nb := bkN_le n f k s h F j
  refine T.all_of_eq (t_Bk n f k s h (U.isz (bkN n f k s h F j)) (bkN n f k s h F j) (bkG n f k s h F j) m F (j : Int)) ?_
  have e2 := add1q (j := j) (by omega)
  have t1 : U.toNat 1 = 1 := tn 1
  by_cases hlt : j < m
  · simp only [e2, tnH, t1, U.nsub_eq, lk_eq]
    refine ⟨fun _ => ⟨⟨by omega, by omega⟩, ⟨by omega, by omega, by omega⟩, ⟨?_, ?_, ?_⟩, row_bk hn hf hF hlt, fun g => ?_, fun g => ?_⟩, fun g => absurd (U.lt_f.mp g) (by simp only [Int.ofNat_eq_natCast]; omega)⟩
    · exact Nat.le_refl 1
    · show 1 ≤ 100
      omega
    · show n - 1 ≤ 100
      omega
    · have g : 0 < szE (bkD n f k s h (F j)) := U.gt_t.mp g
      obtain ⟨y1, y2⟩ := bkL_yes g
      have iz : U.isz (bkN n f k s h F (j + 1)) = false := by rw [y1]; exact isz_s _
      refine ⟨?_, ⟨n, f, k, s, h, m, F, j + 1⟩, ⟨⟨rfl, hn, hf, hm, hF⟩, hlt⟩, (show m - (j + 1) < m - j by omega), ?_, fun o ho => ho⟩
      · show (bkN n f k s h F j + 1) * 48 ≤ 140737488351232
        omega
      · refine wk_of [some 0, some 7] rfl (Nat.zero_le _) (ren1z _) (slBk_rl rfl rfl iz.symm y1.symm rfl) ⟨⟨rfl, ⟨rfl, sameR fun _ _ => rfl⟩, rfl, rfl, rfl, trivial⟩, ⟨rfl, iz.symm, y1.symm, ⟨eqShs_refl _, fun t ht => ?_⟩⟩, trivial⟩
        exact (congrFun y2 t).symm
    · have g : ¬ 0 < szE (bkD n f k s h (F j)) := by
        have := U.gt_f.mp g
        show ¬ 0 < szD (1 + (n - 1)) (U.cat 1 (fun _ => F j) fun i => f (i + 1)) k s h
        exact fun w => absurd w (Int.not_lt.2 this)
      obtain ⟨y1, y2⟩ := bkL_no g
      refine ⟨⟨n, f, k, s, h, m, F, j + 1⟩, ⟨⟨rfl, hn, hf, hm, hF⟩, hlt⟩, (show m - (j + 1) < m - j by omega), ?_, fun o ho => ho⟩
      exact wk_of [some 0, some 1] rfl (Nat.zero_le _) (ren1z _) (slBk_rl rfl rfl (congrArg U.isz y1.symm) y1.symm rfl) ⟨⟨rfl, ⟨rfl, sameR fun _ _ => rfl⟩, rfl, rfl, rfl, trivial⟩, ⟨rfl, congrArg U.isz y1.symm, y1.symm, ⟨eqShs_refl _, fun t ht => (congrFun y2 t).symm⟩⟩, trivial⟩
  · obtain rfl : j = m := by omega
    refine ⟨fun g => absurd (U.lt_t.mp g) (by simp only [Int.ofNat_eq_natCast]; omega), fun _ => ⟨_, rfl, ?_⟩⟩
    exact wk_of [none, some 1] rfl (Nat.zero_le _) (ren1z _) ⟨rl_any _, ⟨rfl, rfl, rfl⟩, rl_any _, rl_any _, rl_any _, trivial⟩ ⟨⟨rfl, rfl, rfl, ⟨eqShs_refl _, fun t ht => rfl⟩⟩, trivial⟩
theorem loopBk : LoopOK P (loopOf P 57 8) (few 52 [3,9,27,28,29] gBk) :=
  loop_few (E := EBk) mixed EBk_ok loopsOK_none 52 [3,9,27,28,29] (X := XBk) gBk (fun _ x => VBk x) PhiBk (fun q => q.m - q.j) (fun _ x o => o = OBk x)
    (fun n0 st r hh => by
      unfold gBk at hh
      split at hh
      · rename_i n0 m F m' g0 n f k s h t0
        obtain ⟨hp, rfl, rfl⟩ := (T.is_ask hh).1
        obtain rfl := T.is_ret (T.is_ask hh).2
        rw [lk_eq] at hp
        have h0 := hp.1
        subst h0
        have z : bkN n f k s h F 0 = 0 := rfl
        have zi : U.isz (bkN n f k s h F 0) = true := by rw [z, U.isz_eq]; rfl
        refine ⟨⟨n, f, k, s, h, m, F, 0⟩, ⟨hp, Nat.zero_le _⟩, wk_of [some 0, none] rfl (Nat.zero_le _) (ren1z _) ⟨⟨rfl, rfl⟩, ⟨rfl, zi, z⟩, ⟨rfl, sameR fun _ _ => rfl⟩, rfl, rfl, trivial⟩ ⟨⟨rfl, ⟨rfl, sameR fun _ _ => rfl⟩, rfl, rfl, rfl, trivial⟩, ⟨zi, z⟩, trivial⟩, fun o ho => ?_⟩
        rw [ho]
        simp only [lk_eq]; rfl
      · exact hh.elim)
    roundBk
theorem lBk_ok : ∀ p ∈ lBk, LoopsOK P p.2 (bodyOf P p.1) := by
  intro p hp
  simp only [lBk, List.mem_singleton] at hp
  subst hp
  refine loopsOK_of (by kernel_rfl) fun k g hk => ?_
  simp only [List.mem_singleton, Prod.mk.injEq, LoopC.sum.injEq] at hk
  obtain ⟨rfl, rfl⟩ := hk
  exact loopBk
end Go.RX.Span

/- Domain maps: Blocks: the contract. -/
set_option linter.unusedVariables false
set_option linter.unusedSimpArgs false
set_option maxRecDepth 100000
namespace Go.RX.Span
open Go Go.RX
attribute [local irreducible] sx conB

theorem rgR_64 {r : R3} (hr : RR r) {a b c : Int} (h0 : 0 ≤ a) (hb : b ≤ szR r) (hc : 1 ≤ c) (h8 : c ≤ 8) : I64 (rgR r a b c).1 ∧ I64 (rgR r a b c).2.1 ∧ I64 (rgR r a b c).2.2.1 := by
  obtain ⟨_, z0, z1⟩ := rr_size hr
  have hC := hr.2
  have hC2 := right_c hr.1
  obtain ⟨⟨a1, a2, _, _⟩, _⟩ := hr.1
  have bd : ∀ k : Int, 0 ≤ k → k ≤ 2000001 → 0 ≤ rC r * k ∧ rC r * k ≤ 2000001 * 2000001 := fun k k0 k1 => ⟨Int.mul_nonneg (by omega) k0, Int.mul_le_mul (by omega) k1 k0 (by omega)⟩
  unfold rgR
  by_cases h : b ≤ a
  · rw [if_pos h]; exact ⟨by show I64 1; unfold I64; omega, by show I64 0; unfold I64; omega, by show I64 1; unfold I64; omega⟩
  · rw [if_neg h]
    have b1 := bd a h0 (by omega)
    by_cases g : (b - 1 - a) / c = 0
    · rw [if_pos g]
      exact ⟨by show I64 (rA r + rC r * a); unfold I64; omega, by show I64 (rA r + rC r * a); unfold I64; omega, by show I64 1; unfold I64; omega⟩
    · rw [if_neg g]
      have q0 : 0 ≤ (b - 1 - a) / c := Int.ediv_nonneg (by omega) (by omega)
      have q1 : (b - 1 - a) / c * c ≤ b - 1 - a := Int.ediv_mul_le _ (by omega)
      have q2 : 0 ≤ (b - 1 - a) / c * c := Int.mul_nonneg q0 (by omega)
      have b2 := bd (a + (b - 1 - a) / c * c) (by omega) (by omega)
      have b3 : 0 ≤ rC r * c ∧ rC r * c ≤ 2000001 * 8 := ⟨Int.mul_nonneg (by omega) (by omega), Int.mul_le_mul (by omega) h8 (by omega) (by omega)⟩
      exact ⟨by show I64 (rA r + rC r * a); unfold I64; omega, by show I64 (rA r + rC r * (a + (b - 1 - a) / c * c)); unfold I64; omega, by show I64 (rC r * c); unfold I64; omega⟩
theorem bcN_le {x L s l : Int} (hx : x ≤ 2000001) (hs : 1 ≤ s) (hL : 1 ≤ L) (l0 : 0 ≤ l) : bcN x L s l ≤ 2000002 := by
  have b1 : 0 ≤ l * s := Int.mul_nonneg l0 (by omega)
  unfold bcN
  by_cases h : x ≤ l * s
  · rw [if_pos h]; omega
  · rw [if_neg h]
    have := Int.ediv_le_self (L * s) (show 0 ≤ x - 1 - l * s by omega)
    omega
theorem rw_ok {n : Nat} {f : Nat → R3} {k s h L l : Int} (ra : RwAsk n f k s h L l) : rwN n f k s h L l ≤ 3000000 ∧ Row64 (rwN n f k s h L l) (rwF n f k s h L l) := by
  obtain ⟨hd, k4, l0, l1⟩ := ra
  obtain ⟨L1, L8, hc, hl⟩ := dmE_zero.1 hd
  obtain ⟨d1, fit⟩ := chD_zero.1 hc
  have hn := d1.1
  have r0 : RR (f 0) := d1.2 0 (by omega)
  obtain ⟨_, x0, x1⟩ := rr_size r0
  obtain ⟨b1, b2⟩ := loB_bnd (L := L) x0 l0 (by omega) L1
  obtain ⟨b3, b4⟩ := loB_bnd (L := L) (l := l + 1) x0 (by omega) (by omega) L1
  constructor
  · unfold rwN
    split
    · split <;> omega
    · split
      · omega
      · rcases fit_k fit with hk | hk | hk | ⟨hk, s1, s2⟩ | hk
        · omega
        · omega
        · omega
        · have := bcN_le (x := szR (f 0)) (L := L) (s := s) (l := l) x1 s1 L1 l0; omega
        · omega
  · intro j hj
    unfold rwF
    split
    · exact rgR_64 r0 (Int.le_refl 0) (Int.le_refl _) (Int.le_refl 1) (by omega)
    · split
      · exact rgR_64 r0 b1 b4 (Int.le_refl 1) (by omega)
      · split
        · exact rgR_64 r0 l0 (Int.le_refl _) L1 L8
        · rcases fit_k fit with hk | hk | hk | ⟨hk, s1, s2⟩ | hk
          · omega
          · omega
          · omega
          · have p1 : 0 ≤ l * s := Int.mul_nonneg l0 (by omega)
            have p2 : 0 ≤ (j : Int) * (L * s) := Int.mul_nonneg (by omega) (Int.mul_nonneg (by omega) (by omega))
            exact rgR_64 r0 (by omega) (by omega) (Int.le_refl 1) (by omega)
          · omega
theorem Blocks_ok : ConOK P 57 c_Blocks := con_force (allOKL mixed kBk_ok lBk_ok) 10 57 fun args r hh => by
  unfold c_Blocks at hh
  split at hh
  · rename_i n f k s h L l
    have d := (T.is_ask hh).1
    obtain rfl := T.is_ret (T.is_ask hh).2
    by_cases hl : lcE n f k s h L l = 0
    rotate_left
    · have e1 : blE n f k s h L l = lcE n f k s h L l := by unfold blE; rw [if_pos hl]
      have e2 : blN n f k s h L l = 0 := by unfold blN; rw [if_pos (by rw [e1]; exact hl)]
      exact ⟨_, by rw [t_Bl1]; simp only [lk_eq, e1, e2]; exact ⟨d, U.ne_t.mpr hl, cl_nil, .inl rfl, rfl⟩⟩
    by_cases hk : k = 4
    · have e1 : blE n f k s h L l = 70 := by unfold blE; rw [if_neg (by simp [hl]), if_pos hk]
      have e2 : blN n f k s h L l = 0 := by unfold blN; rw [if_pos (by rw [e1]; decide)]
      exact ⟨_, by rw [t_Bl2]; simp only [lk_eq, e1, e2]; exact ⟨d, U.ne_f.mpr hl, U.eq_t.mpr hk, cl_nil, .inl rfl, rfl⟩⟩
    have e1 : blE n f k s h L l = 0 := by unfold blE; rw [if_neg (by simp [hl]), if_neg hk]
    have e2 : blN n f k s h L l = bkN n f k s h (rwF n f k s h L l) (rwN n f k s h L l) := by unfold blN; rw [if_neg (by simp [e1])]
    obtain ⟨g1, g2, g3⟩ := lcE_zero.1 hl
    obtain ⟨hd, h5⟩ := lsE_zero.1 g1
    have ra : RwAsk n f k s h L l := ⟨hd, hk, g2, g3⟩
    obtain ⟨w1, w2⟩ := rw_ok ra
    have hn := (chD_zero.1 (dmE_zero.1 hd).2.2.1).1.1
    exact ⟨_, by
      rw [t_Bl3]; simp only [lk_eq, e1, e2]
      exact ⟨d, U.ne_f.mpr hl, U.eq_f.mpr hk, ra, ⟨⟨rfl, hn, d, w1, w2⟩, trivial, trivial⟩, ⟨rfl, ⟨eqShs_refl _, fun i hi => rfl⟩⟩, .inl rfl, rfl⟩⟩
  · exact hh.elim
end Go.RX.Span

/- Domain maps: the reference's rows: the walk. -/
set_option linter.unusedVariables false
set_option linter.unusedSimpArgs false
set_option maxRecDepth 100000
namespace Go.RX.Span
open Go Go.RX
attribute [local irreducible] sx conB

--%R < ↑n => < ((n : Nat) : Int)
set_option maxRecDepth 100000 in
theorem t_qrows (n : Nat) (f : Nat → R3) (k s h a b c : Int) : conB Go.Proofs.Try.prog (conOf []) noLoops 10 144 [.agg [.row [.int .i64, .int .i64, .int .i64] n f, .lit (.int .i64 k), .lit (.int .i64 s), .lit (.int .i64 h)], .lit (.int .i64 a), .lit (.int .i64 b), .lit (.int .i64 c)] =
    T.ask ((0 : Int) ≤ (0 : Int) ∧ (0 : Int) < ((n : Nat) : Int)) (.ask (c ≠ (0 : Int)) (.br (U.eq (U.quo .i64 (U.sub .i64 (U.add .i64 (U.sub .i64 b a) c) (1 : Int)) c) (1 : Int)) (.br
      (U.gt (Int.ofNat n) (1 : Int)) (.ask ((0 : Int) ≤ (1 : Int) ∧ (1 : Int) < ((n : Nat) : Int)) (.ask ((0 : Nat) < (1 : Nat) ∧ ((1 : Nat) + (1 : Nat)) * nat_lit 24 ≤ nat_lit
      140737488351232) (.ret (.agg [.row [.int .i64, .int .i64, .int .i64] (nat_lit 2) (U.cat (nat_lit 1) (fun x => (U.add .i64 (f (U.toNat (0 : Int))).1 (U.mul .i64 a (f (U.toNat (0 :
      Int))).2.2.1), U.add .i64 (U.add .i64 (f (U.toNat (0 : Int))).1 (U.mul .i64 a (f (U.toNat (0 : Int))).2.2.1)) (U.mul .i64 (U.mul .i64 (U.sub .i64 (U.quo .i64 (U.sub .i64 (U.add .i64
      (U.sub .i64 b a) c) (1 : Int)) c) (1 : Int)) c) (f (U.toNat (0 : Int))).2.2.1), (1 : Int), PUnit.unit)) fun x => ((f (U.toNat (1 : Int))).1, (f (U.toNat (1 : Int))).2.1, (f (U.toNat
      (1 : Int))).2.2.1, PUnit.unit)), .lit (.int .i64 k), .lit (.int .i64 s), .lit (.int .i64 h)])))) (.ret (.agg [.row [.int .i64, .int .i64, .int .i64] (nat_lit 1) fun x => (U.add .i64
      (f (U.toNat (0 : Int))).1 (U.mul .i64 a (f (U.toNat (0 : Int))).2.2.1), U.add .i64 (U.add .i64 (f (U.toNat (0 : Int))).1 (U.mul .i64 a (f (U.toNat (0 : Int))).2.2.1)) (U.mul .i64
      (U.mul .i64 (U.sub .i64 (U.quo .i64 (U.sub .i64 (U.add .i64 (U.sub .i64 b a) c) (1 : Int)) c) (1 : Int)) c) (f (U.toNat (0 : Int))).2.2.1), (1 : Int), PUnit.unit), .lit (.int .i64
      k), .lit (.int .i64 s), .lit (.int .i64 h)]))) (.br (U.gt (Int.ofNat n) (1 : Int)) (.ask ((0 : Int) ≤ (1 : Int) ∧ (1 : Int) < ((n : Nat) : Int)) (.ask ((0 : Nat) < (1 : Nat) ∧ ((1 :
      Nat) + (1 : Nat)) * nat_lit 24 ≤ nat_lit 140737488351232) (.ret (.agg [.row [.int .i64, .int .i64, .int .i64] (nat_lit 2) (U.cat (nat_lit 1) (fun x => (U.add .i64 (f (U.toNat (0 :
      Int))).1 (U.mul .i64 a (f (U.toNat (0 : Int))).2.2.1), U.add .i64 (U.add .i64 (f (U.toNat (0 : Int))).1 (U.mul .i64 a (f (U.toNat (0 : Int))).2.2.1)) (U.mul .i64 (U.mul .i64 (U.sub
      .i64 (U.quo .i64 (U.sub .i64 (U.add .i64 (U.sub .i64 b a) c) (1 : Int)) c) (1 : Int)) c) (f (U.toNat (0 : Int))).2.2.1), U.mul .i64 c (f (U.toNat (0 : Int))).2.2.1, PUnit.unit)) fun
      x => ((f (U.toNat (1 : Int))).1, (f (U.toNat (1 : Int))).2.1, (f (U.toNat (1 : Int))).2.2.1, PUnit.unit)), .lit (.int .i64 k), .lit (.int .i64 s), .lit (.int .i64 h)])))) (.ret
      (.agg [.row [.int .i64, .int .i64, .int .i64] (nat_lit 1) fun x => (U.add .i64 (f (U.toNat (0 : Int))).1 (U.mul .i64 a (f (U.toNat (0 : Int))).2.2.1), U.add .i64 (U.add .i64 (f
      (U.toNat (0 : Int))).1 (U.mul .i64 a (f (U.toNat (0 : Int))).2.2.1)) (U.mul .i64 (U.mul .i64 (U.sub .i64 (U.quo .i64 (U.sub .i64 (U.add .i64 (U.sub .i64 b a) c) (1 : Int)) c) (1 :
      Int)) c) (f (U.toNat (0 : Int))).2.2.1), U.mul .i64 c (f (U.toNat (0 : Int))).2.2.1, PUnit.unit), .lit (.int .i64 k), .lit (.int .i64 s), .lit (.int .i64 h)]))))) := by kernel_rfl
end Go.RX.Span

/- Domain maps: the reference's rows. -/
set_option linter.unusedVariables false
set_option linter.unusedSimpArgs false
set_option maxRecDepth 100000
namespace Go.RX.Span
open Go Go.RX
attribute [local irreducible] sx conB

def RqAsk (n : Nat) (f : Nat → R3) (a b c : Int) : Prop := (n = 1 ∨ n = 2) ∧ RR (f 0) ∧ 0 ≤ a ∧ a < b ∧ b ≤ szR (f 0) ∧ 1 ≤ c ∧ c ≤ 8
def bkM (n : Nat) : Nat := 1 + (n - 1)
noncomputable def bkR (n : Nat) (f : Nat → R3) (a b c : Int) : Nat → R3 := U.cat 1 (fun _ => rgR (f 0) a b c) fun i => f (i + 1)
noncomputable def c_qrows : Con := fun args => match args with
  | [.agg [.row [.int .i64, .int .i64, .int .i64] n f, .lit (.int .i64 k), .lit (.int .i64 s), .lit (.int .i64 h)], .lit (.int .i64 a), .lit (.int .i64 b), .lit (.int .i64 c)] => .ask (lk RqAsk n f a b c) (.ret (.agg [.row [.int .i64, .int .i64, .int .i64] (lk bkM n) (lk bkR n f a b c), .lit (.int .i64 k), .lit (.int .i64 s), .lit (.int .i64 h)]))
  | _ => .stuck 1
theorem cnt_q {a b c : Int} (hc : 1 ≤ c) : (b - a + c - 1) / c = (b - 1 - a) / c + 1 := by
  rw [show b - a + c - 1 = b - 1 - a + 1 * c by omega, Int.add_mul_ediv_right _ _ (by omega)]
theorem qrows_ok : ConOK P 144 c_qrows := con_cl (allOK mixed none_ok) 10 144 fun args r hh => by
  unfold c_qrows at hh
  split at hh
  · rename_i n f k s h a b c
    have hp := (T.is_ask hh).1
    obtain rfl := T.is_ret (T.is_ask hh).2
    rw [lk_eq] at hp
    obtain ⟨hn, r0, a0, hab, hb, c1, c8⟩ := hp
    obtain ⟨_, x0, x1⟩ := rr_size r0
    have hC := r0.2
    have hC2 := right_c r0.1
    obtain ⟨⟨y1, y2, _, _⟩, _⟩ := r0.1
    refine T.all_of_eq (t_qrows n f k s h a b c) ?_
    have t1 : U.toNat (1 : Int) = 1 := tn 1
    have bd : ∀ k : Int, 0 ≤ k → k ≤ 2000001 → 0 ≤ rC (f 0) * k ∧ rC (f 0) * k ≤ 2000001 * 2000001 := fun k k0 k1 => ⟨Int.mul_nonneg (by omega) k0, Int.mul_le_mul (by omega) k1 k0 (by omega)⟩
    have q0 : 0 ≤ (b - 1 - a) / c := Int.ediv_nonneg (by omega) (by omega)
    have q1 : (b - 1 - a) / c * c ≤ b - 1 - a := Int.ediv_mul_le _ (by omega)
    have q2 : 0 ≤ (b - 1 - a) / c * c := Int.mul_nonneg q0 (by omega)
    have q3 := Int.ediv_le_self c (show 0 ≤ b - 1 - a by omega)
    have b1 := bd a a0 (by omega)
    have b2 := bd ((b - 1 - a) / c * c) q2 (by omega)
    have b3 : 0 ≤ rC (f 0) * c ∧ rC (f 0) * c ≤ 2000001 * 8 := ⟨Int.mul_nonneg (by omega) (by omega), Int.mul_le_mul (by omega) c8 (by omega) (by omega)⟩
    have u1 : U.quo .i64 (U.sub .i64 (U.add .i64 (U.sub .i64 b a) c) 1) c = (b - 1 - a) / c + 1 := by
      have e1 : U.sub .i64 b a = b - a := U.sub64 (by unfold I64; omega)
      have e2 : U.add .i64 (b - a) c = b - a + c := U.add64 (by unfold I64; omega)
      have e3 : U.sub .i64 (b - a + c) 1 = b - a + c - 1 := U.sub64 (by unfold I64; omega)
      rw [e1, e2, e3, quo_pos (by omega) (by omega) (by omega), Int.tdiv_eq_ediv_of_nonneg (by omega), cnt_q c1]
    have mulc : ∀ z : Int, I64 (rC (f 0) * z) → U.mul .i64 z (f 0).2.2.1 = rC (f 0) * z := fun z hz => (U.mul64 (show I64 (z * rC (f 0)) by rw [Int.mul_comm]; exact hz)).trans (Int.mul_comm _ _)
    have u2 := mulc a (by unfold I64; omega)
    have u3 : U.add .i64 (f 0).1 (rC (f 0) * a) = rA (f 0) + rC (f 0) * a := U.add64 (by
      show I64 (rA (f 0) + rC (f 0) * a)
      unfold I64; omega)
    have u4 : U.sub .i64 ((b - 1 - a) / c + 1) 1 = (b - 1 - a) / c := by rw [U.sub64 (by unfold I64; omega)]; omega
    have u5 : U.mul .i64 ((b - 1 - a) / c) c = (b - 1 - a) / c * c := U.mul64 (by unfold I64; omega)
    have u6 := mulc ((b - 1 - a) / c * c) (by unfold I64; omega)
    have u7 : U.add .i64 (rA (f 0) + rC (f 0) * a) (rC (f 0) * ((b - 1 - a) / c * c)) = rA (f 0) + rC (f 0) * (a + (b - 1 - a) / c * c) := by
      rw [U.add64 (by unfold I64; omega), Int.mul_add]; omega
    have u8 := mulc c (by unfold I64; omega)
    simp only [tnO0, t1, lk_eq, u1, u2, u3, u4, u5, u6, u7, u8]
    have two : ∀ v : R3, v = rgR (f 0) a b c → n = 2 → Cl (.row [.int .i64, .int .i64, .int .i64] 2 (U.cat 1 (fun _ => v) fun _ => f 1)) (.row [.int .i64, .int .i64, .int .i64] (bkM n) (bkR n f a b c)) := fun v hv h2 => by
      refine ⟨by unfold bkM; omega, eqShs_refl _, fun i hi => ?_⟩
      refine (U.cat_eq _ _ _ _).trans (Eq.trans ?_ (U.cat_eq _ _ _ _).symm)
      by_cases hi0 : i < 1
      · exact (if_pos hi0).trans (hv.trans (if_pos hi0).symm)
      · obtain rfl : i = 1 := by omega
        exact (if_neg hi0).trans (if_neg hi0).symm
    have one : ∀ v : R3, v = rgR (f 0) a b c → ¬ n = 2 → Cl (.row [.int .i64, .int .i64, .int .i64] 1 (fun _ => v)) (.row [.int .i64, .int .i64, .int .i64] (bkM n) (bkR n f a b c)) := fun v hv h2 => by
      refine ⟨by unfold bkM; omega, eqShs_refl _, fun i hi => ?_⟩
      refine hv.trans (Eq.trans ?_ (U.cat_eq _ _ _ _).symm)
      exact (if_pos (by omega)).symm
    have big : ∀ g : U.gt (Int.ofNat n) 1 = true, n = 2 := fun g => by have := U.gt_t.mp g; simp only [Int.ofNat_eq_natCast] at this; omega
    have sml : ∀ g : U.gt (Int.ofNat n) 1 = false, ¬ n = 2 := fun g => by have := U.gt_f.mp g; simp only [Int.ofNat_eq_natCast] at this; omega
    have tl : ClL [.lit (.int .i64 k), .lit (.int .i64 s), .lit (.int .i64 h)] [.lit (.int .i64 k), .lit (.int .i64 s), .lit (.int .i64 h)] := ⟨.inl rfl, .inl rfl, .inl rfl, rfl⟩
    refine ⟨⟨by omega, by omega⟩, by omega, fun g => ?_, fun g => ?_⟩
    · have g : (b - 1 - a) / c = 0 := by have := U.eq_t.mp g; omega
      have er : rgR (f 0) a b c = tr3 (rA (f 0) + rC (f 0) * a) (rA (f 0) + rC (f 0) * (a + (b - 1 - a) / c * c)) 1 := by
        unfold rgR; rw [if_neg (by omega), if_pos g, g, Int.zero_mul, Int.add_zero]
      exact ⟨fun g2 => ⟨⟨by omega, by have := big g2; omega⟩, ⟨by decide, by decide⟩, two _ er.symm (big g2), tl⟩, fun g2 => ⟨one _ er.symm (sml g2), tl⟩⟩
    · have g : ¬ (b - 1 - a) / c = 0 := fun w => absurd (U.eq_f.mp g) (by rw [w]; decide)
      have er : rgR (f 0) a b c = tr3 (rA (f 0) + rC (f 0) * a) (rA (f 0) + rC (f 0) * (a + (b - 1 - a) / c * c)) (rC (f 0) * c) := by
        unfold rgR; rw [if_neg (by omega), if_neg g]
      exact ⟨fun g2 => ⟨⟨by omega, by have := big g2; omega⟩, ⟨by decide, by decide⟩, two _ er.symm (big g2), tl⟩, fun g2 => ⟨one _ er.symm (sml g2), tl⟩⟩
  · exact hh.elim
end Go.RX.Span

/- Domain maps: the reference's Blocks: the lists. -/
set_option linter.unusedVariables false
set_option linter.unusedSimpArgs false
set_option maxRecDepth 100000
namespace Go.RX.Span
open Go Go.RX
attribute [local irreducible] sx conB

noncomputable abbrev kQb : List (Nat × Con) := [(139, c_located), (87, c_DSize), (143, c_Size), (144, c_qrows)] --%K
theorem kQb_ok : ∀ p ∈ kQb, ConOK P p.1 p.2 := by
  intro p hp
  simp only [kQb, List.mem_cons, List.not_mem_nil, or_false] at hp
  rcases hp with rfl | rfl | rfl | rfl
  · exact qloc_ok
  · exact kQ0_ok (87, c_DSize) (by simp [kQ0])
  · exact kQ0_ok (143, c_Size) (by simp [kQ0])
  · exact qrows_ok
noncomputable abbrev EQb : Env := ⟨P, conOf kQb, scall P (conOf kQb) noLoops 10⟩
theorem EQb_ok : EnvOK EQb := envOK (allOK mixed kQb_ok) 10
end Go.RX.Span

/- Domain maps: the reference's Blocks: the loops' states. -/
set_option linter.unusedVariables false
set_option linter.unusedSimpArgs false
set_option maxRecDepth 100000
namespace Go.RX.Span
open Go Go.RX
attribute [local irreducible] sx conB

def PreSa (n0 : Nat) (L l x : Int) : Prop := n0 = 0 ∧ 1 ≤ L ∧ L ≤ 8 ∧ 0 ≤ l ∧ l < L ∧ 1 ≤ x ∧ x ≤ 2000001
noncomputable abbrev slSa (L l x i : Int) : List SV := [.lit (.int .i64 L), .lit (.int .i64 l), .ptr 0 0, .own false 1 0, .lit (.int .i64 x), .lit (.int .i64 i)]
noncomputable abbrev slSb (L l x i j : Int) : List SV := [.lit (.int .i64 L), .lit (.int .i64 l), .ptr 0 0, .own false 1 0, .lit (.int .i64 x), .lit (.int .i64 i), .lit (.int .i64 j)]
noncomputable abbrev memSa (n : Nat) (f : Nat → R3) (k s h : Int) (ss : List Sh) (G : Nat → Els ss) : Mem := [boxD n f k s h, (0, some (.row false 0 ss G 49))]
def nxtl (l : Int) : Int := l + 1
noncomputable def gSa : Nat → Few → T (Ex × Few)
  | n0, ([.lit (.int .i64 L), .lit (.int .i64 l), .ptr 0 0, .own z b 0, .lit (.int .i64 x), .ki .i64 0],
      [(_, some (.cells [.row [.int .i64, .int .i64, .int .i64] n f, .lit (.int .i64 k), .lit (.int .i64 s), .lit (.int .i64 h)] t0)), (_, some (.row z' 0 ss G t1))]) =>
    .ask (lk PreSa n0 L l x ∧ z = false ∧ b = 1 ∧ z' = false ∧ t0 = 49 ∧ t1 = 49) (.ret (.exit 1, (slSa L l x (lk loB x L l), memSa n f k s h ss G)))
  | _, _ => .stuck 1
noncomputable def gSb : Nat → Few → T (Ex × Few)
  | n0, ([.lit (.int .i64 L), .lit (.int .i64 l), .ptr 0 0, .own z b 0, .lit (.int .i64 x), .lit (.int .i64 i), .lit (.int .i64 j)],
      [(_, some (.cells [.row [.int .i64, .int .i64, .int .i64] n f, .lit (.int .i64 k), .lit (.int .i64 s), .lit (.int .i64 h)] t0)), (_, some (.row z' 0 ss G t1))]) =>
    .ask (lk PreSa n0 L l x ∧ i = lk loB x L l ∧ j = i ∧ z = false ∧ b = 1 ∧ z' = false ∧ t0 = 49 ∧ t1 = 49) (.ret (.exit 3, (slSb L l x i (lk loB x L (lk nxtl l)), memSa n f k s h ss G)))
  | _, _ => .stuck 1
end Go.RX.Span

/- Domain maps: the reference's Blocks: the walks of the searches. -/
set_option linter.unusedVariables false
set_option linter.unusedSimpArgs false
set_option maxRecDepth 100000
namespace Go.RX.Span
open Go Go.RX
attribute [local irreducible] sx conB

set_option maxRecDepth 100000 in
theorem t_Sa (n : Nat) (f : Nat → R3) (k s h L l x i : Int) (ss : List Sh) (G : Nat → Els ss) : (sx EQb [] 0 (loopOf P 58 16) (mkS 134 [1,2,3,9,10,11] (slSa L l x i), memSa n f k s h ss G)).bind (proj 134 [1,2,3,9,10,11]) =
    T.br (U.lt i x) (.ask (x ≠ (0 : Int)) (.br (U.lt (U.quo .i64 (U.mul .i64 i L) x) l) (.ret (Ex.normal, [.lit (.int .i64 L), .lit (.int .i64 l), SV.ptr (nat_lit 0) (nat_lit 0), SV.own
      false (nat_lit 1) (nat_lit 0), .lit (.int .i64 x), .lit (.int .i64 (U.add .i64 i (1 : Int)))], [(nat_lit 0, some (Blk.cells [.row [.int .i64, .int .i64, .int .i64] n f, .lit (.int
      .i64 k), .lit (.int .i64 s), .lit (.int .i64 h)] (nat_lit 49))), (nat_lit 0, some (Blk.row false (nat_lit 0) ss G (nat_lit 49)))])) (.ret (Ex.exit (nat_lit 1), [.lit (.int .i64 L),
      .lit (.int .i64 l), SV.ptr (nat_lit 0) (nat_lit 0), SV.own false (nat_lit 1) (nat_lit 0), .lit (.int .i64 x), .lit (.int .i64 i)], [(nat_lit 0, some (Blk.cells [.row [.int .i64,
      .int .i64, .int .i64] n f, .lit (.int .i64 k), .lit (.int .i64 s), .lit (.int .i64 h)] (nat_lit 49))), (nat_lit 0, some (Blk.row false (nat_lit 0) ss G (nat_lit 49)))])))) (.ret
      (Ex.exit (nat_lit 1), [.lit (.int .i64 L), .lit (.int .i64 l), SV.ptr (nat_lit 0) (nat_lit 0), SV.own false (nat_lit 1) (nat_lit 0), .lit (.int .i64 x), .lit (.int .i64 i)],
      [(nat_lit 0, some (Blk.cells [.row [.int .i64, .int .i64, .int .i64] n f, .lit (.int .i64 k), .lit (.int .i64 s), .lit (.int .i64 h)] (nat_lit 49))), (nat_lit 0, some (Blk.row false
      (nat_lit 0) ss G (nat_lit 49)))])) := by kernel_rfl
set_option maxRecDepth 100000 in
theorem t_Sb (n : Nat) (f : Nat → R3) (k s h L l x i j : Int) (ss : List Sh) (G : Nat → Els ss) : (sx EQb [] 0 (loopOf P 58 19) (mkS 134 [1,2,3,9,10,11,12] (slSb L l x i j), memSa n f k s h ss G)).bind (proj 134 [1,2,3,9,10,11,12]) =
    T.br (U.lt j x) (.ask (x ≠ (0 : Int)) (.br (U.eq (U.quo .i64 (U.mul .i64 j L) x) l) (.ret (Ex.normal, [.lit (.int .i64 L), .lit (.int .i64 l), SV.ptr (nat_lit 0) (nat_lit 0), SV.own
      false (nat_lit 1) (nat_lit 0), .lit (.int .i64 x), .lit (.int .i64 i), .lit (.int .i64 (U.add .i64 j (1 : Int)))], [(nat_lit 0, some (Blk.cells [.row [.int .i64, .int .i64, .int
      .i64] n f, .lit (.int .i64 k), .lit (.int .i64 s), .lit (.int .i64 h)] (nat_lit 49))), (nat_lit 0, some (Blk.row false (nat_lit 0) ss G (nat_lit 49)))])) (.ret (Ex.exit (nat_lit 3),
      [.lit (.int .i64 L), .lit (.int .i64 l), SV.ptr (nat_lit 0) (nat_lit 0), SV.own false (nat_lit 1) (nat_lit 0), .lit (.int .i64 x), .lit (.int .i64 i), .lit (.int .i64 j)], [(nat_lit
      0, some (Blk.cells [.row [.int .i64, .int .i64, .int .i64] n f, .lit (.int .i64 k), .lit (.int .i64 s), .lit (.int .i64 h)] (nat_lit 49))), (nat_lit 0, some (Blk.row false (nat_lit
      0) ss G (nat_lit 49)))])))) (.ret (Ex.exit (nat_lit 3), [.lit (.int .i64 L), .lit (.int .i64 l), SV.ptr (nat_lit 0) (nat_lit 0), SV.own false (nat_lit 1) (nat_lit 0), .lit (.int
      .i64 x), .lit (.int .i64 i), .lit (.int .i64 j)], [(nat_lit 0, some (Blk.cells [.row [.int .i64, .int .i64, .int .i64] n f, .lit (.int .i64 k), .lit (.int .i64 s), .lit (.int .i64
      h)] (nat_lit 49))), (nat_lit 0, some (Blk.row false (nat_lit 0) ss G (nat_lit 49)))])) := by kernel_rfl
end Go.RX.Span

/- Domain maps: the reference's Blocks: the searches. -/
set_option linter.unusedVariables false
set_option linter.unusedSimpArgs false
set_option maxRecDepth 100000
namespace Go.RX.Span
open Go Go.RX
attribute [local irreducible] sx conB

theorem lo_iff {x L l i : Int} (hx : 1 ≤ x) (hL : 1 ≤ L) : i < loB x L l ↔ i * L / x < l := by
  unfold loB
  rw [Int.ediv_lt_iff_lt_mul (by omega)]
  have e := Int.le_ediv_iff_mul_le (a := i + 1) (b := l * x + L - 1) (c := L) (by omega)
  rw [Int.add_mul, Int.one_mul] at e
  constructor
  · intro g
    have := e.1 (by omega)
    omega
  · intro g
    have := e.2 (by omega)
    omega
theorem lo_u {x L i : Int} (hx : 1 ≤ x) (hx2 : x ≤ 2000001) (h1 : 1 ≤ L) (h8 : L ≤ 8) (i0 : 0 ≤ i) (i1 : i ≤ x) : U.quo .i64 (U.mul .i64 i L) x = i * L / x := by
  have b0 : 0 ≤ i * L := Int.mul_nonneg i0 (by omega)
  have b1 : i * L ≤ 2000001 * 8 := Int.mul_le_mul (by omega) h8 (by omega) (by omega)
  rw [U.mul64 (by unfold I64; omega), quo_pos b0 (by omega) (by omega), Int.tdiv_eq_ediv_of_nonneg b0]
theorem memSa_rl {n : Nat} {f : Nat → R3} {k s h : Int} {ss : List Sh} {G : Nat → Els ss} (g g' : Nat) : RlM [some 0, some 1] [(g, some (.cells [.row [.int .i64, .int .i64, .int .i64] n f, .lit (.int .i64 k), .lit (.int .i64 s), .lit (.int .i64 h)] 49)), (g', some (.row false 0 ss G 49))] 0 (memSa n f k s h ss G) :=
  ⟨⟨rfl, ⟨rfl, sameR fun _ _ => rfl⟩, rfl, rfl, rfl, trivial⟩, ⟨rfl, rfl, rfl, ⟨eqShs_refl _, fun i hi => absurd hi (Nat.not_lt_zero _)⟩⟩, trivial⟩
structure XSa where
  (n : Nat) (f : Nat → R3) (k s h L l x : Int) (ss : List Sh) (G : Nat → Els ss) (i : Nat)
noncomputable abbrev VSa (q : XSa) : Few := (slSa q.L q.l q.x (q.i : Int), memSa q.n q.f q.k q.s q.h q.ss q.G)
noncomputable def OSa (q : XSa) : Ex × Few := (.exit 1, (slSa q.L q.l q.x (loB q.x q.L q.l), memSa q.n q.f q.k q.s q.h q.ss q.G))
def PhiSa (n0 : Nat) (q : XSa) : Prop := PreSa n0 q.L q.l q.x ∧ (q.i : Int) ≤ loB q.x q.L q.l
theorem slSa_rl {ρ : Ren} {L l x i i' : Int} (h0 : ρ.of 0 = some 0) (h1 : ρ.of 1 = some 1) (hi : i = i') : RlL ρ (slSa L l x i) (slSa L l x i') := by
  subst hi
  exact ⟨rfl, rfl, ⟨h0, rfl⟩, ⟨rfl, rfl, h1⟩, rfl, rfl, trivial⟩
theorem roundSa (n0 : Nat) (q : XSa) (hq : PhiSa n0 q) : ((sx EQb [] n0 (loopOf P 58 16) (mkS 134 [1,2,3,9,10,11] (VSa q).1, (VSa q).2)).bind (proj 134 [1,2,3,9,10,11])).All fun r => match r.1 with
      | .normal => ∃ q', PhiSa n0 q' ∧ (loB q'.x q'.L q'.l).toNat - q'.i < (loB q.x q.L q.l).toNat - q.i ∧ Wk 134 [1,2,3,9,10,11] n0 r.2 (VSa q') ∧ ∀ o, o = OSa q' → o = OSa q
      | e => ∃ s, (e, s) = OSa q ∧ Wk 134 [1,2,3,9,10,11] n0 r.2 s := by
  obtain ⟨n, f, k, s, h, L, l, x, ss, G, i⟩ := q
  obtain ⟨⟨h0, L1, L8, l0, l1, x1, x2⟩, hi⟩ := hq
  have hi : (i : Int) ≤ loB x L l := hi
  have L1 : 1 ≤ L := L1
  have L8 : L ≤ 8 := L8
  have l0 : 0 ≤ l := l0
  have l1 : l < L := l1
  have x1 : 1 ≤ x := x1
  have x2 : x ≤ 2000001 := x2
  have h0 : n0 = 0 := h0
  subst h0
  obtain ⟨b0, b1⟩ := loB_bnd (x := x) (L := L) (l := l) (by omega) l0 (by omega) L1
  have hiff := lo_iff (x := x) (L := L) (l := l) (i := (i : Int)) x1 L1
  refine T.all_of_eq (t_Sa n f k s h L l x (i : Int) ss G) ?_
  have e2 := add1q (j := i) (by omega)
  have e3 := lo_u (i := (i : Int)) x1 x2 L1 L8 (by omega) (by omega)
  simp only [e2, e3]
  refine ⟨fun g => ⟨by omega, fun g2 => ?_, fun g2 => ?_⟩, fun g => ?_⟩
  · have g2 := hiff.2 (U.lt_t.mp g2)
    exact ⟨⟨n, f, k, s, h, L, l, x, ss, G, i + 1⟩, ⟨⟨rfl, L1, L8, l0, l1, x1, x2⟩, (show ((i + 1 : Nat) : Int) ≤ loB x L l by omega)⟩, (show (loB x L l).toNat - (i + 1) < (loB x L l).toNat - i by omega), wk_of [some 0, some 1] rfl (Nat.zero_le _) (ren1z _) (slSa_rl rfl rfl rfl) (memSa_rl _ _), fun o ho => ho⟩
  · have g2 : ¬ (i : Int) < loB x L l := fun w => absurd (U.lt_f.mp g2) (Int.not_le.2 (hiff.1 w))
    exact ⟨_, rfl, wk_of [some 0, some 1] rfl (Nat.zero_le _) (ren1z _) (slSa_rl rfl rfl (show (i : Int) = loB x L l by omega)) (memSa_rl _ _)⟩
  · have g := U.lt_f.mp g
    exact ⟨_, rfl, wk_of [some 0, some 1] rfl (Nat.zero_le _) (ren1z _) (slSa_rl rfl rfl (show (i : Int) = loB x L l by omega)) (memSa_rl _ _)⟩
theorem loopSa : LoopOK P (loopOf P 58 16) (few 134 [1,2,3,9,10,11] gSa) :=
  loop_few (E := EQb) mixed EQb_ok loopsOK_none 134 [1,2,3,9,10,11] (X := XSa) gSa (fun _ x => VSa x) PhiSa (fun q => (loB q.x q.L q.l).toNat - q.i) (fun _ x o => o = OSa x)
    (fun n0 st r hh => by
      unfold gSa at hh
      split at hh
      · rename_i n0 L l z b x g0 n f k s h t0 g1 z' ss G t1
        obtain ⟨hp, rfl, rfl, rfl, rfl, rfl⟩ := (T.is_ask hh).1
        obtain rfl := T.is_ret (T.is_ask hh).2
        rw [lk_eq] at hp
        have h0 := hp.1
        subst h0
        obtain ⟨b0, b1⟩ := loB_bnd (x := x) (L := L) (l := l) (by have := hp.2.2.2.2.2.1; omega) hp.2.2.2.1 (by have := hp.2.2.2.2.1; omega) hp.2.1
        refine ⟨⟨n, f, k, s, h, L, l, x, ss, G, 0⟩, ⟨hp, (show ((0 : Nat) : Int) ≤ loB x L l by omega)⟩, wk_of [some 0, some 1] rfl (Nat.zero_le _) (ren1z _) (slSa_rl rfl rfl rfl) (memSa_rl _ _), fun o ho => ?_⟩
        rw [ho]
        simp only [lk_eq]; rfl
      · exact hh.elim)
    roundSa
structure XSb where
  (n : Nat) (f : Nat → R3) (k s h L l x : Int) (ss : List Sh) (G : Nat → Els ss) (j : Nat)
noncomputable abbrev VSb (q : XSb) : Few := (slSb q.L q.l q.x (loB q.x q.L q.l) (q.j : Int), memSa q.n q.f q.k q.s q.h q.ss q.G)
noncomputable def OSb (q : XSb) : Ex × Few := (.exit 3, (slSb q.L q.l q.x (loB q.x q.L q.l) (loB q.x q.L (q.l + 1)), memSa q.n q.f q.k q.s q.h q.ss q.G))
def PhiSb (n0 : Nat) (q : XSb) : Prop := PreSa n0 q.L q.l q.x ∧ loB q.x q.L q.l ≤ (q.j : Int) ∧ (q.j : Int) ≤ loB q.x q.L (q.l + 1)
theorem slSb_rl {ρ : Ren} {L l x i j i' j' : Int} (h0 : ρ.of 0 = some 0) (h1 : ρ.of 1 = some 1) (hi : i = i') (hj : j = j') : RlL ρ (slSb L l x i j) (slSb L l x i' j') := by
  subst hi hj
  exact ⟨rfl, rfl, ⟨h0, rfl⟩, ⟨rfl, rfl, h1⟩, rfl, rfl, rfl, trivial⟩
theorem roundSb (n0 : Nat) (q : XSb) (hq : PhiSb n0 q) : ((sx EQb [] n0 (loopOf P 58 19) (mkS 134 [1,2,3,9,10,11,12] (VSb q).1, (VSb q).2)).bind (proj 134 [1,2,3,9,10,11,12])).All fun r => match r.1 with
      | .normal => ∃ q', PhiSb n0 q' ∧ (loB q'.x q'.L (q'.l + 1)).toNat - q'.j < (loB q.x q.L (q.l + 1)).toNat - q.j ∧ Wk 134 [1,2,3,9,10,11,12] n0 r.2 (VSb q') ∧ ∀ o, o = OSb q' → o = OSb q
      | e => ∃ s, (e, s) = OSb q ∧ Wk 134 [1,2,3,9,10,11,12] n0 r.2 s := by
  obtain ⟨n, f, k, s, h, L, l, x, ss, G, j⟩ := q
  obtain ⟨⟨h0, L1, L8, l0, l1, x1, x2⟩, hi, hj⟩ := hq
  have hi : loB x L l ≤ (j : Int) := hi
  have hj : (j : Int) ≤ loB x L (l + 1) := hj
  have L1 : 1 ≤ L := L1
  have L8 : L ≤ 8 := L8
  have l0 : 0 ≤ l := l0
  have l1 : l < L := l1
  have x1 : 1 ≤ x := x1
  have x2 : x ≤ 2000001 := x2
  have h0 : n0 = 0 := h0
  subst h0
  obtain ⟨b0, b1⟩ := loB_bnd (x := x) (L := L) (l := l + 1) (by omega) (by omega) (by omega) L1
  have hiff := lo_iff (x := x) (L := L) (l := l) (i := (j : Int)) x1 L1
  have hiff2 := lo_iff (x := x) (L := L) (l := l + 1) (i := (j : Int)) x1 L1
  refine T.all_of_eq (t_Sb n f k s h L l x (loB x L l) (j : Int) ss G) ?_
  have e2 := add1q (j := j) (by omega)
  have e3 := lo_u (i := (j : Int)) x1 x2 L1 L8 (by omega) (by omega)
  simp only [e2, e3]
  have n1 : ¬ (j : Int) * L / x < l := fun w => by have := hiff.2 w; omega
  generalize (j : Int) * L / x = d at *
  refine ⟨fun g => ⟨by omega, fun g2 => ?_, fun g2 => ?_⟩, fun g => ?_⟩
  · have g2 := U.eq_t.mp g2
    have := hiff2.2 (by omega)
    exact ⟨⟨n, f, k, s, h, L, l, x, ss, G, j + 1⟩, ⟨⟨rfl, L1, L8, l0, l1, x1, x2⟩, (show loB x L l ≤ ((j + 1 : Nat) : Int) by omega), (show ((j + 1 : Nat) : Int) ≤ loB x L (l + 1) by omega)⟩, (show (loB x L (l + 1)).toNat - (j + 1) < (loB x L (l + 1)).toNat - j by omega), wk_of [some 0, some 1] rfl (Nat.zero_le _) (ren1z _) (slSb_rl rfl rfl rfl rfl) (memSa_rl _ _), fun o ho => ho⟩
  · have g2 := U.eq_f.mp g2
    have : ¬ (j : Int) < loB x L (l + 1) := fun w => by have := hiff2.1 w; omega
    exact ⟨_, rfl, wk_of [some 0, some 1] rfl (Nat.zero_le _) (ren1z _) (slSb_rl rfl rfl rfl (show (j : Int) = loB x L (l + 1) by omega)) (memSa_rl _ _)⟩
  · have g := U.lt_f.mp g
    exact ⟨_, rfl, wk_of [some 0, some 1] rfl (Nat.zero_le _) (ren1z _) (slSb_rl rfl rfl rfl (show (j : Int) = loB x L (l + 1) by omega)) (memSa_rl _ _)⟩
theorem lo_mono {x L l : Int} (hx : 0 ≤ x) (hL : 1 ≤ L) : loB x L l ≤ loB x L (l + 1) := by
  unfold loB
  refine Int.ediv_le_ediv (by omega) ?_
  rw [Int.add_mul]; omega
theorem loopSb : LoopOK P (loopOf P 58 19) (few 134 [1,2,3,9,10,11,12] gSb) :=
  loop_few (E := EQb) mixed EQb_ok loopsOK_none 134 [1,2,3,9,10,11,12] (X := XSb) gSb (fun _ x => VSb x) PhiSb (fun q => (loB q.x q.L (q.l + 1)).toNat - q.j) (fun _ x o => o = OSb x)
    (fun n0 st r hh => by
      unfold gSb at hh
      split at hh
      · rename_i n0 L l z b x i j g0 n f k s h t0 g1 z' ss G t1
        obtain ⟨hp, hi, rfl, rfl, rfl, rfl, rfl, rfl⟩ := (T.is_ask hh).1
        obtain rfl := T.is_ret (T.is_ask hh).2
        rw [lk_eq] at hp
        rw [lk_eq] at hi
        have h0 := hp.1
        subst h0
        obtain ⟨b0, b1⟩ := loB_bnd (x := x) (L := L) (l := l) (by have := hp.2.2.2.2.2.1; omega) hp.2.2.2.1 (by have := hp.2.2.2.2.1; omega) hp.2.1
        have mo := lo_mono (x := x) (L := L) (l := l) (by have := hp.2.2.2.2.2.1; omega) hp.2.1
        have ej : ((loB x L l).toNat : Int) = loB x L l := by omega
        subst hi
        refine ⟨⟨n, f, k, s, h, L, l, x, ss, G, (loB x L l).toNat⟩, ⟨hp, (show loB x L l ≤ ((loB x L l).toNat : Int) by omega), (show ((loB x L l).toNat : Int) ≤ loB x L (l + 1) by omega)⟩, wk_of [some 0, some 1] rfl (Nat.zero_le _) (ren1z _) (slSb_rl rfl rfl rfl ej.symm) (memSa_rl _ _), fun o ho => ?_⟩
        rw [ho]
        simp only [lk_eq]; rfl
      · exact hh.elim)
    roundSb
end Go.RX.Span

/- Domain maps: the reference's Blocks: blocks dealt in turn: the states. -/
set_option linter.unusedVariables false
set_option linter.unusedSimpArgs false
set_option maxRecDepth 100000
namespace Go.RX.Span
open Go Go.RX
attribute [local irreducible] sx conB

noncomputable def qcG (n : Nat) (f : Nat → R3) (k s h x L l : Int) (j : Nat) : DE := bkD n f k s h (bcF (f 0) x L s l j)
def PreSc (n0 n : Nat) (f : Nat → R3) (x s L l i : Int) : Prop := n0 = 0 ∧ (n = 1 ∨ n = 2) ∧ RR (f 0) ∧ x = szR (f 0) ∧ 1 ≤ s ∧ s ≤ 1000 ∧ 0 ≤ l ∧ l < L ∧ L ≤ 8 ∧ i = l * s
noncomputable abbrev slSc (L : Int) (N : Nat) (x s i : Int) : List SV := [.lit (.int .i64 L), .ptr 0 0, .own false 1 N, .lit (.int .i64 x), .lit (.int .i64 s), .lit (.int .i64 i)]
noncomputable def gSc : Nat → Few → T (Ex × Few)
  | n0, ([.lit (.int .i64 L), .ptr 0 0, .own z b 0, .lit (.int .i64 x), .lit (.int .i64 s'), .lit (.int .i64 i)],
      [(_, some (.cells [.row [.int .i64, .int .i64, .int .i64] n f, .lit (.int .i64 k), .lit (.int .i64 s), .lit (.int .i64 h)] t0)), (_, some (.row z' 0 ss G t1))]) =>
    .ask (lk PreSc n0 n f x s L (lk loS i s) i ∧ eqShs ss ssD = true ∧ s' = s ∧ z = false ∧ b = 1 ∧ z' = false ∧ t0 = 49 ∧ t1 = 49)
      (.ret (.exit 5, ([.any, .any, .own false 1 (lk bcN x L s (lk loS i s)), .any, .any, .any], [(0, none), (0, some (.row false (lk bcN x L s (lk loS i s)) ssD (lk qcG n f k s h x L (lk loS i s)) 49))])))
  | _, _ => .stuck 1
noncomputable abbrev lQb : List (Nat × Loops) := [(58, [(16, .sum (few 134 [1,2,3,9,10,11] gSa)), (19, .sum (few 134 [1,2,3,9,10,11,12] gSb)), (29, .sum (few 134 [1,3,9,10,13,14] gSc))])] --%K
end Go.RX.Span

/- Domain maps: the reference's Blocks: blocks dealt in turn: the walk. -/
set_option linter.unusedVariables false
set_option linter.unusedSimpArgs false
set_option maxRecDepth 100000
namespace Go.RX.Span
open Go Go.RX
attribute [local irreducible] sx conB

set_option maxRecDepth 100000 in
theorem t_Sc (n : Nat) (f : Nat → R3) (k s h L x i : Int) (N : Nat) (G : Nat → DE) : (sx EQb [] 0 (loopOf P 58 29) (mkS 134 [1,3,9,10,13,14] (slSc L N x s i), memBk n f k s h false N G)).bind (proj 134 [1,3,9,10,13,14]) =
    T.br (U.lt i x) (.ask (lk RqAsk n f i (U.mm false (U.add .i64 i s) x) (1 : Int)) (.ask ((N + (1 : Nat)) * nat_lit 48 ≤ nat_lit 140737488351232) (.ret (Ex.normal, [.lit (.int .i64
      L), SV.ptr (nat_lit 0) (nat_lit 0), SV.own false (nat_lit 3) (N.add (nat_lit 1)), .lit (.int .i64 x), .lit (.int .i64 s), .lit (.int .i64 (U.add .i64 i (U.mul .i64 L s)))],
      [(nat_lit 0, some (Blk.cells [.row [.int .i64, .int .i64, .int .i64] n f, .lit (.int .i64 k), .lit (.int .i64 s), .lit (.int .i64 h)] (nat_lit 49))), (nat_lit 1, none), (nat_lit 0,
      some (Blk.cells [.row [.int .i64, .int .i64, .int .i64] (lk bkM n) (lk bkR n f i (U.mm false (U.add .i64 i s) x) (1 : Int)), .lit (.int .i64 k), .lit (.int .i64 s), .lit (.int .i64
      h)] (nat_lit 49))), (nat_lit 0, some (Blk.row false (N.add (nat_lit 1)) [.sl [.int .i64, .int .i64, .int .i64], .int .i64, .int .i64, .int .i64] (U.cat N G fun x_1 => ((lk bkM n, lk
      bkR n f i (U.mm false (U.add .i64 i s) x) (1 : Int)), k, s, h, PUnit.unit)) (nat_lit 49)))])))) (.ret (Ex.exit (nat_lit 5), [.lit (.int .i64 L), SV.ptr (nat_lit 0) (nat_lit 0),
      SV.own false (nat_lit 1) N, .lit (.int .i64 x), .lit (.int .i64 s), .lit (.int .i64 i)], [(nat_lit 0, some (Blk.cells [.row [.int .i64, .int .i64, .int .i64] n f, .lit (.int .i64
      k), .lit (.int .i64 s), .lit (.int .i64 h)] (nat_lit 49))), (nat_lit 0, some (Blk.row false N [.sl [.int .i64, .int .i64, .int .i64], .int .i64, .int .i64, .int .i64] G (nat_lit
      49)))])) := by kernel_rfl
end Go.RX.Span

/- Domain maps: the reference's Blocks: blocks dealt in turn. -/
set_option linter.unusedVariables false
set_option linter.unusedSimpArgs false
set_option maxRecDepth 100000
namespace Go.RX.Span
open Go Go.RX
attribute [local irreducible] sx conB

structure XSc where
  (n : Nat) (f : Nat → R3) (k s h L x l : Int) (j : Nat)
noncomputable abbrev VSc (q : XSc) : Few := (slSc q.L q.j q.x q.s (q.l * q.s + q.j * (q.L * q.s)), memBk q.n q.f q.k q.s q.h false q.j (qcG q.n q.f q.k q.s q.h q.x q.L q.l))
noncomputable def OSc (q : XSc) : Ex × Few := (.exit 5, ([.any, .any, .own false 1 (bcN q.x q.L q.s q.l), .any, .any, .any], [(0, none), (0, some (.row false (bcN q.x q.L q.s q.l) ssD (qcG q.n q.f q.k q.s q.h q.x q.L q.l) 49))]))
def PhiSc (n0 : Nat) (q : XSc) : Prop := n0 = 0 ∧ (q.n = 1 ∨ q.n = 2) ∧ RR (q.f 0) ∧ q.x = szR (q.f 0) ∧ 1 ≤ q.s ∧ q.s ≤ 1000 ∧ 0 ≤ q.l ∧ q.l < q.L ∧ q.L ≤ 8 ∧ q.j ≤ bcN q.x q.L q.s q.l
theorem slSc_rl {ρ : Ren} {b b' : Nat} {L x s : Int} {N N' : Nat} {i i' : Int} (h0 : ρ.of 0 = some 0) (hb : ρ.of b' = some b) (hN : N = N') (hi : i = i') :
    RlL ρ [.lit (.int .i64 L), .ptr 0 0, .own false b N, .lit (.int .i64 x), .lit (.int .i64 s), .lit (.int .i64 i)] [.lit (.int .i64 L), .ptr 0 0, .own false b' N', .lit (.int .i64 x), .lit (.int .i64 s), .lit (.int .i64 i')] := by
  subst hN hi
  exact ⟨rfl, ⟨h0, rfl⟩, ⟨rfl, rfl, hb⟩, rfl, rfl, rfl, trivial⟩
theorem roundSc (n0 : Nat) (q : XSc) (hq : PhiSc n0 q) : ((sx EQb [] n0 (loopOf P 58 29) (mkS 134 [1,3,9,10,13,14] (VSc q).1, (VSc q).2)).bind (proj 134 [1,3,9,10,13,14])).All fun r => match r.1 with
      | .normal => ∃ q', PhiSc n0 q' ∧ bcN q'.x q'.L q'.s q'.l - q'.j < bcN q.x q.L q.s q.l - q.j ∧ Wk 134 [1,3,9,10,13,14] n0 r.2 (VSc q') ∧ ∀ o, o = OSc q' → o = OSc q
      | e => ∃ s, (e, s) = OSc q ∧ Wk 134 [1,3,9,10,13,14] n0 r.2 s := by
  obtain ⟨n, f, k, s, h, L, x, l, j⟩ := q
  obtain ⟨h0, hn, hr, hx, s1, s2, l0, l1, l8, hj⟩ := hq
  have hj : j ≤ bcN x L s l := hj
  have hn : n = 1 ∨ n = 2 := hn
  have s1 : 1 ≤ s := s1
  have s2 : s ≤ 1000 := s2
  have l0 : 0 ≤ l := l0
  have l1 : l < L := l1
  have l8 : L ≤ 8 := l8
  have hr : RR (f 0) := hr
  have hx : x = szR (f 0) := hx
  have h0 : n0 = 0 := h0
  subst h0
  have hlt := bc_lt (x := x) (L := L) (l := l) s1 (by omega) (j := j)
  have b1 : 0 ≤ l * s := Int.mul_nonneg l0 (by omega)
  have b2 : 0 ≤ (j : Int) * (L * s) := Int.mul_nonneg (by omega) (Int.mul_nonneg (by omega) (by omega))
  have b3 : L * s ≤ 8 * 1000 := Int.mul_le_mul l8 s2 (by omega) (by omega)
  have b4 : 1 * 1 ≤ L * s := Int.mul_le_mul (by omega) s1 (by omega) (by omega)
  have b5 : (j : Int) * 1 ≤ (j : Int) * (L * s) := Int.mul_le_mul_of_nonneg_left (by omega) (by omega)
  obtain ⟨_, z1, z2⟩ := rr_size hr
  refine T.all_of_eq (t_Sc n f k s h L x (l * s + j * (L * s)) j (qcG n f k s h x L l)) ?_
  generalize hi : l * s + (j : Int) * (L * s) = i at *
  have hmul : U.mul .i64 L s = L * s := U.mul64 (by unfold I64; omega)
  by_cases g : i < x
  · have hjn := hlt.1 g
    have ea : U.add .i64 i s = i + s := U.add64 (by unfold I64; omega)
    have em : U.mm false (i + s) x = min (i + s) x := mm_min _ _
    have en : U.add .i64 i (L * s) = i + L * s := U.add64 (by unfold I64; omega)
    have nx : i + L * s = l * s + ((j + 1 : Nat) : Int) * (L * s) := by
      rw [← hi, Int.natCast_add, Int.add_mul]; omega
    simp only [ea, em, en, hmul, lk_eq]
    refine ⟨fun _ => ⟨⟨hn, hr, by omega, by omega, by omega, Int.le_refl 1, by omega⟩, ?_, ⟨n, f, k, s, h, L, x, l, j + 1⟩, ⟨rfl, hn, hr, hx, s1, s2, l0, l1, l8, hjn⟩, (show bcN x L s l - (j + 1) < bcN x L s l - j by omega), ?_, fun o ho => ho⟩, fun g => absurd (U.lt_f.mp g) (by omega)⟩
    · show (j + 1) * 48 ≤ 140737488351232
      omega
    · refine wk_of [some 0, some 3] rfl (Nat.zero_le _) (ren1z _) (slSc_rl rfl rfl rfl nx) ⟨⟨rfl, ⟨rfl, sameR fun _ _ => rfl⟩, rfl, rfl, rfl, trivial⟩, ⟨rfl, rfl, rfl, ⟨eqShs_refl _, fun t ht => ?_⟩⟩, trivial⟩
      have ht : t < j + 1 := ht
      refine (U.cat_eq _ _ _ _).trans ?_
      by_cases h' : t < j
      · exact if_pos h'
      · obtain rfl : t = j := by omega
        refine (if_neg h').trans ?_
        show bkD n f k s h (rgR (f 0) i (min (i + s) x) 1) = bkD n f k s h (rgR (f 0) (l * s + t * (L * s)) (min (l * s + t * (L * s) + s) x) 1)
        rw [hi]
  · have ej : j = bcN x L s l := by
      have : ¬ j < bcN x L s l := fun w => g (hlt.2 w)
      omega
    refine ⟨fun g' => absurd (U.lt_t.mp g') (by omega), fun _ => ⟨_, rfl, ?_⟩⟩
    exact wk_of [none, some 1] rfl (Nat.zero_le _) (ren1z _) ⟨rl_any _, rl_any _, ⟨rfl, ej, rfl⟩, rl_any _, rl_any _, rl_any _, trivial⟩ ⟨⟨rfl, rfl, ej, ⟨eqShs_refl _, fun t ht => rfl⟩⟩, trivial⟩
theorem loopSc : LoopOK P (loopOf P 58 29) (few 134 [1,3,9,10,13,14] gSc) :=
  loop_few (E := EQb) mixed EQb_ok loopsOK_none 134 [1,3,9,10,13,14] (X := XSc) gSc (fun _ x => VSc x) PhiSc (fun q => bcN q.x q.L q.s q.l - q.j) (fun _ x o => o = OSc x)
    (fun n0 st r hh => by
      unfold gSc at hh
      split at hh
      · rename_i n0 L z b x s' i g0 n f k s h t0 g1 z' ss G t1
        obtain ⟨hp, he, rfl, rfl, rfl, rfl, rfl, rfl⟩ := (T.is_ask hh).1
        obtain rfl := T.is_ret (T.is_ask hh).2
        simp only [lk_eq] at hp
        obtain ⟨h0, hn, hr, hx, s1, s2, l0, l1, l8, hi⟩ := hp
        subst h0
        generalize hl : loS i s' = l at *
        refine ⟨⟨n, f, k, s', h, L, x, l, 0⟩, ⟨rfl, hn, hr, hx, s1, s2, l0, l1, l8, Nat.zero_le _⟩, wk_of [some 0, some 1] rfl (Nat.zero_le _) (ren1z _) (slSc_rl rfl rfl rfl (show i = l * s' + ((0 : Nat) : Int) * (L * s') by rw [hi]; simp)) ⟨⟨rfl, ⟨rfl, sameR fun _ _ => rfl⟩, rfl, rfl, rfl, trivial⟩, ⟨rfl, rfl, rfl, ⟨he, fun t ht => absurd ht (Nat.not_lt_zero _)⟩⟩, trivial⟩, fun o ho => ?_⟩
        rw [ho]
        simp only [lk_eq, hl]; rfl
      · exact hh.elim)
    roundSc
theorem lQb_ok : ∀ p ∈ lQb, LoopsOK P p.2 (bodyOf P p.1) := by
  intro p hp
  simp only [lQb, List.mem_singleton] at hp
  subst hp
  refine loopsOK_of (by kernel_rfl) fun k g hk => ?_
  simp only [List.mem_cons, List.not_mem_nil, or_false, Prod.mk.injEq, LoopC.sum.injEq] at hk
  rcases hk with ⟨rfl, rfl⟩ | ⟨rfl, rfl⟩ | ⟨rfl, rfl⟩
  · exact loopSa
  · exact loopSb
  · exact loopSc
end Go.RX.Span

/- Domain maps: ranges of rows are right ranges; sizes of blocks. -/
set_option linter.unusedVariables false
set_option linter.unusedSimpArgs false
set_option maxRecDepth 100000
namespace Go.RX.Span
open Go Go.RX
attribute [local irreducible] sx conB

theorem rr_last {r : R3} (hr : RR r) (h1 : 1 ≤ szR r) : rA r + rC r * (szR r - 1) = rB r := by
  obtain ⟨e1, z1, z2⟩ := rr_size hr
  have hc := hr.2
  rcases hr.1.2 with ⟨h2, h3, h4⟩ | ⟨h2, h3⟩ | ⟨h2, h3, h4⟩
  · have hz : szR r = 0 := by rw [e1]; unfold ofC; rw [if_pos (by omega)]
    omega
  · have hz : szR r = 1 := by
      rw [e1]; unfold ofC; rw [if_neg (by omega), if_neg (by omega), h3, Int.ediv_one]; omega
    rw [hz]; simp; exact h2
  · have hz : szR r = (rB r - rA r) / rC r + 1 := by
      rw [e1]; unfold ofC; rw [if_neg (by omega), if_neg (by omega)]
    have hm : rC r * ((rB r - rA r) / rC r) = rB r - rA r := Int.mul_ediv_cancel_of_emod_eq_zero h4
    rw [hz, Int.add_sub_cancel, hm]; omega
theorem rr_rg {r : R3} (hr : RR r) {a b c : Int} (h0 : 0 ≤ a) (hab : a < b) (hb : b ≤ szR r) (hc : 1 ≤ c) : RR (rgR r a b c) := by
  have hl := rr_last hr (by omega)
  have hC := hr.2
  obtain ⟨⟨a1, a2, a3, a4⟩, _⟩ := hr.1
  have bd : ∀ k : Int, 0 ≤ k → k ≤ szR r - 1 → 0 ≤ rC r * k ∧ rC r * k ≤ rC r * (szR r - 1) := fun k k0 k1 => ⟨Int.mul_nonneg (by omega) k0, Int.mul_le_mul_of_nonneg_left k1 (by omega)⟩
  have b1 := bd a h0 (by omega)
  unfold rgR
  rw [if_neg (by omega)]
  by_cases g : (b - 1 - a) / c = 0
  · rw [if_pos g]
    exact ⟨⟨⟨by show -1000000 ≤ rA r + rC r * a; omega, by show rA r + rC r * a ≤ 1000000; omega, by show -1000000 ≤ rA r + rC r * a; omega, by show rA r + rC r * a ≤ 1000000; omega⟩, .inr (.inl ⟨rfl, rfl⟩)⟩, by show (0 : Int) < 1; omega⟩
  · rw [if_neg g]
    have q0 : 0 ≤ (b - 1 - a) / c := Int.ediv_nonneg (by omega) (by omega)
    have q1 : (b - 1 - a) / c * c ≤ b - 1 - a := Int.ediv_mul_le _ (by omega)
    have q2 : 0 < (b - 1 - a) / c * c := Int.mul_pos (by omega) (by omega)
    have b2 := bd (a + (b - 1 - a) / c * c) (by omega) (by omega)
    have p1 : 0 < rC r * ((b - 1 - a) / c * c) := Int.mul_pos (by omega) q2
    have e : rC r * (a + (b - 1 - a) / c * c) = rC r * a + rC r * ((b - 1 - a) / c * c) := Int.mul_add _ _ _
    have p2 : 0 < rC r * c := Int.mul_pos (by omega) (by omega)
    refine ⟨⟨⟨by show -1000000 ≤ rA r + rC r * a; omega, by show rA r + rC r * a ≤ 1000000; omega, by show -1000000 ≤ rA r + rC r * (a + (b - 1 - a) / c * c); omega, by show rA r + rC r * (a + (b - 1 - a) / c * c) ≤ 1000000; omega⟩, .inr (.inr ⟨by show rA r + rC r * a < rA r + rC r * (a + (b - 1 - a) / c * c); omega, by show rC r * c ≠ 0; omega, ?_⟩)⟩, p2⟩
    show (rA r + rC r * (a + (b - 1 - a) / c * c) - (rA r + rC r * a)) % (rC r * c) = 0
    rw [e, show rA r + (rC r * a + rC r * ((b - 1 - a) / c * c)) - (rA r + rC r * a) = rC r * ((b - 1 - a) / c * c) by omega]
    rw [show rC r * ((b - 1 - a) / c * c) = rC r * c * ((b - 1 - a) / c) by rw [Int.mul_comm ((b - 1 - a) / c) c, Int.mul_assoc]]
    exact Int.mul_emod_right _ _
theorem sz_pos {r : R3} (hr : RR r) (h : rA r ≤ rB r) : 1 ≤ szR r := by
  obtain ⟨e1, z1, z2⟩ := rr_size hr
  have hc := hr.2
  rw [e1]; unfold ofC; rw [if_neg (by omega), if_neg (by omega)]
  have := Int.ediv_nonneg (show 0 ≤ rB r - rA r by omega) (show 0 ≤ rC r by omega)
  omega
theorem rg_sz {r : R3} (hr : RR r) {a b c : Int} (h0 : 0 ≤ a) (hab : a < b) (hb : b ≤ szR r) (hc : 1 ≤ c) : 1 ≤ szR (rgR r a b c) := by
  refine sz_pos (rr_rg hr h0 hab hb hc) ?_
  have hC := hr.2
  unfold rgR
  rw [if_neg (by omega)]
  by_cases g : (b - 1 - a) / c = 0
  · rw [if_pos g]; exact Int.le_refl _
  · rw [if_neg g]
    have q0 : 0 ≤ (b - 1 - a) / c := Int.ediv_nonneg (by omega) (by omega)
    have q2 : 0 ≤ (b - 1 - a) / c * c := Int.mul_nonneg q0 (by omega)
    show rA r + rC r * a ≤ rA r + rC r * (a + (b - 1 - a) / c * c)
    have := Int.mul_le_mul_of_nonneg_left (show a ≤ a + (b - 1 - a) / c * c by omega) (show 0 ≤ rC r by omega)
    omega
end Go.RX.Span

/- Domain maps: the lists of blocks. -/
set_option linter.unusedVariables false
set_option linter.unusedSimpArgs false
set_option maxRecDepth 100000
namespace Go.RX.Span
open Go Go.RX
attribute [local irreducible] sx conB

theorem bk_sz {n : Nat} {f : Nat → R3} {k s h : Int} (hc : chD n f k s h = 0) {rg : R3} (hr : RR rg) : szE (bkD n f k s h rg) = szR rg * colD n f := by
  obtain ⟨⟨hn, hf⟩, fit⟩ := chD_zero.1 hc
  have en : 1 + (n - 1) = n := by omega
  show szD (1 + (n - 1)) (U.cat 1 (fun _ => rg) fun i => f (i + 1)) k s h = _
  rw [en]
  have e0 : U.cat 1 (fun _ => rg) (fun i => f (i + 1)) 0 = rg := (U.cat_eq _ _ _ _).trans (if_pos (by omega))
  have e1 : U.cat 1 (fun _ => rg) (fun i => f (i + 1)) 1 = f 1 := (U.cat_eq _ _ _ _).trans (if_neg (by omega))
  have hc' : chD n (U.cat 1 (fun _ => rg) fun i => f (i + 1)) k s h = 0 := chD_zero.2 ⟨⟨hn, fun i hi => by
    rcases (show i = 0 ∨ i = 1 by omega) with rfl | rfl
    · rw [e0]; exact hr
    · rw [e1]; exact hf 1 hi⟩, fit⟩
  rw [szD_right hc', e0]
  unfold colD
  rw [e1]
theorem rr_nil : RR (tr3 1 0 1) := ⟨⟨⟨by decide, by decide, by decide, by decide⟩, .inl ⟨rfl, rfl, rfl⟩⟩, by show (0 : Int) < 1; omega⟩
theorem sz_nil : szR (tr3 1 0 1) = 0 := by
  rw [(rr_size rr_nil).1]; unfold ofC
  exact if_pos (show (1 : Int) > 0 by omega)
section
variable {n : Nat} {f : Nat → R3} {k s h a b c : Int} (hc : chD n f k s h = 0)
include hc
theorem bk_zero (hba : b ≤ a) : szE (bkD n f k s h (rgR (f 0) a b c)) = 0 := by
  have e : rgR (f 0) a b c = tr3 1 0 1 := by unfold rgR; rw [if_pos hba]
  rw [e, bk_sz hc rr_nil, sz_nil, Int.zero_mul]
theorem bk_pos (hz : szD n f k s h ≠ 0) (h0 : 0 ≤ a) (hab : a < b) (hb : b ≤ szR (f 0)) (c1 : 1 ≤ c) : 0 < szE (bkD n f k s h (rgR (f 0) a b c)) := by
  obtain ⟨d1, fit⟩ := chD_zero.1 hc
  have hn := d1.1
  have r0 := d1.2 0 (by omega)
  have cp := (dr_col d1).1
  have cn : colD n f ≠ 0 := fun w => hz (by rw [szD_right hc, w, Int.mul_zero])
  have := rg_sz r0 h0 hab hb c1
  rw [bk_sz hc (rr_rg r0 h0 hab hb c1)]
  exact Int.mul_pos (by omega) (by omega)
theorem bk_none (hz : szD n f k s h = 0) (h0 : 0 ≤ a) (hb : b ≤ szR (f 0)) (c1 : 1 ≤ c) : szE (bkD n f k s h (rgR (f 0) a b c)) = 0 := by
  rcases Int.lt_or_le a b with w | w
  · obtain ⟨d1, fit⟩ := chD_zero.1 hc
    have hn := d1.1
    have r0 := d1.2 0 (by omega)
    rw [szD_right hc] at hz
    rcases Int.mul_eq_zero.1 hz with g | g
    · omega
    · rw [bk_sz hc (rr_rg r0 h0 w hb c1), g, Int.mul_zero]
  · exact bk_zero hc w
end
theorem bkL_none {n : Nat} {f : Nat → R3} {k s h : Int} {F : Nat → R3} : ∀ {m : Nat}, (∀ j, j < m → szE (bkD n f k s h (F j)) = 0) → bkN n f k s h F m = 0
  | 0, _ => rfl
  | m + 1, hz => by
    have g := hz m (by omega)
    rw [(bkL_no (show ¬ 0 < szE (bkD n f k s h (F m)) by omega)).1]
    exact bkL_none fun j hj => hz j (by omega)
theorem bkL_all {n : Nat} {f : Nat → R3} {k s h : Int} {F : Nat → R3} : ∀ {m : Nat}, (∀ j, j < m → 0 < szE (bkD n f k s h (F j))) → bkN n f k s h F m = m ∧ ∀ j, j < m → bkG n f k s h F m j = bkD n f k s h (F j)
  | 0, _ => ⟨rfl, fun j hj => absurd hj (Nat.not_lt_zero _)⟩
  | m + 1, hp => by
    obtain ⟨y1, y2⟩ := bkL_yes (hp m (by omega))
    obtain ⟨i1, i2⟩ := bkL_all (m := m) fun j hj => hp j (by omega)
    rw [i1] at y1 y2
    refine ⟨y1, fun j hj => ?_⟩
    refine (congrFun y2 j).trans ((U.cat_eq _ _ _ _).trans ?_)
    by_cases h' : j < m
    · exact (if_pos h').trans (i2 j h')
    · obtain rfl : j = m := by omega
      exact if_neg h'
end Go.RX.Span

