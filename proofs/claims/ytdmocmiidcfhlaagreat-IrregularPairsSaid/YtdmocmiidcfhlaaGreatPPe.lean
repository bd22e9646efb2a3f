/- Ranges: what the functions of layer 1 return, in plain Lean. -/
import Derived.Test.YtdmocmiidcfhlaaGreatPPb
import Derived.Test.YtdmocmiidcfhlaaGreatProg
import Derived.KernelRfl
set_option linter.unusedVariables false
namespace Go.RX.Span
open Go Go.RX

def lim (n : Int) : Bool := decide (-1000000 ≤ n) && decide (n ≤ 1000000)
theorem lim_t {n : Int} : (lim n = true) = (-1000000 ≤ n ∧ n ≤ 1000000) := by unfold lim; simp
theorem lim_f {n : Int} : (lim n = false) = (n < -1000000 ∨ 1000000 < n) := by unfold lim; simp; omega

/-- The error of a range: none, 2 (its form), 4 (a number out of the limits). -/
def chk (a b c : Int) : Int :=
  if (a = 1 ∧ b = 0 ∧ c = 1) ∨ (a = b ∧ c = 1) ∨ (a < b ∧ c ≠ 0 ∧ (b - a) % c = 0) then
    if (-1000000 ≤ a ∧ a ≤ 1000000) ∧ (-1000000 ≤ b ∧ b ≤ 1000000) then 0 else 4
  else 2

/-- What a right range is. -/
def Right (a b c : Int) : Prop :=
  (-1000000 ≤ a ∧ a ≤ 1000000 ∧ -1000000 ≤ b ∧ b ≤ 1000000) ∧ ((a = 1 ∧ b = 0 ∧ c = 1) ∨ (a = b ∧ c = 1) ∨ (a < b ∧ c ≠ 0 ∧ (b - a) % c = 0))
theorem chk_zero {a b c : Int} : chk a b c = 0 ↔ Right a b c := by
  unfold chk Right
  by_cases h1 : (a = 1 ∧ b = 0 ∧ c = 1) ∨ (a = b ∧ c = 1) ∨ (a < b ∧ c ≠ 0 ∧ (b - a) % c = 0)
  · rw [if_pos h1]
    by_cases h2 : (-1000000 ≤ a ∧ a ≤ 1000000) ∧ (-1000000 ≤ b ∧ b ≤ 1000000)
    · rw [if_pos h2]; exact ⟨fun _ => ⟨⟨h2.1.1, h2.1.2, h2.2.1, h2.2.2⟩, h1⟩, fun _ => rfl⟩
    · rw [if_neg h2]; exact ⟨fun h => by omega, fun h => absurd ⟨⟨h.1.1, h.1.2.1⟩, h.1.2.2⟩ h2⟩
  · rw [if_neg h1]; exact ⟨fun h => by omega, fun h => absurd h.2 h1⟩

def sLast (a b c : Int) : Int := a + b * (c - 1)
def ofF (a b c : Int) : Int := if a > b then 0 else if c < 0 then b else a
def ofB (a b c : Int) : Int := if a > b then 0 else c
def ofC (a b c : Int) : Int := if a > b then 0 else if c < 0 then (b - a) / (-c) + 1 else (b - a) / c + 1

/-- A series made normal. -/
def nErr (a b c : Int) : Int := if c ≤ 0 then 0 else if (-1000000 ≤ a ∧ a ≤ 1000000) ∧ (-1000000 ≤ sLast a b c ∧ sLast a b c ≤ 1000000) then 0 else 4
def nLow (a b c : Int) : Int := if c ≤ 0 then 1 else if nErr a b c = 0 then min a (sLast a b c) else 0
def nHigh (a b c : Int) : Int := if c ≤ 0 then 0 else if nErr a b c = 0 then max a (sLast a b c) else 0
def nStr (a b c : Int) : Int := if c ≤ 0 then 1 else if nErr a b c = 0 then (if c = 1 then 1 else b) else 0

def tF (a b c : Int) : Int := if c = 0 then a else sLast a b c
def tB (a b c : Int) : Int := if c = 0 then b else -b

def size (a b c : Int) : Int := if chk a b c = 0 then ofC a b c else 0
def nthE (a b c k : Int) : Int := if chk a b c ≠ 0 then chk a b c else if k < 0 ∨ k ≥ ofC a b c then 4 else 0
def nth (a b c k : Int) : Int := if nthE a b c k ≠ 0 then 0 else ofF a b c + ofB a b c * k
def has (a b c n : Int) : Bool := decide (chk a b c = 0 ∧ a ≤ n ∧ n ≤ b ∧ (n - a) % c = 0)
def pos (a b c n : Int) : Int := if has a b c n = true then (if c < 0 then (b - n) / (-c) else (n - a) / c) else 0

def isE (a b c : Int) : Bool := decide (a = 1 ∧ b = 0 ∧ c = 1)
def absI (c : Int) : Int := if c < 0 then -c else c
/-- The remainder from 0 on. -/
def rmod (a b : Int) : Int := a % b
def rnL (l h s : Int) (d : Bool) : Int := if l > h then 1 else l
def rnH (l h s : Int) (d : Bool) : Int := if l > h then 0 else h
def rnS (l h s : Int) (d : Bool) : Int := if l ≥ h then 1 else if d = true then -s else s

theorem tmod_pos {a m : Int} (ha : 0 ≤ a) : a.tmod m = a % m := Int.tmod_eq_emod_of_nonneg ha
theorem emod_neg_lhs {a m : Int} (hm : 0 < m) (h : (-a) % m ≠ 0) : m - (-a) % m = a % m := by
  have h1 := Int.mul_ediv_add_emod (-a) m
  have h2 := Int.emod_nonneg (-a) (show m ≠ 0 by omega)
  have h3 := Int.emod_lt_of_pos (-a) hm
  have e : a = (m - (-a) % m) + m * (-((-a) / m) - 1) := by
    rw [Int.mul_sub, Int.mul_neg, Int.mul_one]; omega
  have : a % m = ((m - (-a) % m) + m * (-((-a) / m) - 1)) % m := by rw [← e]
  rw [this, Int.add_mul_emod_self_left]
  exact (Int.emod_eq_of_lt (by omega) (by omega)).symm
theorem emod_neg_zero {a m : Int} (h : (-a) % m = 0) : a % m = 0 := by
  have := Int.dvd_of_emod_eq_zero h
  exact Int.emod_eq_zero_of_dvd ((Int.dvd_neg).1 this)
theorem emod_sub_zero {a b m : Int} : (b - a) % m = 0 ↔ b % m = a % m := by
  constructor
  · intro h; exact (Int.emod_eq_emod_iff_emod_sub_eq_zero).2 h
  · intro h; exact (Int.emod_eq_emod_iff_emod_sub_eq_zero).1 h
end Go.RX.Span

/- Ranges: the contracts of layer 1's small functions. -/
set_option linter.unusedVariables false
namespace Go.RX.Span
open Go Go.RX

noncomputable def c_within : Con := fun args => match args with
  | [.lit (.int .i64 n)] => .ret (.lit (.bool (lk lim n)))
  | _ => .stuck 1
noncomputable def c_last : Con := fun args => match args with
  | [.agg [.lit (.int .i64 a), .lit (.int .i64 b), .lit (.int .i64 c)]] => .ask (I64 (c - 1) ∧ I64 (b * (c - 1)) ∧ I64 (a + b * (c - 1))) (.ret (.lit (.int .i64 (lk sLast a b c))))
  | _ => .stuck 1
noncomputable def c_of : Con := fun args => match args with
  | [.agg [.lit (.int .i64 a), .lit (.int .i64 b), .lit (.int .i64 c)]] =>
    .ask (a ≤ b → c ≠ 0 ∧ -9223372036854775807 ≤ c ∧ b - a < 9223372036854775807 ∧ I64 a ∧ I64 b ∧ I64 c) (.ret (.agg [.lit (.int .i64 (lk ofF a b c)), .lit (.int .i64 (lk ofB a b c)), .lit (.int .i64 (lk ofC a b c))]))
  | _ => .stuck 1
noncomputable def c_normal : Con := fun args => match args with
  | [.agg [.lit (.int .i64 a), .lit (.int .i64 b), .lit (.int .i64 c)]] =>
    .ask (0 < c → I64 (c - 1) ∧ I64 (b * (c - 1)) ∧ I64 (a + b * (c - 1)))
      (.ret (.tup [.agg [.lit (.int .i64 (lk nLow a b c)), .lit (.int .i64 (lk nHigh a b c)), .lit (.int .i64 (lk nStr a b c))], .lit (.int .i64 (lk nErr a b c))]))
  | _ => .stuck 1
noncomputable def c_turned : Con := fun args => match args with
  | [.agg [.lit (.int .i64 a), .lit (.int .i64 b), .lit (.int .i64 c)]] =>
    .ask (c ≠ 0 → I64 (c - 1) ∧ I64 (b * (c - 1)) ∧ I64 (a + b * (c - 1)) ∧ I64 (-b)) (.ret (.agg [.lit (.int .i64 (lk tF a b c)), .lit (.int .i64 (lk tB a b c)), .lit (.int .i64 c)]))
  | _ => .stuck 1
noncomputable def c_Check : Con := fun args => match args with
  | [.agg [.lit (.int .i64 a), .lit (.int .i64 b), .lit (.int .i64 c)]] => .ask (I64 a ∧ I64 b ∧ I64 c) (.ret (.lit (.int .i64 (lk chk a b c))))
  | _ => .stuck 1
noncomputable def c_Size : Con := fun args => match args with
  | [.agg [.lit (.int .i64 a), .lit (.int .i64 b), .lit (.int .i64 c)]] => .ask (I64 a ∧ I64 b ∧ I64 c) (.ret (.lit (.int .i64 (lk size a b c))))
  | _ => .stuck 1
noncomputable def c_Nth : Con := fun args => match args with
  | [.agg [.lit (.int .i64 a), .lit (.int .i64 b), .lit (.int .i64 c)], .lit (.int .i64 k)] => .ask (I64 a ∧ I64 b ∧ I64 c) (.ret (.tup [.lit (.int .i64 (lk nth a b c k)), .lit (.int .i64 (lk nthE a b c k))]))
  | _ => .stuck 1
noncomputable def c_Position : Con := fun args => match args with
  | [.agg [.lit (.int .i64 a), .lit (.int .i64 b), .lit (.int .i64 c)], .lit (.int .i64 n)] => .ask (I64 a ∧ I64 b ∧ I64 c) (.ret (.tup [.lit (.int .i64 (lk pos a b c n)), .lit (.bool (lk has a b c n))]))
  | _ => .stuck 1
noncomputable def c_Has : Con := fun args => match args with
  | [.agg [.lit (.int .i64 a), .lit (.int .i64 b), .lit (.int .i64 c)], .lit (.int .i64 n)] => .ask (I64 a ∧ I64 b ∧ I64 c) (.ret (.lit (.bool (lk has a b c n))))
  | _ => .stuck 1
noncomputable def c_Empty : Con := fun args => match args with
  | [] => .ret (.agg [.lit (.int .i64 1), .lit (.int .i64 0), .lit (.int .i64 1)])
  | _ => .stuck 1
noncomputable def c_IsEmpty : Con := fun args => match args with
  | [.agg [.lit (.int .i64 a), .lit (.int .i64 b), .lit (.int .i64 c)]] => .ret (.lit (.bool (lk isE a b c)))
  | _ => .stuck 1
noncomputable def c_step : Con := fun args => match args with
  | [.agg [.lit (.int .i64 a), .lit (.int .i64 b), .lit (.int .i64 c)]] => .ask (I64 (-c)) (.ret (.lit (.int .i64 (lk absI c))))
  | _ => .stuck 1
noncomputable def c_mod : Con := fun args => match args with
  | [.lit (.int .i64 a), .lit (.int .i64 b)] => .ask (b ≠ 0 ∧ I64 a ∧ I64 b) (.ret (.lit (.int .u64 (lk rmod a b))))
  | _ => .stuck 1
noncomputable def c_Normal : Con := fun args => match args with
  | [.lit (.int .i64 l), .lit (.int .i64 h), .lit (.int .i64 s), .lit (.bool d)] =>
    .ask (l < h → d = true → I64 (-s)) (.ret (.agg [.lit (.int .i64 (lk rnL l h s d)), .lit (.int .i64 (lk rnH l h s d)), .lit (.int .i64 (lk rnS l h s d))]))
  | _ => .stuck 1
end Go.RX.Span

/- Ranges: layer 1's small functions meet their contracts. -/
set_option linter.unusedVariables false
set_option linter.unusedSimpArgs false
set_option maxRecDepth 100000
namespace Go.RX.Span
open Go Go.RX

noncomputable abbrev P := Go.Proofs.Tryz.prog
theorem mixed : P.follows .mixedOrders = true := by kernel_rfl

set_option maxRecDepth 100000 in
theorem t_within (n : Int) : conB Go.Proofs.Tryz.prog (conOf []) noLoops 10 80 [.lit (.int .i64 n)] =
    T.br (U.ge n (-1000000 : Int)) (.ret (.lit (.bool (U.le n (1000000 : Int))))) (.ret (.lit (.bool false))) := by kernel_rfl
theorem within_ok : ConOK P 80 c_within := con_of (allOK mixed (l := []) (by simp)) 10 80 fun args r h => by
  unfold c_within at h
  split at h
  · rename_i n
    obtain rfl := T.is_ret h
    rw [t_within]
    simp only [T.All, U.le_t, U.le_f, U.lt_t, U.lt_f, U.gt_t, U.gt_f, U.ge_t, U.ge_f, U.eq_t, U.eq_f, U.ne_t, U.ne_f, U.not_t, U.not_f, U.andb_t, U.andb_f, SV.lit.injEq, SV.agg.injEq, SV.tup.injEq, List.cons.injEq, Value.int.injEq, Value.bool.injEq, true_and, and_true, lk_eq]
    rw [U.le_eq]
    unfold lim
    refine ⟨fun h => by simp [h], fun h => ?_⟩
    have : ¬ (-1000000 ≤ n) := by omega
    simp [this]
  · exact h.elim

set_option maxRecDepth 100000 in
theorem t_last (a b c : Int) : conB Go.Proofs.Tryz.prog (conOf []) noLoops 10 103 [.agg [.lit (.int .i64 a), .lit (.int .i64 b), .lit (.int .i64 c)]] =
    T.ret (.lit (.int .i64 (U.add .i64 a (U.mul .i64 b (U.sub .i64 c (1 : Int)))))) := by kernel_rfl
theorem last_ok : ConOK P 103 c_last := con_of (allOK mixed (l := []) (by simp)) 10 103 fun args r h => by
  unfold c_last at h
  split at h
  · rename_i a b c
    have hp := (T.is_ask h).1
    have h1 := hp.1
    have h2 := hp.2.1
    have h3 := hp.2.2
    have h := (T.is_ask h).2
    obtain rfl := T.is_ret h
    rw [t_last]
    simp only [T.All, U.le_t, U.le_f, U.lt_t, U.lt_f, U.gt_t, U.gt_f, U.ge_t, U.ge_f, U.eq_t, U.eq_f, U.ne_t, U.ne_f, U.not_t, U.not_f, U.andb_t, U.andb_f, SV.lit.injEq, SV.agg.injEq, SV.tup.injEq, List.cons.injEq, Value.int.injEq, Value.bool.injEq, true_and, and_true, lk_eq]
    rw [U.sub64 h1, U.mul64 h2, U.add64 h3]; rfl
  · exact h.elim

theorem tdiv_pos {a b : Int} (h : 0 ≤ a) : a.tdiv b = a / b := Int.tdiv_eq_ediv_of_nonneg h
theorem div_le_self' {a b : Int} (ha : 0 ≤ a) (hb : 0 < b) : 0 ≤ a / b ∧ a / b ≤ a :=
  ⟨Int.ediv_nonneg ha (by omega), Int.ediv_le_self b ha⟩

set_option maxRecDepth 100000 in
theorem t_of (a b c : Int) : conB Go.Proofs.Tryz.prog (conOf []) noLoops 10 83 [.agg [.lit (.int .i64 a), .lit (.int .i64 b), .lit (.int .i64 c)]] =
    T.br (U.gt a b) (.ret (.agg [.lit (.int .i64 0), .lit (.int .i64 0), .lit (.int .i64 0)])) (.br (U.lt c (0 : Int)) (.ask (U.sub .i64 0 c ≠ (0 : Int)) (.ret (.agg [.lit (.int .i64
      b), .lit (.int .i64 c), .lit (.int .i64 (U.add .i64 (U.quo .i64 (U.sub .i64 b a) (U.sub .i64 0 c)) (1 : Int)))]))) (.ask (c ≠ (0 : Int)) (.ret (.agg [.lit (.int .i64 a), .lit (.int
      .i64 c), .lit (.int .i64 (U.add .i64 (U.quo .i64 (U.sub .i64 b a) c) (1 : Int)))])))) := by kernel_rfl
theorem of_ok : ConOK P 83 c_of := con_of (allOK mixed (l := []) (by simp)) 10 83 fun args r h => by
  unfold c_of at h
  split at h
  · rename_i a b c
    have hp := (T.is_ask h).1
    have h := (T.is_ask h).2
    obtain rfl := T.is_ret h
    rw [t_of]
    simp only [T.All, U.le_t, U.le_f, U.lt_t, U.lt_f, U.gt_t, U.gt_f, U.ge_t, U.ge_f, U.eq_t, U.eq_f, U.ne_t, U.ne_f, U.not_t, U.not_f, U.andb_t, U.andb_f, SV.lit.injEq, SV.agg.injEq, SV.tup.injEq, List.cons.injEq, Value.int.injEq, Value.bool.injEq, true_and, and_true, lk_eq]
    unfold I64 at hp
    refine ⟨fun h => ?_, fun h => ⟨fun h2 => ?_, fun h2 => ?_⟩⟩
    · unfold ofF ofB ofC; rw [if_pos (by omega), if_pos (by omega), if_pos (by omega)]; exact ⟨rfl, rfl, rfl⟩
    · obtain ⟨g1, g2, g3, g4, g5, g6⟩ := hp h
      have e1 : U.sub .i64 0 c = -c := by rw [U.sub64 (by unfold I64; omega)]; omega
      have e2 : U.sub .i64 b a = b - a := U.sub64 (by unfold I64; omega)
      have hd := div_le_self' (a := b - a) (b := -c) (by omega) (by omega)
      rw [e1, e2, U.quo64 (by rw [tdiv_pos (by omega)]; unfold I64; omega), tdiv_pos (by omega), U.add64 (by unfold I64; omega)]
      have n1 : ¬ a > b := by omega
      refine ⟨by omega, ?_, ?_, ?_⟩ <;> simp [ofF, ofB, ofC, h2, n1]
    · obtain ⟨g1, g2, g3, g4, g5, g6⟩ := hp h
      have e2 : U.sub .i64 b a = b - a := U.sub64 (by unfold I64; omega)
      have hd := div_le_self' (a := b - a) (b := c) (by omega) (by omega)
      rw [e2, U.quo64 (by rw [tdiv_pos (by omega)]; unfold I64; omega), tdiv_pos (by omega), U.add64 (by unfold I64; omega)]
      have n1 : ¬ a > b := by omega
      have n2 : ¬ c < 0 := by omega
      refine ⟨by omega, ?_, ?_, ?_⟩ <;> simp [ofF, ofB, ofC, n1, n2]
  · exact h.elim

noncomputable abbrev k0 : List (Nat × Con) := [(80, c_within), (103, c_last), (83, c_of)] --%K
theorem k0_ok : ∀ p ∈ k0, ConOK P p.1 p.2 := by
  intro p hp
  simp only [k0, List.mem_cons, List.not_mem_nil, or_false] at hp
  rcases hp with rfl | rfl | rfl
  · exact within_ok
  · exact last_ok
  · exact of_ok
theorem mm_min (a b : Int) : U.mm false a b = min a b := by rw [U.mm_eq]; simp only [Bool.false_eq_true, if_false]; split <;> omega
theorem mm_max (a b : Int) : U.mm true a b = max a b := by rw [U.mm_eq]; simp only [if_true]; split <;> omega

set_option maxRecDepth 100000 in
theorem t_normal (a b c : Int) : conB Go.Proofs.Tryz.prog (conOf k0) noLoops 10 86 [.agg [.lit (.int .i64 a), .lit (.int .i64 b), .lit (.int .i64 c)]] =
    T.br (U.le c (0 : Int)) (.ret (.tup [.agg [.lit (.int .i64 1), .lit (.int .i64 0), .lit (.int .i64 1)], .lit (.int .i64 0)])) (.ask (I64 (c - (1 : Int)) ∧ I64 (b * (c - (1 : Int)))
      ∧ I64 (a + b * (c - (1 : Int)))) (.ask (I64 (c - (1 : Int)) ∧ I64 (b * (c - (1 : Int))) ∧ I64 (a + b * (c - (1 : Int)))) (.br (U.eq c (1 : Int)) (.br (U.not (lk lim (U.mm false a
      (lk sLast a b c)))) (.ret (.tup [.agg [.lit (.int .i64 0), .lit (.int .i64 0), .lit (.int .i64 0)], .lit (.int .i64 4)])) (.br (U.not (lk lim (U.mm true a (lk sLast a b c)))) (.ret
      (.tup [.agg [.lit (.int .i64 0), .lit (.int .i64 0), .lit (.int .i64 0)], .lit (.int .i64 4)])) (.ret (.tup [.agg [.lit (.int .i64 (U.mm false a (lk sLast a b c))), .lit (.int .i64
      (U.mm true a (lk sLast a b c))), .lit (.int .i64 1)], .lit (.int .i64 0)])))) (.br (U.not (lk lim (U.mm false a (lk sLast a b c)))) (.ret (.tup [.agg [.lit (.int .i64 0), .lit (.int
      .i64 0), .lit (.int .i64 0)], .lit (.int .i64 4)])) (.br (U.not (lk lim (U.mm true a (lk sLast a b c)))) (.ret (.tup [.agg [.lit (.int .i64 0), .lit (.int .i64 0), .lit (.int .i64
      0)], .lit (.int .i64 4)])) (.ret (.tup [.agg [.lit (.int .i64 (U.mm false a (lk sLast a b c))), .lit (.int .i64 (U.mm true a (lk sLast a b c))), .lit (.int .i64 b)], .lit (.int .i64
      0)]))))))) := by kernel_rfl
theorem normal_ok : ConOK P 86 c_normal := con_of (allOK mixed k0_ok) 10 86 fun args r h => by
  unfold c_normal at h
  split at h
  · rename_i a b c
    have hp := (T.is_ask h).1
    have h := (T.is_ask h).2
    obtain rfl := T.is_ret h
    rw [t_normal]
    simp only [T.All, U.le_t, U.le_f, U.lt_t, U.lt_f, U.gt_t, U.gt_f, U.ge_t, U.ge_f, U.eq_t, U.eq_f, U.ne_t, U.ne_f, U.not_t, U.not_f, U.andb_t, U.andb_f, SV.lit.injEq, SV.agg.injEq, SV.tup.injEq, List.cons.injEq, Value.int.injEq, Value.bool.injEq, true_and, and_true, lk_eq, mm_min, mm_max, lim_t, lim_f]
    refine ⟨fun h => ?_, fun h => ⟨hp h, hp h, fun h2 => ⟨fun h3 => ?_, fun h3 => ⟨fun h4 => ?_, fun h4 => ?_⟩⟩, fun h2 => ⟨fun h3 => ?_, fun h3 => ⟨fun h4 => ?_, fun h4 => ?_⟩⟩⟩⟩
    · simp [nLow, nHigh, nStr, nErr, h]
    all_goals
      have hc : ¬ c ≤ 0 := by omega
      have e : nErr a b c = 4 ∨ nErr a b c = 0 := by unfold nErr; rw [if_neg hc]; split <;> simp
    · have e : nErr a b c = 4 := by unfold nErr; rw [if_neg hc, if_neg (by omega)]
      simp [nLow, nHigh, nStr, hc, e]
    · have e : nErr a b c = 4 := by unfold nErr; rw [if_neg hc, if_neg (by omega)]
      simp [nLow, nHigh, nStr, hc, e]
    · subst h2
      have e : nErr a b 1 = 0 := by unfold nErr; rw [if_neg hc, if_pos (by omega)]
      simp [nLow, nHigh, nStr, e]
    · have e : nErr a b c = 4 := by unfold nErr; rw [if_neg hc, if_neg (by omega)]
      simp [nLow, nHigh, nStr, hc, e]
    · have e : nErr a b c = 4 := by unfold nErr; rw [if_neg hc, if_neg (by omega)]
      simp [nLow, nHigh, nStr, hc, e]
    · have e : nErr a b c = 0 := by unfold nErr; rw [if_neg hc, if_pos (by omega)]
      simp [nLow, nHigh, nStr, hc, e, h2]
  · exact h.elim

set_option maxRecDepth 100000 in
theorem t_turned (a b c : Int) : conB Go.Proofs.Tryz.prog (conOf k0) noLoops 10 104 [.agg [.lit (.int .i64 a), .lit (.int .i64 b), .lit (.int .i64 c)]] =
    T.br (U.eq c (0 : Int)) (.ret (.agg [.lit (.int .i64 a), .lit (.int .i64 b), .lit (.int .i64 c)])) (.ask (I64 (c - (1 : Int)) ∧ I64 (b * (c - (1 : Int))) ∧ I64 (a + b * (c - (1 :
      Int)))) (.ret (.agg [.lit (.int .i64 (lk sLast a b c)), .lit (.int .i64 (U.sub .i64 0 b)), .lit (.int .i64 c)]))) := by kernel_rfl
theorem turned_ok : ConOK P 104 c_turned := con_of (allOK mixed k0_ok) 10 104 fun args r h => by
  unfold c_turned at h
  split at h
  · rename_i a b c
    have hp := (T.is_ask h).1
    have h := (T.is_ask h).2
    obtain rfl := T.is_ret h
    rw [t_turned]
    simp only [T.All, U.le_t, U.le_f, U.lt_t, U.lt_f, U.gt_t, U.gt_f, U.ge_t, U.ge_f, U.eq_t, U.eq_f, U.ne_t, U.ne_f, U.not_t, U.not_f, U.andb_t, U.andb_f, SV.lit.injEq, SV.agg.injEq, SV.tup.injEq, List.cons.injEq, Value.int.injEq, Value.bool.injEq, true_and, and_true, lk_eq]
    unfold tF tB
    refine ⟨fun h => ?_, fun h => ?_⟩
    · rw [if_pos h, if_pos h]; exact ⟨rfl, rfl⟩
    · obtain ⟨h1, h2, h3, h4⟩ := hp h
      rw [if_neg h, if_neg h, U.sub64 (by unfold I64 at h4 ⊢; omega)]
      exact ⟨⟨h1, h2, h3⟩, rfl, by omega⟩
  · exact h.elim
end Go.RX.Span

/- Ranges: the error of a range, in both texts; the reference's small functions. -/
set_option linter.unusedVariables false
set_option linter.unusedSimpArgs false
set_option maxRecDepth 100000
namespace Go.RX.Span
open Go Go.RX

theorem u64_neg {b : Int} (h0 : b < 0) (h : I64 b) : U.sub .u64 0 (U.wrap .u64 b) = -b := by
  rw [U.sub_eq, U.wrap_eq, IntKind.wrap_u64, IntKind.wrap_u64]; unfold I64 at h; omega
theorem u64_pos {b : Int} (h0 : 0 ≤ b) (h : I64 b) : U.wrap .u64 b = b := by
  rw [U.wrap_eq, IntKind.wrap_u64]; unfold I64 at h; omega
theorem u64_sub {m r : Int} (h0 : 0 ≤ r) (h1 : r ≤ m) (h : m ≤ 9223372036854775808) : U.sub .u64 m r = m - r := by
  rw [U.sub_eq, IntKind.wrap_u64]; omega
theorem u64_diff {a b : Int} (h : a < b) (ha : I64 a) (hb : I64 b) : U.wrap .u64 (U.sub .i64 b a) = b - a := by
  rw [U.sub_eq, U.wrap_eq, IntKind.wrap_u64, IntKind.wrap_i64]; unfold I64 at ha hb; omega

set_option maxRecDepth 100000 in
theorem t_Empty  : conB Go.Proofs.Tryz.prog (conOf []) noLoops 10 74 [] =
    T.ret (.agg [.lit (.int .i64 1), .lit (.int .i64 0), .lit (.int .i64 1)]) := by kernel_rfl
theorem Empty_ok : ConOK P 74 c_Empty := con_of (allOK mixed (l := []) (by simp)) 10 74 fun args r h => by
  unfold c_Empty at h
  split at h
  · obtain rfl := T.is_ret h
    rw [t_Empty]; simp only [T.All]
  · exact h.elim
noncomputable abbrev e0 : List (Nat × Con) := [(74, c_Empty)] --%K
theorem e0_ok : ∀ p ∈ e0, ConOK P p.1 p.2 := by simp only [e0, List.mem_singleton, forall_eq]; exact Empty_ok

set_option maxRecDepth 100000 in
theorem t_IsEmpty (a b c : Int) : conB Go.Proofs.Tryz.prog (conOf e0) noLoops 10 42 [.agg [.lit (.int .i64 a), .lit (.int .i64 b), .lit (.int .i64 c)]] =
    T.ret (.lit (.bool (U.andb (U.eq a (1 : Int)) (U.andb (U.eq b (0 : Int)) (U.eq c (1 : Int)))))) := by kernel_rfl
theorem IsEmpty_ok : ConOK P 42 c_IsEmpty := con_of (allOK mixed e0_ok) 10 42 fun args r h => by
  unfold c_IsEmpty at h
  split at h
  · rename_i a b c
    obtain rfl := T.is_ret h
    rw [t_IsEmpty]
    simp only [T.All, U.le_t, U.le_f, U.lt_t, U.lt_f, U.gt_t, U.gt_f, U.ge_t, U.ge_f, U.eq_t, U.eq_f, U.ne_t, U.ne_f, U.not_t, U.not_f, U.andb_t, U.andb_f, SV.lit.injEq, SV.agg.injEq, SV.tup.injEq, List.cons.injEq, Value.int.injEq, Value.bool.injEq, true_and, and_true, lk_eq]
    unfold isE
    rw [U.andb_eq, U.andb_eq, U.eq_eq, U.eq_eq, U.eq_eq, Bool.eq_iff_iff]
    simp
  · exact h.elim

set_option maxRecDepth 100000 in
theorem t_step (a b c : Int) : conB Go.Proofs.Tryz.prog (conOf []) noLoops 10 45 [.agg [.lit (.int .i64 a), .lit (.int .i64 b), .lit (.int .i64 c)]] =
    T.br (U.lt c (0 : Int)) (.ret (.lit (.int .i64 (U.sub .i64 0 c)))) (.ret (.lit (.int .i64 c))) := by kernel_rfl
theorem step_ok : ConOK P 45 c_step := con_of (allOK mixed (l := []) (by simp)) 10 45 fun args r h => by
  unfold c_step at h
  split at h
  · rename_i a b c
    have hp := (T.is_ask h).1
    have h := (T.is_ask h).2
    obtain rfl := T.is_ret h
    rw [t_step]
    simp only [T.All, U.le_t, U.le_f, U.lt_t, U.lt_f, U.gt_t, U.gt_f, U.ge_t, U.ge_f, U.eq_t, U.eq_f, U.ne_t, U.ne_f, U.not_t, U.not_f, U.andb_t, U.andb_f, SV.lit.injEq, SV.agg.injEq, SV.tup.injEq, List.cons.injEq, Value.int.injEq, Value.bool.injEq, true_and, and_true, lk_eq]
    unfold absI
    refine ⟨fun h => ?_, fun h => ?_⟩
    · rw [if_pos h, U.sub64 (by unfold I64 at hp ⊢; omega)]; omega
    · rw [if_neg (by omega)]
  · exact h.elim

set_option maxRecDepth 100000 in
theorem t_mod (a b : Int) : conB Go.Proofs.Tryz.prog (conOf []) noLoops 10 43 [.lit (.int .i64 a), .lit (.int .i64 b)] =
    T.br (U.lt b (0 : Int)) (.br (U.ge a (0 : Int)) (.ask (U.sub .u64 (0 : Int) (U.wrap .u64 b) ≠ (0 : Int)) (.ret (.lit (.int .u64 (U.rem (U.wrap .u64 a) (U.sub .u64 (0 : Int) (U.wrap
      .u64 b))))))) (.ask (U.sub .u64 (0 : Int) (U.wrap .u64 b) ≠ (0 : Int)) (.br (U.eq (U.rem (U.sub .u64 (0 : Int) (U.wrap .u64 a)) (U.sub .u64 (0 : Int) (U.wrap .u64 b))) (0 : Int))
      (.ret (.lit (.int .u64 (0 : Int)))) (.ret (.lit (.int .u64 (U.sub .u64 (U.sub .u64 (0 : Int) (U.wrap .u64 b)) (U.rem (U.sub .u64 (0 : Int) (U.wrap .u64 a)) (U.sub .u64 (0 : Int)
      (U.wrap .u64 b)))))))))) (.br (U.ge a (0 : Int)) (.ask (U.wrap .u64 b ≠ (0 : Int)) (.ret (.lit (.int .u64 (U.rem (U.wrap .u64 a) (U.wrap .u64 b)))))) (.ask (U.wrap .u64 b ≠ (0 :
      Int)) (.br (U.eq (U.rem (U.sub .u64 (0 : Int) (U.wrap .u64 a)) (U.wrap .u64 b)) (0 : Int)) (.ret (.lit (.int .u64 (0 : Int)))) (.ret (.lit (.int .u64 (U.sub .u64 (U.wrap .u64 b)
      (U.rem (U.sub .u64 (0 : Int) (U.wrap .u64 a)) (U.wrap .u64 b))))))))) := by kernel_rfl
theorem mod_ok : ConOK P 43 c_mod := con_of (allOK mixed (l := []) (by simp)) 10 43 fun args r h => by
  unfold c_mod at h
  split at h
  · rename_i a b
    have hb := (T.is_ask h).1.1
    have ha64 := (T.is_ask h).1.2.1
    have hb64 := (T.is_ask h).1.2.2
    have h := (T.is_ask h).2
    obtain rfl := T.is_ret h
    rw [t_mod]
    have core : ∀ m : Int, 0 < m → m ≤ 9223372036854775808 → (∀ x, x % m = x % b) →
        ((0 ≤ a → U.rem (U.wrap .u64 a) m = rmod a b) ∧ (a < 0 → (U.rem (U.sub .u64 0 (U.wrap .u64 a)) m = 0 → 0 = rmod a b) ∧
          (U.rem (U.sub .u64 0 (U.wrap .u64 a)) m ≠ 0 → U.sub .u64 m (U.rem (U.sub .u64 0 (U.wrap .u64 a)) m) = rmod a b))) := by
      intro m hm hm2 hmb
      unfold rmod
      refine ⟨fun h0 => by rw [u64_pos h0 ha64, U.rem_eq, tmod_pos h0, hmb], fun h0 => ?_⟩
      rw [u64_neg h0 ha64, U.rem_eq, tmod_pos (by omega)]
      refine ⟨fun h1 => by rw [← hmb]; exact (emod_neg_zero h1).symm, fun h1 => ?_⟩
      have h2 := Int.emod_nonneg (-a) (show m ≠ 0 by omega)
      have h3 := Int.emod_lt_of_pos (-a) hm
      rw [u64_sub h2 (by omega) hm2, emod_neg_lhs hm h1, hmb]
    simp only [T.All, U.le_t, U.le_f, U.lt_t, U.lt_f, U.gt_t, U.gt_f, U.ge_t, U.ge_f, U.eq_t, U.eq_f, U.ne_t, U.ne_f, U.not_t, U.not_f, U.andb_t, U.andb_f, SV.lit.injEq, SV.agg.injEq, SV.tup.injEq, List.cons.injEq, Value.int.injEq, Value.bool.injEq, true_and, and_true, lk_eq]
    have hbb : I64 b := hb64
    unfold I64 at hb64
    refine ⟨fun h0 => ?_, fun h0 => ?_⟩
    · rw [u64_neg h0 hbb]
      obtain ⟨c1, c2⟩ := core (-b) (by omega) (by omega) (fun x => Int.emod_neg x b)
      exact ⟨fun h1 => ⟨by omega, c1 h1⟩, fun h1 => ⟨by omega, (c2 h1).1, (c2 h1).2⟩⟩
    · rw [u64_pos h0 hbb]
      obtain ⟨c1, c2⟩ := core b (by omega) (by omega) (fun x => rfl)
      exact ⟨fun h1 => ⟨hb, c1 h1⟩, fun h1 => ⟨hb, (c2 h1).1, (c2 h1).2⟩⟩
  · exact h.elim

set_option maxRecDepth 100000 in
theorem t_Normal (l h s : Int) (d : Bool) : conB Go.Proofs.Tryz.prog (conOf e0) noLoops 10 90 [.lit (.int .i64 l), .lit (.int .i64 h), .lit (.int .i64 s), .lit (.bool d)] =
    T.br (U.gt l h) (.ret (.agg [.lit (.int .i64 1), .lit (.int .i64 0), .lit (.int .i64 1)])) (.br (U.eq l h) (.ret (.agg [.lit (.int .i64 l), .lit (.int .i64 h), .lit (.int .i64 1)]))
      (.br d (.ret (.agg [.lit (.int .i64 l), .lit (.int .i64 h), .lit (.int .i64 (U.sub .i64 0 s))])) (.ret (.agg [.lit (.int .i64 l), .lit (.int .i64 h), .lit (.int .i64 s)])))) := by kernel_rfl
theorem Normal_ok : ConOK P 90 c_Normal := con_of (allOK mixed e0_ok) 10 90 fun args r h => by
  unfold c_Normal at h
  split at h
  · rename_i l h' s d
    have hp := (T.is_ask h).1
    have h := (T.is_ask h).2
    obtain rfl := T.is_ret h
    rw [t_Normal]
    simp only [T.All, U.le_t, U.le_f, U.lt_t, U.lt_f, U.gt_t, U.gt_f, U.ge_t, U.ge_f, U.eq_t, U.eq_f, U.ne_t, U.ne_f, U.not_t, U.not_f, U.andb_t, U.andb_f, SV.lit.injEq, SV.agg.injEq, SV.tup.injEq, List.cons.injEq, Value.int.injEq, Value.bool.injEq, true_and, and_true, lk_eq]
    unfold rnL rnH rnS
    refine ⟨fun h => ?_, fun h => ⟨fun h2 => ?_, fun h2 => ⟨fun h3 => ?_, fun h3 => ?_⟩⟩⟩
    · have n1 : l ≥ h' := by omega
      simp [h, n1]
    · subst h2; simp
    · have n1 : ¬ l > h' := by omega
      have n2 : ¬ l ≥ h' := by omega
      rw [U.sub64 (by have := hp (by omega) h3; unfold I64 at this ⊢; omega)]
      simp [n1, n2, h3]
    · have n1 : ¬ l > h' := by omega
      have n2 : ¬ l ≥ h' := by omega
      simp [n1, n2, h3]
  · exact h.elim

set_option maxRecDepth 100000 in
theorem t_rwithin (n : Int) : conB Go.Proofs.Tryz.prog (conOf []) noLoops 10 44 [.lit (.int .i64 n)] =
    T.br (U.ge n (-1000000 : Int)) (.ret (.lit (.bool (U.le n (1000000 : Int))))) (.ret (.lit (.bool false))) := by kernel_rfl
theorem rwithin_ok : ConOK P 44 c_within := con_of (allOK mixed (l := []) (by simp)) 10 44 fun args r h => by
  unfold c_within at h
  split at h
  · rename_i n
    obtain rfl := T.is_ret h
    rw [t_rwithin]
    simp only [T.All, U.le_t, U.le_f, U.lt_t, U.lt_f, U.gt_t, U.gt_f, U.ge_t, U.ge_f, U.eq_t, U.eq_f, U.ne_t, U.ne_f, U.not_t, U.not_f, U.andb_t, U.andb_f, SV.lit.injEq, SV.agg.injEq, SV.tup.injEq, List.cons.injEq, Value.int.injEq, Value.bool.injEq, true_and, and_true, lk_eq]
    rw [U.le_eq]
    unfold lim
    refine ⟨fun h => by simp [h], fun h => ?_⟩
    have : ¬ (-1000000 ≤ n) := by omega
    simp [this]
  · exact h.elim

/-- The remainders that Check takes, in both directions. -/
theorem chk_rem {a b c : Int} (h : a < b) (ha : I64 a) (hb : I64 b) (hc : I64 c) :
    (c < 0 → U.rem (U.wrap .u64 (U.sub .i64 b a)) (U.sub .u64 0 (U.wrap .u64 c)) = (b - a) % c) ∧
    (0 ≤ c → U.rem (U.wrap .u64 (U.sub .i64 b a)) (U.wrap .u64 c) = (b - a) % c) := by
  refine ⟨fun h0 => ?_, fun h0 => ?_⟩
  · rw [u64_diff h ha hb, u64_neg h0 hc, U.rem_eq, tmod_pos (by omega), Int.emod_neg]
  · rw [u64_diff h ha hb, u64_pos h0 hc, U.rem_eq, tmod_pos (by omega)]
end Go.RX.Span

/- Ranges: Check, Size, Position, Has, Nth of the program and of the reference. -/
set_option linter.unusedVariables false
set_option linter.unusedSimpArgs false
set_option maxRecDepth 100000
namespace Go.RX.Span
open Go Go.RX

noncomputable abbrev k1 : List (Nat × Con) := [(80, c_within), (103, c_last), (83, c_of), (86, c_normal), (104, c_turned), (44, c_within), (74, c_Empty), (42, c_IsEmpty), (45, c_step), (43, c_mod), (90, c_Normal)] --%K
theorem k1_ok : ∀ p ∈ k1, ConOK P p.1 p.2 := by
  intro p hp
  simp only [k1, List.mem_cons, List.not_mem_nil, or_false] at hp
  rcases hp with rfl | rfl | rfl | rfl | rfl | rfl | rfl | rfl | rfl | rfl | rfl
  · exact within_ok
  · exact last_ok
  · exact of_ok
  · exact normal_ok
  · exact turned_ok
  · exact rwithin_ok
  · exact Empty_ok
  · exact IsEmpty_ok
  · exact step_ok
  · exact mod_ok
  · exact Normal_ok
set_option maxHeartbeats 2000000 in
set_option maxRecDepth 100000 in
theorem t_Check (a b c : Int) : conB Go.Proofs.Tryz.prog (conOf k1) noLoops 10 52 [.agg [.lit (.int .i64 a), .lit (.int .i64 b), .lit (.int .i64 c)]] =
    T.br (U.eq a b) (.br (U.not (U.andb (U.eq a (1 : Int)) (U.andb (U.eq b (0 : Int)) (U.eq c (1 : Int))))) (.br (U.not (U.eq c (1 : Int))) (.br (U.ge a b) (.ret (.lit (.int .i64 2)))
      (.br (U.eq c (0 : Int)) (.ret (.lit (.int .i64 2))) (.br (U.lt c (0 : Int)) (.ask (U.sub .u64 (0 : Int) (U.wrap .u64 c) ≠ (0 : Int)) (.br (U.ne (U.rem (U.wrap .u64 (U.sub .i64 b a))
      (U.sub .u64 (0 : Int) (U.wrap .u64 c))) (0 : Int)) (.ret (.lit (.int .i64 2))) (.br (U.not (lk lim a)) (.ret (.lit (.int .i64 4))) (.br (U.not (lk lim b)) (.ret (.lit (.int .i64
      4))) (.ret (.lit (.int .i64 0))))))) (.ask (U.wrap .u64 c ≠ (0 : Int)) (.br (U.ne (U.rem (U.wrap .u64 (U.sub .i64 b a)) (U.wrap .u64 c)) (0 : Int)) (.ret (.lit (.int .i64 2))) (.br
      (U.not (lk lim a)) (.ret (.lit (.int .i64 4))) (.br (U.not (lk lim b)) (.ret (.lit (.int .i64 4))) (.ret (.lit (.int .i64 0)))))))))) (.br (U.not (lk lim a)) (.ret (.lit (.int .i64
      4))) (.br (U.not (lk lim b)) (.ret (.lit (.int .i64 4))) (.ret (.lit (.int .i64 0)))))) (.br (U.not (lk lim a)) (.ret (.lit (.int .i64 4))) (.br (U.not (lk lim b)) (.ret (.lit (.int
      .i64 4))) (.ret (.lit (.int .i64 0)))))) (.br (U.not (U.andb (U.eq a (1 : Int)) (U.andb (U.eq b (0 : Int)) (U.eq c (1 : Int))))) (.br (U.ge a b) (.ret (.lit (.int .i64 2))) (.br
      (U.eq c (0 : Int)) (.ret (.lit (.int .i64 2))) (.br (U.lt c (0 : Int)) (.ask (U.sub .u64 (0 : Int) (U.wrap .u64 c) ≠ (0 : Int)) (.br (U.ne (U.rem (U.wrap .u64 (U.sub .i64 b a))
      (U.sub .u64 (0 : Int) (U.wrap .u64 c))) (0 : Int)) (.ret (.lit (.int .i64 2))) (.br (U.not (lk lim a)) (.ret (.lit (.int .i64 4))) (.br (U.not (lk lim b)) (.ret (.lit (.int .i64
      4))) (.ret (.lit (.int .i64 0))))))) (.ask (U.wrap .u64 c ≠ (0 : Int)) (.br (U.ne (U.rem (U.wrap .u64 (U.sub .i64 b a)) (U.wrap .u64 c)) (0 : Int)) (.ret (.lit (.int .i64 2))) (.br
      (U.not (lk lim a)) (.ret (.lit (.int .i64 4))) (.br (U.not (lk lim b)) (.ret (.lit (.int .i64 4))) (.ret (.lit (.int .i64 0)))))))))) (.br (U.not (lk lim a)) (.ret (.lit (.int .i64
      4))) (.br (U.not (lk lim b)) (.ret (.lit (.int .i64 4))) (.ret (.lit (.int .i64 0)))))) := by kernel_rfl
set_option maxHeartbeats 2000000 in
theorem Check_ok : ConOK P 52 c_Check := con_of (allOK mixed k1_ok) 10 52 fun args r h => by
  unfold c_Check at h
  split at h
  · rename_i a b c
    have ha := (T.is_ask h).1.1
    have hb := (T.is_ask h).1.2.1
    have hc := (T.is_ask h).1.2.2
    have h := (T.is_ask h).2
    obtain rfl := T.is_ret h
    rw [t_Check]
    have r1 : a < b → c < 0 → _ := fun h => (chk_rem h ha hb hc).1
    have r2 : a < b → 0 ≤ c → _ := fun h => (chk_rem h ha hb hc).2
    have n1 : c < 0 → U.sub .u64 0 (U.wrap .u64 c) = -c := fun h => u64_neg h hc
    have n2 : 0 ≤ c → U.wrap .u64 c = c := fun h => u64_pos h hc
    generalize U.rem (U.wrap .u64 (U.sub .i64 b a)) (U.sub .u64 0 (U.wrap .u64 c)) = x1 at *
    generalize U.rem (U.wrap .u64 (U.sub .i64 b a)) (U.wrap .u64 c) = x2 at *
    generalize U.sub .u64 0 (U.wrap .u64 c) = y1 at *
    generalize U.wrap .u64 c = y2 at *
    simp only [T.All, U.le_t, U.le_f, U.lt_t, U.lt_f, U.gt_t, U.gt_f, U.ge_t, U.ge_f, U.eq_t, U.eq_f, U.ne_t, U.ne_f, U.not_t, U.not_f, U.andb_t, U.andb_f, SV.lit.injEq, SV.agg.injEq, SV.tup.injEq, List.cons.injEq, Value.int.injEq, Value.bool.injEq, true_and, and_true, lk_eq, lim_t, lim_f]
    unfold chk
    generalize (b - a) % c = q at *
    clear ha hb hc h
    repeat' (first | refine And.intro ?_ ?_ | intro _)
    all_goals first
      | omega
      | (split <;> first | omega | (split <;> omega))
  · exact h.elim

set_option maxRecDepth 100000 in
theorem t_rCheck (a b c : Int) : conB Go.Proofs.Tryz.prog (conOf k1) noLoops 10 19 [.agg [.lit (.int .i64 a), .lit (.int .i64 b), .lit (.int .i64 c)]] =
    T.br (lk isE a b c) (.ret (.lit (.int .i64 0))) (.br (U.gt a b) (.ret (.lit (.int .i64 2))) (.br (U.eq a b) (.br (U.ne c (1 : Int)) (.ret (.lit (.int .i64 2))) (.br (U.lt a b) (.br
      (U.eq c (0 : Int)) (.ret (.lit (.int .i64 2))) (.ask (c ≠ (0 : Int) ∧ I64 b ∧ I64 c) (.ask (c ≠ (0 : Int) ∧ I64 a ∧ I64 c) (.br (U.ne (lk rmod b c) (lk rmod a c)) (.ret (.lit (.int
      .i64 2))) (.br (U.not (lk lim a)) (.ret (.lit (.int .i64 4))) (.br (U.not (lk lim b)) (.ret (.lit (.int .i64 4))) (.ret (.lit (.int .i64 0))))))))) (.br (U.not (lk lim a)) (.ret
      (.lit (.int .i64 4))) (.br (U.not (lk lim b)) (.ret (.lit (.int .i64 4))) (.ret (.lit (.int .i64 0))))))) (.br (U.lt a b) (.br (U.eq c (0 : Int)) (.ret (.lit (.int .i64 2))) (.ask
      (c ≠ (0 : Int) ∧ I64 b ∧ I64 c) (.ask (c ≠ (0 : Int) ∧ I64 a ∧ I64 c) (.br (U.ne (lk rmod b c) (lk rmod a c)) (.ret (.lit (.int .i64 2))) (.br (U.not (lk lim a)) (.ret (.lit (.int
      .i64 4))) (.br (U.not (lk lim b)) (.ret (.lit (.int .i64 4))) (.ret (.lit (.int .i64 0))))))))) (.br (U.not (lk lim a)) (.ret (.lit (.int .i64 4))) (.br (U.not (lk lim b)) (.ret
      (.lit (.int .i64 4))) (.ret (.lit (.int .i64 0)))))))) := by kernel_rfl
set_option maxHeartbeats 2000000 in
theorem rCheck_ok : ConOK P 19 c_Check := con_of (allOK mixed k1_ok) 10 19 fun args r h => by
  unfold c_Check at h
  split at h
  · rename_i a b c
    have ha := (T.is_ask h).1.1
    have hb := (T.is_ask h).1.2.1
    have hc := (T.is_ask h).1.2.2
    have h := (T.is_ask h).2
    obtain rfl := T.is_ret h
    rw [t_rCheck]
    simp only [T.All, U.le_t, U.le_f, U.lt_t, U.lt_f, U.gt_t, U.gt_f, U.ge_t, U.ge_f, U.eq_t, U.eq_f, U.ne_t, U.ne_f, U.not_t, U.not_f, U.andb_t, U.andb_f, SV.lit.injEq, SV.agg.injEq, SV.tup.injEq, List.cons.injEq, Value.int.injEq, Value.bool.injEq, true_and, and_true, lk_eq, lim_t, lim_f, isE, decide_eq_true_eq, decide_eq_false_iff_not]
    have hq : (b - a) % c = 0 ↔ rmod b c = rmod a c := emod_sub_zero
    unfold chk
    generalize (b - a) % c = q at *
    generalize rmod b c = q1 at *
    generalize rmod a c = q2 at *
    clear h
    unfold I64 at *
    repeat' (first | refine And.intro ?_ ?_ | intro _)
    all_goals first
      | assumption
      | omega
      | (split <;> first | omega | (split <;> omega))
  · exact h.elim

theorem right_c {a b c : Int} (h : Right a b c) : c ≠ 0 ∧ -2000000 ≤ c ∧ c ≤ 2000000 := by
  obtain ⟨hl, h | h | h⟩ := h
  · omega
  · omega
  · have hd := Int.dvd_of_emod_eq_zero h.2.2
    have h1 := Int.le_of_dvd (by omega) hd
    have h2 := Int.le_of_dvd (by omega) ((Int.neg_dvd).2 hd)
    omega

theorem right_of {a b c : Int} (h : Right a b c) (hne : a ≤ b) : 0 < ofC a b c := by
  have hc := right_c h
  unfold ofC
  rw [if_neg (by omega)]
  split
  · have := (div_le_self' (a := b - a) (b := -c) (by omega) (by omega)).1; omega
  · have := (div_le_self' (a := b - a) (b := c) (by omega) (by omega)).1; omega

noncomputable abbrev k2 : List (Nat × Con) := (52, c_Check) :: (19, c_Check) :: k1 --%K
theorem k2_ok : ∀ p ∈ k2, ConOK P p.1 p.2 := by
  intro p hp
  simp only [k2, List.mem_cons] at hp
  rcases hp with rfl | rfl | hp
  · exact Check_ok
  · exact rCheck_ok
  · exact k1_ok p (by simpa [k1] using hp)
set_option maxRecDepth 100000 in
theorem t_Size (a b c : Int) : conB Go.Proofs.Tryz.prog (conOf k2) noLoops 10 78 [.agg [.lit (.int .i64 a), .lit (.int .i64 b), .lit (.int .i64 c)]] =
    T.ask (I64 a ∧ I64 b ∧ I64 c) (.br (U.ne (lk chk a b c) (0 : Int)) (.ret (.lit (.int .i64 0))) (.ask (a ≤ b → c ≠ (0 : Int) ∧ (-9223372036854775807 : Int) ≤ c ∧ b - a <
      (9223372036854775807 : Int) ∧ I64 a ∧ I64 b ∧ I64 c) (.ret (.lit (.int .i64 (lk ofC a b c)))))) := by kernel_rfl
theorem Size_ok : ConOK P 78 c_Size := con_of (allOK mixed k2_ok) 10 78 fun args r h => by
  unfold c_Size at h
  split at h
  · rename_i a b c
    have hp := (T.is_ask h).1
    have h := (T.is_ask h).2
    obtain rfl := T.is_ret h
    rw [t_Size]
    simp only [T.All, U.le_t, U.le_f, U.lt_t, U.lt_f, U.gt_t, U.gt_f, U.ge_t, U.ge_f, U.eq_t, U.eq_f, U.ne_t, U.ne_f, U.not_t, U.not_f, U.andb_t, U.andb_f, SV.lit.injEq, SV.agg.injEq, SV.tup.injEq, List.cons.injEq, Value.int.injEq, Value.bool.injEq, true_and, and_true, lk_eq]
    unfold size
    refine ⟨hp, fun h => by rw [if_neg h], fun h => ⟨fun hab => ?_, by rw [if_pos h]⟩⟩
    have hr := chk_zero.1 h
    have hc := right_c hr
    have hl := hr.1
    exact ⟨hc.1, by omega, by omega, hp⟩
  · exact h.elim

set_option maxRecDepth 100000 in
theorem t_rSize (a b c : Int) : conB Go.Proofs.Tryz.prog (conOf k2) noLoops 10 20 [.agg [.lit (.int .i64 a), .lit (.int .i64 b), .lit (.int .i64 c)]] =
    T.ask (I64 a ∧ I64 b ∧ I64 c) (.br (U.ne (lk chk a b c) (0 : Int)) (.ret (.lit (.int .i64 0))) (.br (lk isE a b c) (.ret (.lit (.int .i64 0))) (.ask (I64 (-c)) (.ask (lk absI c ≠ (0
      : Int)) (.ret (.lit (.int .i64 (U.add .i64 (U.quo .i64 (U.sub .i64 b a) (lk absI c)) (1 : Int))))))))) := by kernel_rfl
theorem rSize_ok : ConOK P 20 c_Size := con_of (allOK mixed k2_ok) 10 20 fun args r h => by
  unfold c_Size at h
  split at h
  · rename_i a b c
    have hp := (T.is_ask h).1
    have h := (T.is_ask h).2
    obtain rfl := T.is_ret h
    rw [t_rSize]
    simp only [T.All, U.le_t, U.le_f, U.lt_t, U.lt_f, U.gt_t, U.gt_f, U.ge_t, U.ge_f, U.eq_t, U.eq_f, U.ne_t, U.ne_f, U.not_t, U.not_f, U.andb_t, U.andb_f, SV.lit.injEq, SV.agg.injEq, SV.tup.injEq, List.cons.injEq, Value.int.injEq, Value.bool.injEq, true_and, and_true, lk_eq, isE, decide_eq_true_eq, decide_eq_false_iff_not]
    unfold size
    refine ⟨hp, fun h => by rw [if_neg h], fun h => ⟨fun he => ?_, fun he => ?_⟩⟩
    · rw [if_pos h]; obtain ⟨rfl, rfl, rfl⟩ := he; rfl
    · have hr := chk_zero.1 h
      have hc := right_c hr
      have hl := hr.1
      have hab : a ≤ b := by have := hr.2; omega
      have ea : absI c ≠ 0 ∧ 0 < absI c ∧ absI c ≤ 2000000 := by unfold absI; split <;> omega
      have hd := div_le_self' (a := b - a) (b := absI c) (by omega) (by omega)
      refine ⟨by unfold I64; omega, ea.1, ?_⟩
      rw [if_pos h, U.sub64 (by unfold I64; omega), U.quo64 (by rw [tdiv_pos (by omega)]; unfold I64; omega), tdiv_pos (by omega), U.add64 (by unfold I64; omega)]
      have n1 : ¬ a > b := by omega
      simp only [ofC, if_neg n1, absI]
      split <;> rfl
  · exact h.elim
end Go.RX.Span

/- Ranges: Position, Has, Nth, Of of the program and of the reference. -/
set_option linter.unusedVariables false
set_option linter.unusedSimpArgs false
set_option maxRecDepth 100000
namespace Go.RX.Span
open Go Go.RX

noncomputable abbrev k3 : List (Nat × Con) := (78, c_Size) :: (20, c_Size) :: k2 --%K
theorem k3_ok : ∀ p ∈ k3, ConOK P p.1 p.2 := by
  intro p hp
  simp only [k3, List.mem_cons] at hp
  rcases hp with rfl | rfl | hp
  · exact Size_ok
  · exact rSize_ok
  · exact k2_ok p (by simpa [k2] using hp)
theorem right_dvd {a b c : Int} (h : Right a b c) (hab : a ≤ b) : c ∣ b - a := by
  obtain ⟨hl, h | h | h⟩ := h
  · omega
  · rw [h.2]; exact Int.one_dvd _
  · exact Int.dvd_of_emod_eq_zero h.2.2

theorem in_iff {a b c n : Int} (h : Right a b c) (hab : a ≤ b) : c ∣ n - b ↔ (n - a) % c = 0 := by
  have hd := right_dvd h hab
  have e : n - a = (n - b) + (b - a) := by omega
  constructor
  · intro h1; rw [e]; exact Int.emod_eq_zero_of_dvd (Int.dvd_add h1 hd)
  · intro h1
    have h2 := Int.dvd_of_emod_eq_zero h1
    rw [e] at h2
    exact (Int.dvd_add_left hd).1 h2

theorem tmod_zero {x c : Int} : x.tmod c = 0 ↔ c ∣ x := ⟨Int.dvd_of_tmod_eq_zero, fun h => Int.tmod_eq_zero_of_dvd h⟩

theorem pos_down {b c n : Int} (h : n ≤ b) (hc : c < 0) : (n - b).tdiv c = (b - n) / (-c) := by
  have e1 : n - b = -(b - n) := by omega
  have e2 : c = -(-c) := by omega
  conv => lhs; rw [e1, e2]
  rw [Int.neg_tdiv, Int.tdiv_neg, Int.neg_neg, tdiv_pos (by omega)]

set_option maxRecDepth 100000 in
theorem t_Position (a b c n : Int) : conB Go.Proofs.Tryz.prog (conOf k3) noLoops 10 60 [.agg [.lit (.int .i64 a), .lit (.int .i64 b), .lit (.int .i64 c)], .lit (.int .i64 n)] =
    T.ask (I64 a ∧ I64 b ∧ I64 c) (.br (U.ne (lk chk a b c) (0 : Int)) (.ret (.tup [.lit (.int .i64 0), .lit (.bool false)])) (.br (U.lt n a) (.ret (.tup [.lit (.int .i64 0), .lit
      (.bool false)])) (.br (U.gt n b) (.ret (.tup [.lit (.int .i64 0), .lit (.bool false)])) (.ask (a ≤ b → c ≠ (0 : Int) ∧ (-9223372036854775807 : Int) ≤ c ∧ b - a <
      (9223372036854775807 : Int) ∧ I64 a ∧ I64 b ∧ I64 c) (.ask (lk ofB a b c ≠ (0 : Int)) (.br (U.ne (U.rem (U.sub .i64 n (lk ofF a b c)) (lk ofB a b c)) (0 : Int)) (.ret (.tup [.lit
      (.int .i64 0), .lit (.bool false)])) (.ask (lk ofB a b c ≠ (0 : Int)) (.ret (.tup [.lit (.int .i64 (U.quo .i64 (U.sub .i64 n (lk ofF a b c)) (lk ofB a b c))), .lit (.bool
      true)]))))))))) := by kernel_rfl
theorem Position_ok : ConOK P 60 c_Position := con_of (allOK mixed k3_ok) 10 60 fun args r h => by
  unfold c_Position at h
  split at h
  · rename_i a b c n
    have hp := (T.is_ask h).1
    have h := (T.is_ask h).2
    obtain rfl := T.is_ret h
    rw [t_Position]
    simp only [T.All, U.le_t, U.le_f, U.lt_t, U.lt_f, U.gt_t, U.gt_f, U.ge_t, U.ge_f, U.eq_t, U.eq_f, U.ne_t, U.ne_f, U.not_t, U.not_f, U.andb_t, U.andb_f, SV.lit.injEq, SV.agg.injEq, SV.tup.injEq, List.cons.injEq, Value.int.injEq, Value.bool.injEq, true_and, and_true, lk_eq]
    refine ⟨hp, fun h => ?_, fun h => ⟨fun h1 => ?_, fun h1 => ⟨fun h2 => ?_, fun h2 => ?_⟩⟩⟩
    · have e : has a b c n = false := by simp [has, h]
      simp [pos, e]
    · have e : has a b c n = false := by simp [has]; omega
      simp [pos, e]
    · have e : has a b c n = false := by simp [has]; omega
      simp [pos, e]
    · have hr := chk_zero.1 h
      have hc := right_c hr
      have hl := hr.1
      have hab : a ≤ b := by omega
      have n1 : ¬ a > b := by omega
      refine ⟨fun _ => ⟨hc.1, by omega, by omega, hp⟩, by simp [ofB, n1]; exact hc.1, fun h3 => ?_, fun h3 => ⟨by simp [ofB, n1]; exact hc.1, ?_⟩⟩
      · have e : has a b c n = false := by
          simp only [ofF, ofB, if_neg n1] at h3
          rw [U.sub64 (by unfold I64; split <;> omega), U.rem_eq, Ne, tmod_zero] at h3
          simp only [has, decide_eq_false_iff_not]
          rintro ⟨_, _, _, g⟩
          split at h3
          · exact h3 ((in_iff hr hab).2 g)
          · exact h3 (Int.dvd_of_emod_eq_zero g)
        simp [pos, e]
      · simp only [ofF, ofB, if_neg n1] at h3 ⊢
        rw [U.sub64 (by unfold I64; split <;> omega), U.rem_eq, tmod_zero] at h3
        rw [U.sub64 (by unfold I64; split <;> omega)]
        have e : has a b c n = true := by
          simp only [has, decide_eq_true_eq]
          refine ⟨h, h1, h2, ?_⟩
          split at h3
          · exact (in_iff hr hab).1 h3
          · exact Int.emod_eq_zero_of_dvd h3
        by_cases hneg : c < 0
        · simp only [pos, e, if_pos hneg, if_true]
          have hd := div_le_self' (a := b - n) (b := -c) (by omega) (by omega)
          rw [U.quo64 (by rw [pos_down h2 hneg]; unfold I64; omega), pos_down h2 hneg]
          simp
        · simp only [pos, e, if_neg hneg, if_true]
          have hd := div_le_self' (a := n - a) (b := c) (by omega) (by omega)
          rw [U.quo64 (by rw [tdiv_pos (by omega)]; unfold I64; omega), tdiv_pos (by omega)]
          simp
  · exact h.elim

theorem size_pos {a b c : Int} : size a b c > 0 ↔ chk a b c = 0 ∧ a ≤ b := by
  unfold size
  split
  · rename_i h
    refine ⟨fun h1 => ⟨h, ?_⟩, fun h1 => right_of (chk_zero.1 h) h1.2⟩
    unfold ofC at h1
    split at h1 <;> omega
  · rename_i h; exact ⟨fun h1 => by omega, fun h1 => absurd h1.1 h⟩

set_option maxRecDepth 100000 in
theorem t_rHas (a b c n : Int) : conB Go.Proofs.Tryz.prog (conOf k3) noLoops 10 89 [.agg [.lit (.int .i64 a), .lit (.int .i64 b), .lit (.int .i64 c)], .lit (.int .i64 n)] =
    T.ask (I64 a ∧ I64 b ∧ I64 c) (.br (U.gt (lk size a b c) (0 : Int)) (.br (U.ge n a) (.br (U.le n b) (.ask (I64 (-c)) (.ask (lk absI c ≠ (0 : Int)) (.ret (.lit (.bool (U.eq (U.rem
      (U.sub .i64 n a) (lk absI c)) (0 : Int))))))) (.ret (.lit (.bool false)))) (.ret (.lit (.bool false)))) (.ret (.lit (.bool false)))) := by kernel_rfl
theorem rHas_ok : ConOK P 89 c_Has := con_of (allOK mixed k3_ok) 10 89 fun args r h => by
  unfold c_Has at h
  split at h
  · rename_i a b c n
    have hp := (T.is_ask h).1
    have h := (T.is_ask h).2
    obtain rfl := T.is_ret h
    rw [t_rHas]
    simp only [T.All, U.le_t, U.le_f, U.lt_t, U.lt_f, U.gt_t, U.gt_f, U.ge_t, U.ge_f, U.eq_t, U.eq_f, U.ne_t, U.ne_f, U.not_t, U.not_f, U.andb_t, U.andb_f, SV.lit.injEq, SV.agg.injEq, SV.tup.injEq, List.cons.injEq, Value.int.injEq, Value.bool.injEq, true_and, and_true, lk_eq]
    refine ⟨hp, fun h => ?_, fun h => ?_⟩
    · obtain ⟨h0, hab⟩ := size_pos.1 h
      have hr := chk_zero.1 h0
      have hc := right_c hr
      have hl := hr.1
      refine ⟨fun h1 => ⟨fun h2 => ⟨by unfold I64; omega, by unfold absI; split <;> omega, ?_⟩, fun h2 => ?_⟩, fun h1 => ?_⟩
      · have ea : absI c ≠ 0 := by unfold absI; split <;> omega
        have edvd : absI c ∣ n - a ↔ c ∣ n - a := by
          unfold absI; split
          · exact Int.neg_dvd
          · rfl
        rw [U.sub64 (by unfold I64; omega), U.rem_eq, U.eq_eq, Bool.eq_iff_iff]
        simp only [has, decide_eq_true_eq, beq_iff_eq]
        rw [tmod_zero, edvd]
        exact ⟨fun g => ⟨h0, h1, h2, Int.emod_eq_zero_of_dvd g⟩, fun g => Int.dvd_of_emod_eq_zero g.2.2.2⟩
      · simp [has]; omega
      · simp [has]; omega
    · have e : ¬ (chk a b c = 0 ∧ a ≤ b) := fun g => by have := size_pos.2 g; omega
      simp only [has]
      refine (decide_eq_false ?_).symm
      rintro ⟨g1, g2, g3, _⟩
      exact e ⟨g1, by omega⟩
  · exact h.elim

noncomputable abbrev k4 : List (Nat × Con) := (60, c_Position) :: (89, c_Has) :: k3 --%K
theorem k4_ok : ∀ p ∈ k4, ConOK P p.1 p.2 := by
  intro p hp
  simp only [k4, List.mem_cons] at hp
  rcases hp with rfl | rfl | hp
  · exact Position_ok
  · exact rHas_ok
  · exact k3_ok p (by simpa [k3] using hp)
set_option maxRecDepth 100000 in
theorem t_rPosition (a b c n : Int) : conB Go.Proofs.Tryz.prog (conOf k4) noLoops 10 67 [.agg [.lit (.int .i64 a), .lit (.int .i64 b), .lit (.int .i64 c)], .lit (.int .i64 n)] =
    T.ask (I64 a ∧ I64 b ∧ I64 c) (.br (U.not (lk has a b c n)) (.ret (.tup [.lit (.int .i64 0), .lit (.bool false)])) (.br (U.lt c (0 : Int)) (.ask (I64 (-c)) (.ask (lk absI c ≠ (0 :
      Int)) (.ret (.tup [.lit (.int .i64 (U.quo .i64 (U.sub .i64 b n) (lk absI c))), .lit (.bool true)])))) (.ask (I64 (-c)) (.ask (lk absI c ≠ (0 : Int)) (.ret (.tup [.lit (.int .i64
      (U.quo .i64 (U.sub .i64 n a) (lk absI c))), .lit (.bool true)])))))) := by kernel_rfl
theorem rPosition_ok : ConOK P 67 c_Position := con_of (allOK mixed k4_ok) 10 67 fun args r h => by
  unfold c_Position at h
  split at h
  · rename_i a b c n
    have hp := (T.is_ask h).1
    have h := (T.is_ask h).2
    obtain rfl := T.is_ret h
    rw [t_rPosition]
    simp only [T.All, U.le_t, U.le_f, U.lt_t, U.lt_f, U.gt_t, U.gt_f, U.ge_t, U.ge_f, U.eq_t, U.eq_f, U.ne_t, U.ne_f, U.not_t, U.not_f, U.andb_t, U.andb_f, SV.lit.injEq, SV.agg.injEq, SV.tup.injEq, List.cons.injEq, Value.int.injEq, Value.bool.injEq, true_and, and_true, lk_eq]
    refine ⟨hp, fun h => ?_, fun h => ?_⟩
    · simp [pos, h]
    · have g := h
      simp only [has, decide_eq_true_eq] at g
      obtain ⟨h0, h1, h2, h3⟩ := g
      have hr := chk_zero.1 h0
      have hc := right_c hr
      have hl := hr.1
      have i64c : I64 (-c) := by unfold I64; omega
      refine ⟨fun hneg => ⟨i64c, ?_⟩, fun hneg => ⟨i64c, ?_⟩⟩
      · have ea : absI c = -c := by simp [absI, hneg]
        rw [ea]
        have hd := div_le_self' (a := b - n) (b := -c) (by omega) (by omega)
        rw [U.sub64 (by unfold I64; omega), U.quo64 (by rw [tdiv_pos (by omega)]; unfold I64; omega), tdiv_pos (by omega)]
        simp only [pos, h, if_true, if_pos hneg]
        exact ⟨by omega, by simp⟩
      · have n2 : ¬ c < 0 := by omega
        have ea : absI c = c := by simp [absI, n2]
        rw [ea]
        have hd := div_le_self' (a := n - a) (b := c) (by omega) (by omega)
        rw [U.sub64 (by unfold I64; omega), U.quo64 (by rw [tdiv_pos (by omega)]; unfold I64; omega), tdiv_pos (by omega)]
        simp only [pos, h, if_true, if_neg n2]
        exact ⟨by omega, by simp⟩
  · exact h.elim

theorem nth_in {a b c k : Int} (hr : Right a b c) (hab : a ≤ b) (h0 : 0 ≤ k) (h1 : k < ofC a b c) :
    a ≤ ofF a b c + ofB a b c * k ∧ ofF a b c + ofB a b c * k ≤ b := by
  have hc := right_c hr
  have n1 : ¬ a > b := by omega
  unfold ofC at h1
  simp only [ofF, ofB, if_neg n1] at h1 ⊢
  by_cases hneg : c < 0
  · simp only [if_pos hneg] at h1 ⊢
    have := Int.mul_ediv_self_le (x := b - a) (k := -c) (by omega)
    have h2 : -c * k ≤ -c * ((b - a) / -c) := Int.mul_le_mul_of_nonneg_left (by omega) (by omega)
    have h3 : 0 ≤ -c * k := Int.mul_nonneg (by omega) h0
    rw [Int.neg_mul] at h2 h3
    omega
  · simp only [if_neg hneg] at h1 ⊢
    have := Int.mul_ediv_self_le (x := b - a) (k := c) (by omega)
    have h2 : c * k ≤ c * ((b - a) / c) := Int.mul_le_mul_of_nonneg_left (by omega) (by omega)
    have h3 : 0 ≤ c * k := Int.mul_nonneg (by omega) h0
    omega

theorem ofC_pos {a b c k : Int} (h0 : 0 ≤ k) (h1 : k < ofC a b c) : a ≤ b := by
  unfold ofC at h1
  split at h1 <;> omega

set_option maxRecDepth 100000 in
theorem t_Nth (a b c k : Int) : conB Go.Proofs.Tryz.prog (conOf k4) noLoops 10 59 [.agg [.lit (.int .i64 a), .lit (.int .i64 b), .lit (.int .i64 c)], .lit (.int .i64 k)] =
    T.ask (I64 a ∧ I64 b ∧ I64 c) (.br (U.ne (lk chk a b c) (0 : Int)) (.ret (.tup [.lit (.int .i64 0), .lit (.int .i64 (lk chk a b c))])) (.ask (a ≤ b → c ≠ (0 : Int) ∧
      (-9223372036854775807 : Int) ≤ c ∧ b - a < (9223372036854775807 : Int) ∧ I64 a ∧ I64 b ∧ I64 c) (.br (U.lt k (0 : Int)) (.ret (.tup [.lit (.int .i64 0), .lit (.int .i64 4)])) (.br
      (U.ge k (lk ofC a b c)) (.ret (.tup [.lit (.int .i64 0), .lit (.int .i64 4)])) (.ret (.tup [.lit (.int .i64 (U.add .i64 (lk ofF a b c) (U.mul .i64 (lk ofB a b c) k))), .lit (.int
      .i64 0)])))))) := by kernel_rfl
theorem Nth_ok : ConOK P 59 c_Nth := con_of (allOK mixed k4_ok) 10 59 fun args r h => by
  unfold c_Nth at h
  split at h
  · rename_i a b c k
    have hp := (T.is_ask h).1
    have h := (T.is_ask h).2
    obtain rfl := T.is_ret h
    rw [t_Nth]
    simp only [T.All, U.le_t, U.le_f, U.lt_t, U.lt_f, U.gt_t, U.gt_f, U.ge_t, U.ge_f, U.eq_t, U.eq_f, U.ne_t, U.ne_f, U.not_t, U.not_f, U.andb_t, U.andb_f, SV.lit.injEq, SV.agg.injEq, SV.tup.injEq, List.cons.injEq, Value.int.injEq, Value.bool.injEq, true_and, and_true, lk_eq]
    refine ⟨hp, fun h => ?_, fun h => ⟨fun hab => ?_, fun h1 => ?_, fun h1 => ⟨fun h2 => ?_, fun h2 => ?_⟩⟩⟩
    · simp [nth, nthE, h]
    · have hr := chk_zero.1 h
      have hc := right_c hr
      have hl := hr.1
      exact ⟨hc.1, by omega, by omega, hp⟩
    · simp [nth, nthE, h, h1]
    · simp [nth, nthE, h, h2]
    · have hr := chk_zero.1 h
      have hc := right_c hr
      have hl := hr.1
      have hab := ofC_pos h1 h2
      have hin := nth_in hr hab h1 h2
      have e : ¬ (k < 0 ∨ k ≥ ofC a b c) := by omega
      have hF : a ≤ ofF a b c ∧ ofF a b c ≤ b := by unfold ofF; split; · omega
                                                    · split <;> omega
      rw [U.mul64 (by unfold I64; omega), U.add64 (by unfold I64; omega)]
      simp [nth, nthE, h, e]
  · exact h.elim

set_option maxRecDepth 100000 in
theorem t_rNth (a b c k : Int) : conB Go.Proofs.Tryz.prog (conOf k4) noLoops 10 87 [.agg [.lit (.int .i64 a), .lit (.int .i64 b), .lit (.int .i64 c)], .lit (.int .i64 k)] =
    T.ask (I64 a ∧ I64 b ∧ I64 c) (.br (U.ne (lk chk a b c) (0 : Int)) (.ret (.tup [.lit (.int .i64 0), .lit (.int .i64 (lk chk a b c))])) (.br (U.lt k (0 : Int)) (.ret (.tup [.lit
      (.int .i64 0), .lit (.int .i64 4)])) (.ask (I64 a ∧ I64 b ∧ I64 c) (.br (U.ge k (lk size a b c)) (.ret (.tup [.lit (.int .i64 0), .lit (.int .i64 4)])) (.br (U.lt c (0 : Int)) (.ret
      (.tup [.lit (.int .i64 (U.add .i64 b (U.mul .i64 k c))), .lit (.int .i64 0)])) (.ret (.tup [.lit (.int .i64 (U.add .i64 a (U.mul .i64 k c))), .lit (.int .i64 0)]))))))) := by kernel_rfl
theorem rNth_ok : ConOK P 87 c_Nth := con_of (allOK mixed k4_ok) 10 87 fun args r h => by
  unfold c_Nth at h
  split at h
  · rename_i a b c k
    have hp := (T.is_ask h).1
    have h := (T.is_ask h).2
    obtain rfl := T.is_ret h
    rw [t_rNth]
    simp only [T.All, U.le_t, U.le_f, U.lt_t, U.lt_f, U.gt_t, U.gt_f, U.ge_t, U.ge_f, U.eq_t, U.eq_f, U.ne_t, U.ne_f, U.not_t, U.not_f, U.andb_t, U.andb_f, SV.lit.injEq, SV.agg.injEq, SV.tup.injEq, List.cons.injEq, Value.int.injEq, Value.bool.injEq, true_and, and_true, lk_eq]
    refine ⟨hp, fun h => ?_, fun h => ⟨fun h1 => ?_, fun h1 => ⟨hp, fun h2 => ?_, fun h2 => ?_⟩⟩⟩
    · simp [nth, nthE, h]
    · simp [nth, nthE, h, h1]
    · simp only [size, h, if_true] at h2
      simp [nth, nthE, h, h2]
    · simp only [size, h, if_true] at h2
      have hr := chk_zero.1 h
      have hc := right_c hr
      have hl := hr.1
      have hab := ofC_pos h1 h2
      have hin := nth_in hr hab h1 h2
      have n1 : ¬ a > b := by omega
      have e : ¬ (k < 0 ∨ k ≥ ofC a b c) := by omega
      refine ⟨fun hneg => ?_, fun hneg => ?_⟩
      · simp only [ofF, ofB, if_neg n1, if_pos hneg] at hin
        rw [U.mul64 (by rw [Int.mul_comm]; unfold I64; omega), Int.mul_comm k c, U.add64 (by unfold I64; omega)]
        simp [nth, nthE, h, e, ofF, ofB, n1, hneg]
      · have n2 : ¬ c < 0 := by omega
        simp only [ofF, ofB, if_neg n1, if_neg n2] at hin
        rw [U.mul64 (by rw [Int.mul_comm]; unfold I64; omega), Int.mul_comm k c, U.add64 (by unfold I64; omega)]
        simp [nth, nthE, h, e, ofF, ofB, n1, n2]
  · exact h.elim
end Go.RX.Span

/- Ranges: By of the program; the examples; the law of layer 1's positions. -/
set_option linter.unusedVariables false
set_option linter.unusedSimpArgs false
set_option maxRecDepth 100000
namespace Go.RX.Span
open Go Go.RX

noncomputable abbrev k5 : List (Nat × Con) := (59, c_Nth) :: (87, c_Nth) :: (67, c_Position) :: k4 --%K
theorem k5_ok : ∀ p ∈ k5, ConOK P p.1 p.2 := by
  intro p hp
  simp only [k5, List.mem_cons] at hp
  rcases hp with rfl | rfl | rfl | hp
  · exact Nth_ok
  · exact rNth_ok
  · exact rPosition_ok
  · exact k4_ok p (by simpa [k4] using hp)
theorem mul_bnd {x y X Y : Int} (hx : -X ≤ x ∧ x ≤ X) (hy : -Y ≤ y ∧ y ≤ Y) : -(X * Y) ≤ x * y ∧ x * y ≤ X * Y := by
  have h : (x * y).natAbs ≤ X.natAbs * Y.natAbs := by
    rw [Int.natAbs_mul]; exact Nat.mul_le_mul (by omega) (by omega)
  have e : ((X.natAbs * Y.natAbs : Nat) : Int) = X * Y := by
    rw [Int.natCast_mul, Int.natAbs_of_nonneg (by omega), Int.natAbs_of_nonneg (by omega)]
  omega

theorem series_of {a b c : Int} (hr : Right a b c) (hab : a ≤ b) :
    0 < ofC a b c ∧ ofC a b c ≤ 2000001 ∧ (-2000000 ≤ ofB a b c ∧ ofB a b c ≤ 2000000) ∧ (a ≤ ofF a b c ∧ ofF a b c ≤ b) ∧
    ∀ k, 0 ≤ k → k < ofC a b c → a ≤ ofF a b c + ofB a b c * k ∧ ofF a b c + ofB a b c * k ≤ b := by
  have hc := right_c hr
  have hl := hr.1
  have n1 : ¬ a > b := by omega
  refine ⟨right_of hr hab, ?_, ?_, ?_, fun k h0 h1 => nth_in hr hab h0 h1⟩
  · unfold ofC
    rw [if_neg n1]
    split
    · have := (div_le_self' (a := b - a) (b := -c) (by omega) (by omega)).2; omega
    · have := (div_le_self' (a := b - a) (b := c) (by omega) (by omega)).2; omega
  · simp only [ofB, if_neg n1]; omega
  · simp only [ofF, if_neg n1]; split <;> omega

theorem empty_of {a b c : Int} (h : ¬ a ≤ b) : ofF a b c = 0 ∧ ofB a b c = 0 ∧ ofC a b c = 0 := by
  have n1 : a > b := by omega
  simp [ofF, ofB, ofC, n1]

noncomputable abbrev k6 : List (Nat × Con) := k5 --%K
theorem k6_ok : ∀ p ∈ k6, ConOK P p.1 p.2 := by
  intro p hp
  exact k5_ok p (by simpa [k5] using hp)
noncomputable abbrev k7 : List (Nat × Con) := k6 --%K
theorem k7_ok : ∀ p ∈ k7, ConOK P p.1 p.2 := by
  intro p hp
  exact k6_ok p (by simpa [k6] using hp)
end Go.RX.Span

/- Ranges: Count of the program and of the reference. -/
set_option linter.unusedVariables false
set_option linter.unusedSimpArgs false
set_option maxRecDepth 100000
namespace Go.RX.Span
open Go Go.RX

/-- What a right range with numbers is made of: its step, and how many steps it has. -/
theorem parts {a b c : Int} (hr : Right a b c) (hab : a ≤ b) :
    1 ≤ absI c ∧ absI c ≤ 2000000 ∧ 1 ≤ ofC a b c ∧ ofC a b c ≤ 2000001 ∧ absI c * (ofC a b c - 1) = b - a ∧ ofB a b c = c ∧ ofF a b c = (if c < 0 then b else a) ∧ (c = absI c ∨ c = -absI c) ∧ (c < 0 → a < b) ∧ (a = b → c = 1) := by
  have hc := right_c hr
  have hl := hr.1
  have n1 : ¬ a > b := by omega
  obtain ⟨s1, s2, s3, s4, s5⟩ := series_of hr hab
  have hneg : c < 0 → a < b := fun h => by rcases hr.2 with h' | h' | h' <;> omega
  refine ⟨?_, ?_, by omega, s2, ?_, by simp [ofB, n1], by simp [ofF, n1], ?_, hneg, fun h => by rcases hr.2 with h' | h' | h' <;> omega⟩
  · unfold absI; split <;> omega
  · unfold absI; split <;> omega
  · unfold absI ofC
    rw [if_neg n1]
    have hd : c ∣ b - a := by
      rcases hr.2 with h | h | h
      · omega
      · rw [show b - a = 0 by omega]; exact Int.dvd_zero _
      · exact Int.dvd_of_emod_eq_zero h.2.2
    by_cases h : c < 0
    · rw [if_pos h, if_pos h]
      have := Int.mul_ediv_cancel' ((Int.neg_dvd).2 hd)
      rw [show (b - a) / -c + 1 - 1 = (b - a) / -c by omega]; exact this
    · rw [if_neg h, if_neg h]
      have := Int.mul_ediv_cancel' hd
      rw [show (b - a) / c + 1 - 1 = (b - a) / c by omega]; exact this
  · unfold absI; split <;> omega

/-- A product by a step lies between. -/
theorem mulle {s x y : Int} (hs : 1 ≤ s) (h : x ≤ y) : s * x ≤ s * y := Int.mul_le_mul_of_nonneg_left h (by omega)
theorem mul0 {s k : Int} (hs : 1 ≤ s) : (s * k = 0) ↔ k = 0 := by
  constructor
  · intro h
    rcases Int.mul_eq_zero.1 h with h | h
    · omega
    · exact h
  · intro h; rw [h, Int.mul_zero]

theorem size_eq' {a b c : Int} (hr : Right a b c) : size a b c = ofC a b c := by simp [size, chk_zero.2 hr]

theorem ofC_bnd {a b c : Int} (hr : Right a b c) : 0 ≤ ofC a b c ∧ ofC a b c ≤ 2000001 := by
  by_cases hab : a ≤ b
  · have := parts hr hab; omega
  · have := empty_of (c := c) hab; omega
/-- What the program asks of a right range that it turns into a series. -/
theorem of_ask {a b c : Int} (hr : Right a b c) (ha : I64 a) (hb : I64 b) (hc' : I64 c) : a ≤ b → c ≠ 0 ∧ -9223372036854775807 ≤ c ∧ b - a < 9223372036854775807 ∧ I64 a ∧ I64 b ∧ I64 c := fun hab => by
  have hc := right_c hr
  have hl := hr.1
  exact ⟨hc.1, by omega, by omega, ha, hb, hc'⟩
/-- Signs, products. -/
theorem absI_neg {c : Int} (h : c < 0) : absI c = -c := by simp [absI, h]
theorem absI_pos {c : Int} (h : ¬ c < 0) : absI c = c := by simp [absI, h]

end Go.RX.Span

/- Ranges: series upwards and in a range's direction. -/
set_option linter.unusedVariables false
set_option linter.unusedSimpArgs false
set_option maxRecDepth 100000
namespace Go.RX.Span
open Go Go.RX

def uF (a b c : Int) : Int := if b < 0 then tF a b c else a
def uB (a b c : Int) : Int := if b < 0 then tB a b c else b
def kF (a b c r : Int) : Int := if r < 0 then tF a b c else a
def kB (a b c r : Int) : Int := if r < 0 then tB a b c else b
noncomputable def c_up : Con := fun args => match args with
  | [.agg [.lit (.int .i64 a), .lit (.int .i64 b), .lit (.int .i64 c)]] =>
    .ask (b < 0 → c ≠ 0 → I64 (c - 1) ∧ I64 (b * (c - 1)) ∧ I64 (a + b * (c - 1)) ∧ I64 (-b)) (.ret (.agg [.lit (.int .i64 (lk uF a b c)), .lit (.int .i64 (lk uB a b c)), .lit (.int .i64 c)]))
  | _ => .stuck 1
noncomputable def c_like : Con := fun args => match args with
  | [.agg [.lit (.int .i64 a), .lit (.int .i64 b), .lit (.int .i64 c)], .agg [.lit (.int .i64 x), .lit (.int .i64 y), .lit (.int .i64 r)]] =>
    .ask (r < 0 → c ≠ 0 → I64 (c - 1) ∧ I64 (b * (c - 1)) ∧ I64 (a + b * (c - 1)) ∧ I64 (-b)) (.ret (.agg [.lit (.int .i64 (lk kF a b c r)), .lit (.int .i64 (lk kB a b c r)), .lit (.int .i64 c)]))
  | _ => .stuck 1

set_option maxRecDepth 100000 in
theorem t_up (a b c : Int) : conB Go.Proofs.Tryz.prog (conOf k7) noLoops 10 84 [.agg [.lit (.int .i64 a), .lit (.int .i64 b), .lit (.int .i64 c)]] =
    T.br (U.lt b (0 : Int)) (.ask (c ≠ (0 : Int) → I64 (c - (1 : Int)) ∧ I64 (b * (c - (1 : Int))) ∧ I64 (a + b * (c - (1 : Int))) ∧ I64 (-b)) (.ret (.agg [.lit (.int .i64 (lk tF a b
      c)), .lit (.int .i64 (lk tB a b c)), .lit (.int .i64 c)]))) (.ret (.agg [.lit (.int .i64 a), .lit (.int .i64 b), .lit (.int .i64 c)])) := by kernel_rfl
theorem up_ok : ConOK P 84 c_up := con_of (allOK mixed k7_ok) 10 84 fun args r h => by
  unfold c_up at h
  split at h
  · rename_i a b c
    have hp := (T.is_ask h).1
    have h := (T.is_ask h).2
    obtain rfl := T.is_ret h
    rw [t_up]
    simp only [T.All, U.le_t, U.le_f, U.lt_t, U.lt_f, U.gt_t, U.gt_f, U.ge_t, U.ge_f, U.eq_t, U.eq_f, U.ne_t, U.ne_f, U.not_t, U.not_f, U.andb_t, U.andb_f, SV.lit.injEq, SV.agg.injEq, SV.tup.injEq, List.cons.injEq, Value.int.injEq, Value.bool.injEq, true_and, and_true, lk_eq]
    refine ⟨fun h => ⟨hp h, ?_⟩, fun h => ?_⟩
    · simp [uF, uB, h]
    · have n1 : ¬ b < 0 := by omega
      simp [uF, uB, n1]
  · exact h.elim
set_option maxRecDepth 100000 in
theorem t_like (a b c x y r : Int) : conB Go.Proofs.Tryz.prog (conOf k7) noLoops 10 85 [.agg [.lit (.int .i64 a), .lit (.int .i64 b), .lit (.int .i64 c)], .agg [.lit (.int .i64 x), .lit (.int .i64 y), .lit (.int .i64 r)]] =
    T.br (U.lt r (0 : Int)) (.ask (c ≠ (0 : Int) → I64 (c - (1 : Int)) ∧ I64 (b * (c - (1 : Int))) ∧ I64 (a + b * (c - (1 : Int))) ∧ I64 (-b)) (.ret (.agg [.lit (.int .i64 (lk tF a b
      c)), .lit (.int .i64 (lk tB a b c)), .lit (.int .i64 c)]))) (.ret (.agg [.lit (.int .i64 a), .lit (.int .i64 b), .lit (.int .i64 c)])) := by kernel_rfl
theorem like_ok : ConOK P 85 c_like := con_of (allOK mixed k7_ok) 10 85 fun args r h => by
  unfold c_like at h
  split at h
  · rename_i a b c x y r
    have hp := (T.is_ask h).1
    have h := (T.is_ask h).2
    obtain rfl := T.is_ret h
    rw [t_like]
    simp only [T.All, U.le_t, U.le_f, U.lt_t, U.lt_f, U.gt_t, U.gt_f, U.ge_t, U.ge_f, U.eq_t, U.eq_f, U.ne_t, U.ne_f, U.not_t, U.not_f, U.andb_t, U.andb_f, SV.lit.injEq, SV.agg.injEq, SV.tup.injEq, List.cons.injEq, Value.int.injEq, Value.bool.injEq, true_and, and_true, lk_eq]
    refine ⟨fun h => ⟨hp h, ?_⟩, fun h => ?_⟩
    · simp [kF, kB, h]
    · have n1 : ¬ r < 0 := by omega
      simp [kF, kB, n1]
  · exact h.elim

noncomputable abbrev k8 : List (Nat × Con) := (84, c_up) :: (85, c_like) :: k7 --%K
theorem k8_ok : ∀ p ∈ k8, ConOK P p.1 p.2 := by
  intro p hp
  simp only [k8, List.mem_cons] at hp
  rcases hp with rfl | rfl | hp
  · exact up_ok
  · exact like_ok
  · exact k7_ok p (by simpa [k7] using hp)
end Go.RX.Span

/- Ranges: Translate of the program and of the reference. -/
set_option linter.unusedVariables false
set_option linter.unusedSimpArgs false
set_option maxRecDepth 100000
namespace Go.RX.Span
open Go Go.RX

theorem up_of {a b c : Int} (hr : Right a b c) (hab : a ≤ b) : uF (ofF a b c) (ofB a b c) (ofC a b c) = a ∧ uB (ofF a b c) (ofB a b c) (ofC a b c) = absI c := by
  obtain ⟨p1, p2, p3, p4, p5, p6, p7, p8, p9, p10⟩ := parts hr hab
  unfold uF uB
  rw [p6, p7]
  by_cases hc : c < 0
  · have e : absI c * (ofC a b c - 1) = -(c * (ofC a b c - 1)) := by rw [absI_neg hc, Int.neg_mul]
    simp only [if_pos hc, tF, tB, sLast, if_neg (show ¬ ofC a b c = 0 by omega), absI_neg hc]
    exact ⟨by omega, trivial⟩
  · simp only [if_neg hc, absI_pos hc, and_self]

/-- A range out of a series upwards, in a direction. -/
def mvE (f s C : Int) : Int := if C ≤ 0 then 0 else if (-1000000 ≤ f ∧ f ≤ 1000000) ∧ (-1000000 ≤ f + s * (C - 1) ∧ f + s * (C - 1) ≤ 1000000) then 0 else 4
def mvLow (f s C : Int) : Int := if C ≤ 0 then 1 else if mvE f s C = 0 then f else 0
def mvHigh (f s C : Int) : Int := if C ≤ 0 then 0 else if mvE f s C = 0 then f + s * (C - 1) else 0
def mvStr (f s C c : Int) : Int := if C ≤ 0 then 1 else if mvE f s C = 0 then (if C = 1 then 1 else if c < 0 then -s else s) else 0

theorem nrm_like {f s C c : Int} (hs : 1 ≤ s) :
    nErr (kF f s C c) (kB f s C c) C = mvE f s C ∧ nLow (kF f s C c) (kB f s C c) C = mvLow f s C ∧ nHigh (kF f s C c) (kB f s C c) C = mvHigh f s C ∧ nStr (kF f s C c) (kB f s C c) C = mvStr f s C c := by
  by_cases hC : C ≤ 0
  · simp [nErr, nLow, nHigh, nStr, mvE, mvLow, mvHigh, mvStr, hC]
  have h0 := mulle (x := 0) (y := C - 1) hs (by omega)
  rw [Int.mul_zero] at h0
  have n0 : ¬ C = 0 := by omega
  by_cases hc : c < 0
  · have eF : kF f s C c = f + s * (C - 1) := by simp only [kF, if_pos hc, tF, sLast, if_neg n0]
    have eB : kB f s C c = -s := by simp only [kB, if_pos hc, tB, if_neg n0]
    rw [eF, eB]
    have el : sLast (f + s * (C - 1)) (-s) C = f := by unfold sLast; rw [Int.neg_mul]; omega
    have e : nErr (f + s * (C - 1)) (-s) C = mvE f s C := by
      unfold nErr mvE
      rw [if_neg hC, if_neg hC, el]
      by_cases h : (-1000000 ≤ f ∧ f ≤ 1000000) ∧ (-1000000 ≤ f + s * (C - 1) ∧ f + s * (C - 1) ≤ 1000000)
      · rw [if_pos h, if_pos (by omega)]
      · rw [if_neg h, if_neg (by omega)]
    refine ⟨e, ?_, ?_, ?_⟩
    · simp only [nLow, mvLow, e, if_neg hC, el]; split <;> omega
    · simp only [nHigh, mvHigh, e, if_neg hC, el]; split <;> omega
    · simp only [nStr, mvStr, e, if_neg hC, if_pos hc]
  · have eF : kF f s C c = f := by simp only [kF, if_neg hc]
    have eB : kB f s C c = s := by simp only [kB, if_neg hc]
    rw [eF, eB]
    have el : sLast f s C = f + s * (C - 1) := rfl
    have e : nErr f s C = mvE f s C := by
      unfold nErr mvE
      rw [if_neg hC, if_neg hC, el]
    refine ⟨e, ?_, ?_, ?_⟩
    · simp only [nLow, mvLow, e, if_neg hC, el]; split <;> omega
    · simp only [nHigh, mvHigh, e, if_neg hC, el]; split <;> omega
    · simp only [nStr, mvStr, e, if_neg hC, if_neg hc]

theorem like_bnd {f s C c : Int} (hC : C ≠ 0) : (kB f s C c * (C - 1) = s * (C - 1) ∨ kB f s C c * (C - 1) = -(s * (C - 1))) ∧ (kF f s C c + kB f s C c * (C - 1) = f ∨ kF f s C c + kB f s C c * (C - 1) = f + s * (C - 1)) := by
  by_cases hc : c < 0
  · have eF : kF f s C c = f + s * (C - 1) := by simp only [kF, if_pos hc, tF, sLast, if_neg hC]
    have eB : kB f s C c = -s := by simp only [kB, if_pos hc, tB, if_neg hC]
    rw [eF, eB, Int.neg_mul]
    exact ⟨.inr rfl, .inl (by omega)⟩
  · have eF : kF f s C c = f := by simp only [kF, if_neg hc]
    have eB : kB f s C c = s := by simp only [kB, if_neg hc]
    rw [eF, eB]
    exact ⟨.inl rfl, .inr rfl⟩

theorem isE_t {a b c : Int} : (isE a b c = true) = (a = 1 ∧ b = 0 ∧ c = 1) := by unfold isE; simp
theorem isE_f {a b c : Int} : (isE a b c = false) = ¬ (a = 1 ∧ b = 0 ∧ c = 1) := by unfold isE; simp
theorem right_le {a b c : Int} (hr : Right a b c) (h : ¬ (a = 1 ∧ b = 0 ∧ c = 1)) : a ≤ b := by rcases hr.2 with h' | h' | h' <;> omega
end Go.RX.Span

