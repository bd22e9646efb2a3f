/- Ranges: what the functions of layer 1 return, in plain Lean. -/
import Derived.Test.YtoncmmlgpecklaaPEb
import Derived.Test.YtoncmmlgpecklaaProg
import Derived.KernelRfl
import Derived.RangeFuncNested
import Derived.RangeFuncBound
import Derived.RangeFuncCalls
import Derived.RangeFuncBox
import Derived.RangeFuncLeaves
import Derived.Shelf.Abstract
import Derived.Shelf.RegionOpen
import Derived.WalkKit
import Derived.OwnWalkIn
import Derived.TacticsInMore
import Derived.LoopNIn
import Derived.LoopIn
import Derived.Maps.AppendAt
set_option linter.unusedVariables false
namespace Go.RX.Span
open Go Go.RX

def lim (n : Int) : Bool := decide (-1000000 ≤ n) && decide (n ≤ 1000000)
theorem lim_t {n : Int} : (lim n = true) = (-1000000 ≤ n ∧ n ≤ 1000000) := by unfold lim; simp
theorem lim_f {n : Int} : (lim n = false) = (n < -1000000 ∨ 1000000 < n) := by unfold lim; simp; omega

/-- The error of a range: none, 2 (its form), 4 (a number out of the limits). -/
def chk (a b c : Int) : Int :=
  if (a = 1 ∧ b = 0 ∧ c = 1) ∨ (a = b ∧ c = 1) ∨ (a < b ∧ c ≠ 0 ∧ (b - a) % c = 0) then
    if (-1000000 ≤ a ∧ a ≤ 1000000) ∧ (-1000000 ≤ b ∧ b ≤ 1000000) then 0 else 4
  else 2

/-- What a right range is. -/
def Right (a b c : Int) : Prop :=
  (-1000000 ≤ a ∧ a ≤ 1000000 ∧ -1000000 ≤ b ∧ b ≤ 1000000) ∧ ((a = 1 ∧ b = 0 ∧ c = 1) ∨ (a = b ∧ c = 1) ∨ (a < b ∧ c ≠ 0 ∧ (b - a) % c = 0))
theorem chk_zero {a b c : Int} : chk a b c = 0 ↔ Right a b c := by
  unfold chk Right
  by_cases h1 : (a = 1 ∧ b = 0 ∧ c = 1) ∨ (a = b ∧ c = 1) ∨ (a < b ∧ c ≠ 0 ∧ (b - a) % c = 0)
  · rw [if_pos h1]
    by_cases h2 : (-1000000 ≤ a ∧ a ≤ 1000000) ∧ (-1000000 ≤ b ∧ b ≤ 1000000)
    · rw [if_pos h2]; exact ⟨fun _ => ⟨⟨h2.1.1, h2.1.2, h2.2.1, h2.2.2⟩, h1⟩, fun _ => rfl⟩
    · rw [if_neg h2]; exact ⟨fun h => by omega, fun h => absurd ⟨⟨h.1.1, h.1.2.1⟩, h.1.2.2⟩ h2⟩
  · rw [if_neg h1]; exact ⟨fun h => by omega, fun h => absurd h.2 h1⟩

def sLast (a b c : Int) : Int := a + b * (c - 1)
def ofF (a b c : Int) : Int := if a > b then 0 else if c < 0 then b else a
def ofB (a b c : Int) : Int := if a > b then 0 else c
def ofC (a b c : Int) : Int := if a > b then 0 else if c < 0 then (b - a) / (-c) + 1 else (b - a) / c + 1

/-- A series made normal. -/
def nErr (a b c : Int) : Int := if c ≤ 0 then 0 else if (-1000000 ≤ a ∧ a ≤ 1000000) ∧ (-1000000 ≤ sLast a b c ∧ sLast a b c ≤ 1000000) then 0 else 4
def nLow (a b c : Int) : Int := if c ≤ 0 then 1 else if nErr a b c = 0 then min a (sLast a b c) else 0
def nHigh (a b c : Int) : Int := if c ≤ 0 then 0 else if nErr a b c = 0 then max a (sLast a b c) else 0
def nStr (a b c : Int) : Int := if c ≤ 0 then 1 else if nErr a b c = 0 then (if c = 1 then 1 else b) else 0

def tF (a b c : Int) : Int := if c = 0 then a else sLast a b c
def tB (a b c : Int) : Int := if c = 0 then b else -b

def size (a b c : Int) : Int := if chk a b c = 0 then ofC a b c else 0
def nthE (a b c k : Int) : Int := if chk a b c ≠ 0 then chk a b c else if k < 0 ∨ k ≥ ofC a b c then 4 else 0
def nth (a b c k : Int) : Int := if nthE a b c k ≠ 0 then 0 else ofF a b c + ofB a b c * k
def has (a b c n : Int) : Bool := decide (chk a b c = 0 ∧ a ≤ n ∧ n ≤ b ∧ (n - a) % c = 0)
def pos (a b c n : Int) : Int := if has a b c n = true then (if c < 0 then (b - n) / (-c) else (n - a) / c) else 0

def ofErr (l h s : Int) : Int := if s = 0 then 1 else if (-1000000 ≤ l ∧ l ≤ 1000000) ∧ (-1000000 ≤ h ∧ h ≤ 1000000) ∧ (-1000000 ≤ s ∧ s ≤ 1000000) then 0 else 4
def ofLow (l h s : Int) : Int := if ofErr l h s ≠ 0 then 0 else if l > h then 1 else if s < 0 then h - (h - l) / (-s) * (-s) else l
def ofHigh (l h s : Int) : Int := if ofErr l h s ≠ 0 then 0 else if l > h then 0 else if s < 0 then h else l + (h - l) / s * s
def ofStr (l h s : Int) : Int := if ofErr l h s ≠ 0 then 0 else if l > h then 1 else if ofLow l h s = ofHigh l h s then 1 else s
def byErr0 (a b c n : Int) : Int := if chk a b c ≠ 0 then chk a b c else if n = 0 then 1 else if -1000000 ≤ n ∧ n ≤ 1000000 then 0 else 4
def byF (a b c n : Int) : Int := if n < 0 then tF (ofF a b c) (ofB a b c) (ofC a b c) else ofF a b c
def byB (a b c n : Int) : Int := if n < 0 then tB (ofF a b c) (ofB a b c) (ofC a b c) * (-n) else ofB a b c * n
def byC (a b c n : Int) : Int := if n < 0 then (ofC a b c + (-n) - 1) / (-n) else (ofC a b c + n - 1) / n
def byErr (a b c n : Int) : Int := if byErr0 a b c n ≠ 0 then byErr0 a b c n else nErr (byF a b c n) (byB a b c n) (byC a b c n)
def byLow (a b c n : Int) : Int := if byErr0 a b c n ≠ 0 then 0 else nLow (byF a b c n) (byB a b c n) (byC a b c n)
def byHigh (a b c n : Int) : Int := if byErr0 a b c n ≠ 0 then 0 else nHigh (byF a b c n) (byB a b c n) (byC a b c n)
def byStr (a b c n : Int) : Int := if byErr0 a b c n ≠ 0 then 0 else nStr (byF a b c n) (byB a b c n) (byC a b c n)
def isE (a b c : Int) : Bool := decide (a = 1 ∧ b = 0 ∧ c = 1)
def absI (c : Int) : Int := if c < 0 then -c else c
/-- The remainder from 0 on. -/
def rmod (a b : Int) : Int := a % b
def rnL (l h s : Int) (d : Bool) : Int := if l > h then 1 else l
def rnH (l h s : Int) (d : Bool) : Int := if l > h then 0 else h
def rnS (l h s : Int) (d : Bool) : Int := if l ≥ h then 1 else if d = true then -s else s

theorem tmod_pos {a m : Int} (ha : 0 ≤ a) : a.tmod m = a % m := Int.tmod_eq_emod_of_nonneg ha
theorem emod_neg_lhs {a m : Int} (hm : 0 < m) (h : (-a) % m ≠ 0) : m - (-a) % m = a % m := by
  have h1 := Int.mul_ediv_add_emod (-a) m
  have h2 := Int.emod_nonneg (-a) (show m ≠ 0 by omega)
  have h3 := Int.emod_lt_of_pos (-a) hm
  have e : a = (m - (-a) % m) + m * (-((-a) / m) - 1) := by
    rw [Int.mul_sub, Int.mul_neg, Int.mul_one]; omega
  have : a % m = ((m - (-a) % m) + m * (-((-a) / m) - 1)) % m := by rw [← e]
  rw [this, Int.add_mul_emod_self_left]
  exact (Int.emod_eq_of_lt (by omega) (by omega)).symm
theorem emod_neg_zero {a m : Int} (h : (-a) % m = 0) : a % m = 0 := by
  have := Int.dvd_of_emod_eq_zero h
  exact Int.emod_eq_zero_of_dvd ((Int.dvd_neg).1 this)
theorem emod_sub_zero {a b m : Int} : (b - a) % m = 0 ↔ b % m = a % m := by
  constructor
  · intro h; exact (Int.emod_eq_emod_iff_emod_sub_eq_zero).2 h
  · intro h; exact (Int.emod_eq_emod_iff_emod_sub_eq_zero).1 h
end Go.RX.Span

/- Ranges: the contracts of layer 1's small functions. -/
set_option linter.unusedVariables false
namespace Go.RX.Span
open Go Go.RX

noncomputable def c_within : Con := fun args => match args with
  | [.lit (.int .i64 n)] => .ret (.lit (.bool (lk lim n)))
  | _ => .stuck 1
noncomputable def c_last : Con := fun args => match args with
  | [.agg [.lit (.int .i64 a), .lit (.int .i64 b), .lit (.int .i64 c)]] => .ask (I64 (c - 1) ∧ I64 (b * (c - 1)) ∧ I64 (a + b * (c - 1))) (.ret (.lit (.int .i64 (lk sLast a b c))))
  | _ => .stuck 1
noncomputable def c_of : Con := fun args => match args with
  | [.agg [.lit (.int .i64 a), .lit (.int .i64 b), .lit (.int .i64 c)]] =>
    .ask (a ≤ b → c ≠ 0 ∧ -9223372036854775807 ≤ c ∧ b - a < 9223372036854775807 ∧ I64 a ∧ I64 b ∧ I64 c) (.ret (.agg [.lit (.int .i64 (lk ofF a b c)), .lit (.int .i64 (lk ofB a b c)), .lit (.int .i64 (lk ofC a b c))]))
  | _ => .stuck 1
noncomputable def c_normal : Con := fun args => match args with
  | [.agg [.lit (.int .i64 a), .lit (.int .i64 b), .lit (.int .i64 c)]] =>
    .ask (0 < c → I64 (c - 1) ∧ I64 (b * (c - 1)) ∧ I64 (a + b * (c - 1)))
      (.ret (.tup [.agg [.lit (.int .i64 (lk nLow a b c)), .lit (.int .i64 (lk nHigh a b c)), .lit (.int .i64 (lk nStr a b c))], .lit (.int .i64 (lk nErr a b c))]))
  | _ => .stuck 1
noncomputable def c_turned : Con := fun args => match args with
  | [.agg [.lit (.int .i64 a), .lit (.int .i64 b), .lit (.int .i64 c)]] =>
    .ask (c ≠ 0 → I64 (c - 1) ∧ I64 (b * (c - 1)) ∧ I64 (a + b * (c - 1)) ∧ I64 (-b)) (.ret (.agg [.lit (.int .i64 (lk tF a b c)), .lit (.int .i64 (lk tB a b c)), .lit (.int .i64 c)]))
  | _ => .stuck 1
noncomputable def c_Check : Con := fun args => match args with
  | [.agg [.lit (.int .i64 a), .lit (.int .i64 b), .lit (.int .i64 c)]] => .ask (I64 a ∧ I64 b ∧ I64 c) (.ret (.lit (.int .i64 (lk chk a b c))))
  | _ => .stuck 1
noncomputable def c_Of : Con := fun args => match args with
  | [.lit (.int .i64 l), .lit (.int .i64 h), .lit (.int .i64 s)] =>
    .ret (.tup [.agg [.lit (.int .i64 (lk ofLow l h s)), .lit (.int .i64 (lk ofHigh l h s)), .lit (.int .i64 (lk ofStr l h s))], .lit (.int .i64 (lk ofErr l h s))])
  | _ => .stuck 1
noncomputable def c_Size : Con := fun args => match args with
  | [.agg [.lit (.int .i64 a), .lit (.int .i64 b), .lit (.int .i64 c)]] => .ask (I64 a ∧ I64 b ∧ I64 c) (.ret (.lit (.int .i64 (lk size a b c))))
  | _ => .stuck 1
noncomputable def c_Nth : Con := fun args => match args with
  | [.agg [.lit (.int .i64 a), .lit (.int .i64 b), .lit (.int .i64 c)], .lit (.int .i64 k)] => .ask (I64 a ∧ I64 b ∧ I64 c) (.ret (.tup [.lit (.int .i64 (lk nth a b c k)), .lit (.int .i64 (lk nthE a b c k))]))
  | _ => .stuck 1
noncomputable def c_Position : Con := fun args => match args with
  | [.agg [.lit (.int .i64 a), .lit (.int .i64 b), .lit (.int .i64 c)], .lit (.int .i64 n)] => .ask (I64 a ∧ I64 b ∧ I64 c) (.ret (.tup [.lit (.int .i64 (lk pos a b c n)), .lit (.bool (lk has a b c n))]))
  | _ => .stuck 1
noncomputable def c_Has : Con := fun args => match args with
  | [.agg [.lit (.int .i64 a), .lit (.int .i64 b), .lit (.int .i64 c)], .lit (.int .i64 n)] => .ask (I64 a ∧ I64 b ∧ I64 c) (.ret (.lit (.bool (lk has a b c n))))
  | _ => .stuck 1
noncomputable def c_By : Con := fun args => match args with
  | [.agg [.lit (.int .i64 a), .lit (.int .i64 b), .lit (.int .i64 c)], .lit (.int .i64 n)] =>
    .ask (I64 a ∧ I64 b ∧ I64 c) (.ret (.tup [.agg [.lit (.int .i64 (lk byLow a b c n)), .lit (.int .i64 (lk byHigh a b c n)), .lit (.int .i64 (lk byStr a b c n))], .lit (.int .i64 (lk byErr a b c n))]))
  | _ => .stuck 1
noncomputable def c_true : Con := fun args => match args with
  | [] => .ret (.lit (.bool true))
  | _ => .stuck 1
noncomputable def c_Empty : Con := fun args => match args with
  | [] => .ret (.agg [.lit (.int .i64 1), .lit (.int .i64 0), .lit (.int .i64 1)])
  | _ => .stuck 1
noncomputable def c_IsEmpty : Con := fun args => match args with
  | [.agg [.lit (.int .i64 a), .lit (.int .i64 b), .lit (.int .i64 c)]] => .ret (.lit (.bool (lk isE a b c)))
  | _ => .stuck 1
noncomputable def c_step : Con := fun args => match args with
  | [.agg [.lit (.int .i64 a), .lit (.int .i64 b), .lit (.int .i64 c)]] => .ask (I64 (-c)) (.ret (.lit (.int .i64 (lk absI c))))
  | _ => .stuck 1
noncomputable def c_mod : Con := fun args => match args with
  | [.lit (.int .i64 a), .lit (.int .i64 b)] => .ask (b ≠ 0 ∧ I64 a ∧ I64 b) (.ret (.lit (.int .u64 (lk rmod a b))))
  | _ => .stuck 1
noncomputable def c_Normal : Con := fun args => match args with
  | [.lit (.int .i64 l), .lit (.int .i64 h), .lit (.int .i64 s), .lit (.bool d)] =>
    .ask (l < h → d = true → I64 (-s)) (.ret (.agg [.lit (.int .i64 (lk rnL l h s d)), .lit (.int .i64 (lk rnH l h s d)), .lit (.int .i64 (lk rnS l h s d))]))
  | _ => .stuck 1
end Go.RX.Span

/- Ranges: layer 1's small functions meet their contracts. -/
set_option linter.unusedVariables false
set_option linter.unusedSimpArgs false
set_option maxRecDepth 100000
namespace Go.RX.Span
open Go Go.RX

noncomputable abbrev P := Go.Proofs.Try.prog
theorem mixed : P.follows .mixedOrders = true := by kernel_rfl

set_option maxRecDepth 100000 in
theorem t_within (n : Int) : conB Go.Proofs.Try.prog (conOf []) noLoops 10 118 [.lit (.int .i64 n)] =
    T.br (U.ge n (-1000000 : Int)) (.ret (.lit (.bool (U.le n (1000000 : Int))))) (.ret (.lit (.bool false))) := by kernel_rfl
theorem within_ok : ConOK P 118 c_within := con_of (allOK mixed (l := []) (by simp)) 10 118 fun args r h => by
  unfold c_within at h
  split at h
  · rename_i n
    obtain rfl := T.is_ret h
    rw [t_within]
    simp only [T.All, U.le_t, U.le_f, U.lt_t, U.lt_f, U.gt_t, U.gt_f, U.ge_t, U.ge_f, U.eq_t, U.eq_f, U.ne_t, U.ne_f, U.not_t, U.not_f, U.andb_t, U.andb_f, SV.lit.injEq, SV.agg.injEq, SV.tup.injEq, List.cons.injEq, Value.int.injEq, Value.bool.injEq, true_and, and_true, lk_eq]
    rw [U.le_eq]
    unfold lim
    refine ⟨fun h => by simp [h], fun h => ?_⟩
    have : ¬ (-1000000 ≤ n) := by omega
    simp [this]
  · exact h.elim

set_option maxRecDepth 100000 in
theorem t_last (a b c : Int) : conB Go.Proofs.Try.prog (conOf []) noLoops 10 117 [.agg [.lit (.int .i64 a), .lit (.int .i64 b), .lit (.int .i64 c)]] =
    T.ret (.lit (.int .i64 (U.add .i64 a (U.mul .i64 b (U.sub .i64 c (1 : Int)))))) := by kernel_rfl
theorem last_ok : ConOK P 117 c_last := con_of (allOK mixed (l := []) (by simp)) 10 117 fun args r h => by
  unfold c_last at h
  split at h
  · rename_i a b c
    have hp := (T.is_ask h).1
    have h1 := hp.1
    have h2 := hp.2.1
    have h3 := hp.2.2
    have h := (T.is_ask h).2
    obtain rfl := T.is_ret h
    rw [t_last]
    simp only [T.All, U.le_t, U.le_f, U.lt_t, U.lt_f, U.gt_t, U.gt_f, U.ge_t, U.ge_f, U.eq_t, U.eq_f, U.ne_t, U.ne_f, U.not_t, U.not_f, U.andb_t, U.andb_f, SV.lit.injEq, SV.agg.injEq, SV.tup.injEq, List.cons.injEq, Value.int.injEq, Value.bool.injEq, true_and, and_true, lk_eq]
    rw [U.sub64 h1, U.mul64 h2, U.add64 h3]; rfl
  · exact h.elim

theorem tdiv_pos {a b : Int} (h : 0 ≤ a) : a.tdiv b = a / b := Int.tdiv_eq_ediv_of_nonneg h
theorem div_le_self' {a b : Int} (ha : 0 ≤ a) (hb : 0 < b) : 0 ≤ a / b ∧ a / b ≤ a :=
  ⟨Int.ediv_nonneg ha (by omega), Int.ediv_le_self b ha⟩

set_option maxRecDepth 100000 in
theorem t_of (a b c : Int) : conB Go.Proofs.Try.prog (conOf []) noLoops 10 112 [.agg [.lit (.int .i64 a), .lit (.int .i64 b), .lit (.int .i64 c)]] =
    T.br (U.gt a b) (.ret (.agg [.lit (.int .i64 0), .lit (.int .i64 0), .lit (.int .i64 0)])) (.br (U.lt c (0 : Int)) (.ask (U.sub .i64 0 c ≠ (0 : Int)) (.ret (.agg [.lit (.int .i64
      b), .lit (.int .i64 c), .lit (.int .i64 (U.add .i64 (U.quo .i64 (U.sub .i64 b a) (U.sub .i64 0 c)) (1 : Int)))]))) (.ask (c ≠ (0 : Int)) (.ret (.agg [.lit (.int .i64 a), .lit (.int
      .i64 c), .lit (.int .i64 (U.add .i64 (U.quo .i64 (U.sub .i64 b a) c) (1 : Int)))])))) := by kernel_rfl
theorem of_ok : ConOK P 112 c_of := con_of (allOK mixed (l := []) (by simp)) 10 112 fun args r h => by
  unfold c_of at h
  split at h
  · rename_i a b c
    have hp := (T.is_ask h).1
    have h := (T.is_ask h).2
    obtain rfl := T.is_ret h
    rw [t_of]
    simp only [T.All, U.le_t, U.le_f, U.lt_t, U.lt_f, U.gt_t, U.gt_f, U.ge_t, U.ge_f, U.eq_t, U.eq_f, U.ne_t, U.ne_f, U.not_t, U.not_f, U.andb_t, U.andb_f, SV.lit.injEq, SV.agg.injEq, SV.tup.injEq, List.cons.injEq, Value.int.injEq, Value.bool.injEq, true_and, and_true, lk_eq]
    unfold I64 at hp
    refine ⟨fun h => ?_, fun h => ⟨fun h2 => ?_, fun h2 => ?_⟩⟩
    · unfold ofF ofB ofC; rw [if_pos (by omega), if_pos (by omega), if_pos (by omega)]; exact ⟨rfl, rfl, rfl⟩
    · obtain ⟨g1, g2, g3, g4, g5, g6⟩ := hp h
      have e1 : U.sub .i64 0 c = -c := by rw [U.sub64 (by unfold I64; omega)]; omega
      have e2 : U.sub .i64 b a = b - a := U.sub64 (by unfold I64; omega)
      have hd := div_le_self' (a := b - a) (b := -c) (by omega) (by omega)
      rw [e1, e2, U.quo64 (by rw [tdiv_pos (by omega)]; unfold I64; omega), tdiv_pos (by omega), U.add64 (by unfold I64; omega)]
      have n1 : ¬ a > b := by omega
      refine ⟨by omega, ?_, ?_, ?_⟩ <;> simp [ofF, ofB, ofC, h2, n1]
    · obtain ⟨g1, g2, g3, g4, g5, g6⟩ := hp h
      have e2 : U.sub .i64 b a = b - a := U.sub64 (by unfold I64; omega)
      have hd := div_le_self' (a := b - a) (b := c) (by omega) (by omega)
      rw [e2, U.quo64 (by rw [tdiv_pos (by omega)]; unfold I64; omega), tdiv_pos (by omega), U.add64 (by unfold I64; omega)]
      have n1 : ¬ a > b := by omega
      have n2 : ¬ c < 0 := by omega
      refine ⟨by omega, ?_, ?_, ?_⟩ <;> simp [ofF, ofB, ofC, n1, n2]
  · exact h.elim

noncomputable abbrev k0 : List (Nat × Con) := [(118, c_within), (117, c_last), (112, c_of)] --%K
theorem k0_ok : ∀ p ∈ k0, ConOK P p.1 p.2 := by
  simp only [k0, List.mem_cons, List.not_mem_nil, or_false, forall_eq_or_imp, forall_eq]
  exact ⟨within_ok, last_ok, of_ok⟩

theorem mm_min (a b : Int) : U.mm false a b = min a b := by rw [U.mm_eq]; simp only [Bool.false_eq_true, if_false]; split <;> omega
theorem mm_max (a b : Int) : U.mm true a b = max a b := by rw [U.mm_eq]; simp only [if_true]; split <;> omega

set_option maxRecDepth 100000 in
theorem t_normal (a b c : Int) : conB Go.Proofs.Try.prog (conOf k0) noLoops 10 115 [.agg [.lit (.int .i64 a), .lit (.int .i64 b), .lit (.int .i64 c)]] =
    T.br (U.le c (0 : Int)) (.ret (.tup [.agg [.lit (.int .i64 1), .lit (.int .i64 0), .lit (.int .i64 1)], .lit (.int .i64 0)])) (.ask (I64 (c - (1 : Int)) ∧ I64 (b * (c - (1 : Int)))
      ∧ I64 (a + b * (c - (1 : Int)))) (.ask (I64 (c - (1 : Int)) ∧ I64 (b * (c - (1 : Int))) ∧ I64 (a + b * (c - (1 : Int)))) (.br (U.eq c (1 : Int)) (.br (U.not (lk lim (U.mm false a
      (lk sLast a b c)))) (.ret (.tup [.agg [.lit (.int .i64 0), .lit (.int .i64 0), .lit (.int .i64 0)], .lit (.int .i64 4)])) (.br (U.not (lk lim (U.mm true a (lk sLast a b c)))) (.ret
      (.tup [.agg [.lit (.int .i64 0), .lit (.int .i64 0), .lit (.int .i64 0)], .lit (.int .i64 4)])) (.ret (.tup [.agg [.lit (.int .i64 (U.mm false a (lk sLast a b c))), .lit (.int .i64
      (U.mm true a (lk sLast a b c))), .lit (.int .i64 1)], .lit (.int .i64 0)])))) (.br (U.not (lk lim (U.mm false a (lk sLast a b c)))) (.ret (.tup [.agg [.lit (.int .i64 0), .lit (.int
      .i64 0), .lit (.int .i64 0)], .lit (.int .i64 4)])) (.br (U.not (lk lim (U.mm true a (lk sLast a b c)))) (.ret (.tup [.agg [.lit (.int .i64 0), .lit (.int .i64 0), .lit (.int .i64
      0)], .lit (.int .i64 4)])) (.ret (.tup [.agg [.lit (.int .i64 (U.mm false a (lk sLast a b c))), .lit (.int .i64 (U.mm true a (lk sLast a b c))), .lit (.int .i64 b)], .lit (.int .i64
      0)]))))))) := by kernel_rfl
theorem normal_ok : ConOK P 115 c_normal := con_of (allOK mixed k0_ok) 10 115 fun args r h => by
  unfold c_normal at h
  split at h
  · rename_i a b c
    have hp := (T.is_ask h).1
    have h := (T.is_ask h).2
    obtain rfl := T.is_ret h
    rw [t_normal]
    simp only [T.All, U.le_t, U.le_f, U.lt_t, U.lt_f, U.gt_t, U.gt_f, U.ge_t, U.ge_f, U.eq_t, U.eq_f, U.ne_t, U.ne_f, U.not_t, U.not_f, U.andb_t, U.andb_f, SV.lit.injEq, SV.agg.injEq, SV.tup.injEq, List.cons.injEq, Value.int.injEq, Value.bool.injEq, true_and, and_true, lk_eq, mm_min, mm_max, lim_t, lim_f]
    refine ⟨fun h => ?_, fun h => ⟨hp h, hp h, fun h2 => ⟨fun h3 => ?_, fun h3 => ⟨fun h4 => ?_, fun h4 => ?_⟩⟩, fun h2 => ⟨fun h3 => ?_, fun h3 => ⟨fun h4 => ?_, fun h4 => ?_⟩⟩⟩⟩
    · simp [nLow, nHigh, nStr, nErr, h]
    all_goals
      have hc : ¬ c ≤ 0 := by omega
      have e : nErr a b c = 4 ∨ nErr a b c = 0 := by unfold nErr; rw [if_neg hc]; split <;> simp
    · have e : nErr a b c = 4 := by unfold nErr; rw [if_neg hc, if_neg (by omega)]
      simp [nLow, nHigh, nStr, hc, e]
    · have e : nErr a b c = 4 := by unfold nErr; rw [if_neg hc, if_neg (by omega)]
      simp [nLow, nHigh, nStr, hc, e]
    · subst h2
      have e : nErr a b 1 = 0 := by unfold nErr; rw [if_neg hc, if_pos (by omega)]
      simp [nLow, nHigh, nStr, e]
    · have e : nErr a b c = 4 := by unfold nErr; rw [if_neg hc, if_neg (by omega)]
      simp [nLow, nHigh, nStr, hc, e]
    · have e : nErr a b c = 4 := by unfold nErr; rw [if_neg hc, if_neg (by omega)]
      simp [nLow, nHigh, nStr, hc, e]
    · have e : nErr a b c = 0 := by unfold nErr; rw [if_neg hc, if_pos (by omega)]
      simp [nLow, nHigh, nStr, hc, e, h2]
  · exact h.elim

set_option maxRecDepth 100000 in
theorem t_turned (a b c : Int) : conB Go.Proofs.Try.prog (conOf k0) noLoops 10 175 [.agg [.lit (.int .i64 a), .lit (.int .i64 b), .lit (.int .i64 c)]] =
    T.br (U.eq c (0 : Int)) (.ret (.agg [.lit (.int .i64 a), .lit (.int .i64 b), .lit (.int .i64 c)])) (.ask (I64 (c - (1 : Int)) ∧ I64 (b * (c - (1 : Int))) ∧ I64 (a + b * (c - (1 :
      Int)))) (.ret (.agg [.lit (.int .i64 (lk sLast a b c)), .lit (.int .i64 (U.sub .i64 0 b)), .lit (.int .i64 c)]))) := by kernel_rfl
theorem turned_ok : ConOK P 175 c_turned := con_of (allOK mixed k0_ok) 10 175 fun args r h => by
  unfold c_turned at h
  split at h
  · rename_i a b c
    have hp := (T.is_ask h).1
    have h := (T.is_ask h).2
    obtain rfl := T.is_ret h
    rw [t_turned]
    simp only [T.All, U.le_t, U.le_f, U.lt_t, U.lt_f, U.gt_t, U.gt_f, U.ge_t, U.ge_f, U.eq_t, U.eq_f, U.ne_t, U.ne_f, U.not_t, U.not_f, U.andb_t, U.andb_f, SV.lit.injEq, SV.agg.injEq, SV.tup.injEq, List.cons.injEq, Value.int.injEq, Value.bool.injEq, true_and, and_true, lk_eq]
    unfold tF tB
    refine ⟨fun h => ?_, fun h => ?_⟩
    · rw [if_pos h, if_pos h]; exact ⟨rfl, rfl⟩
    · obtain ⟨h1, h2, h3, h4⟩ := hp h
      rw [if_neg h, if_neg h, U.sub64 (by unfold I64 at h4 ⊢; omega)]
      exact ⟨⟨h1, h2, h3⟩, rfl, by omega⟩
  · exact h.elim
end Go.RX.Span

/- Euclid's algorithm, as the program goes: what it comes to, in plain Lean. -/
set_option linter.unusedVariables false
set_option linter.unusedSimpArgs false
namespace Go.RX.Span
open Go Go.RX

def eg : Nat → Int → Int → Int → Int → Int × Int
  | 0, x0, x1, _, _ => (x0, x1)
  | n + 1, x0, x1, y0, y1 => if y0 = 0 then (x0, x1) else eg n y0 y1 (x0 - x0.tdiv y0 * y0) (x1 - x0.tdiv y0 * y1)
def euG (a b : Int) : Int := (eg (b.toNat + 1) a 1 b 0).1
def euX (a b : Int) : Int := (eg (b.toNat + 1) a 1 b 0).2

/-- What holds ahead of each round. -/
structure EInv (a b B x0 x1 y0 y1 : Int) : Prop where
  hx : 0 ≤ x0
  hy : 0 ≤ y0
  cx : ∃ u, x0 = a * x1 + b * u
  cy : ∃ v, y0 = a * y1 + b * v
  g : Int.gcd x0 y0 = Int.gcd a b
  bx : (x1.natAbs : Int) ≤ B
  b1 : (y1.natAbs : Int) ≤ B
  s : (x1.natAbs : Int) * y0 + (y1.natAbs : Int) * x0 ≤ B

theorem einv_start {a b : Int} (ha : 0 ≤ a) (hb : 0 ≤ b) : EInv a b (max 1 b) a 1 b 0 where
  hx := ha
  hy := hb
  cx := ⟨0, by simp⟩
  cy := ⟨1, by simp⟩
  g := rfl
  bx := by simp; omega
  b1 := by simp; omega
  s := by simp; omega

theorem einv_q {x0 y0 : Int} (hx : 0 ≤ x0) (hy : 0 < y0) : x0.tdiv y0 = x0 / y0 ∧ 0 ≤ x0 / y0 ∧ x0 - x0 / y0 * y0 = x0 % y0 ∧ 0 ≤ x0 % y0 ∧ x0 % y0 < y0 ∧ x0 / y0 ≤ x0 ∧ 0 ≤ x0 / y0 * y0 ∧ x0 / y0 * y0 ≤ x0 := by
  have h1 := Int.tdiv_eq_ediv_of_nonneg hx (b := y0)
  have h2 := Int.ediv_nonneg hx (Int.le_of_lt hy)
  have h3 := Int.mul_ediv_add_emod x0 y0
  have h4 := Int.emod_nonneg x0 (show y0 ≠ 0 by omega)
  have h5 := Int.emod_lt_of_pos x0 hy
  have h6 : x0 / y0 * y0 = y0 * (x0 / y0) := Int.mul_comm _ _
  have h7 : 1 * (x0 / y0) ≤ y0 * (x0 / y0) := Int.mul_le_mul_of_nonneg_right (by omega) h2
  rw [Int.one_mul] at h7
  refine ⟨h1, h2, by omega, h4, h5, by omega, by omega, by omega⟩

theorem einv_step {a b B x0 x1 y0 y1 : Int} (h : EInv a b B x0 x1 y0 y1) (hy : y0 ≠ 0) : EInv a b B y0 y1 (x0 - x0.tdiv y0 * y0) (x1 - x0.tdiv y0 * y1) := by
  have hy' : 0 < y0 := by have := h.hy; omega
  obtain ⟨e1, e2, e3, e4, e5, e6, e7, e8⟩ := einv_q h.hx hy'
  rw [e1]
  obtain ⟨q, hq⟩ : ∃ q, q = x0 / y0 := ⟨_, rfl⟩
  rw [← hq] at e2 e3 e6 e7 e8 ⊢
  have hs : (y1.natAbs : Int) * (x0 - q * y0) + ((x1 - q * y1).natAbs : Int) * y0 ≤ B := by
    have hP : ((x1 - q * y1).natAbs : Int) ≤ (x1.natAbs : Int) + q * (y1.natAbs : Int) := by
      have h1 := Int.natAbs_sub_le x1 (q * y1)
      rw [Int.natAbs_mul] at h1
      have h2 : ((q.natAbs : Nat) : Int) = q := Int.natAbs_of_nonneg e2
      have h3 : (((q.natAbs * y1.natAbs : Nat)) : Int) = q * (y1.natAbs : Int) := by rw [Int.natCast_mul, h2]
      omega
    have hm := Int.mul_le_mul_of_nonneg_right hP (Int.le_of_lt hy')
    rw [Int.add_mul] at hm
    have hc : q * (y1.natAbs : Int) * y0 = (y1.natAbs : Int) * (q * y0) := by rw [Int.mul_comm q, Int.mul_assoc]
    have hs0 := h.s
    rw [Int.mul_sub]
    omega
  refine ⟨Int.le_of_lt hy', by omega, h.cy, ?_, ?_, h.b1, ?_, ?_⟩
  · obtain ⟨u, hu⟩ := h.cx
    obtain ⟨v, hv⟩ := h.cy
    refine ⟨u - q * v, ?_⟩
    have e : q * y0 = a * (q * y1) + b * (q * v) := by
      rw [hv, Int.mul_add]
      congr 1
      · rw [← Int.mul_assoc, ← Int.mul_assoc, Int.mul_comm q a]
      · rw [← Int.mul_assoc, ← Int.mul_assoc, Int.mul_comm q b]
    rw [Int.mul_sub, Int.mul_sub]
    omega
  · rw [← h.g, Int.gcd_comm x0 y0]
    exact Int.gcd_sub_mul_right_right y0 x0 q
  · have h0 : (0 : Int) ≤ (y1.natAbs : Int) * (x0 - q * y0) := Int.mul_nonneg (by omega) (by omega)
    have h1 : ((x1 - q * y1).natAbs : Int) * 1 ≤ ((x1 - q * y1).natAbs : Int) * y0 := Int.mul_le_mul_of_nonneg_left (by omega) (by omega)
    omega
  · rw [Int.add_comm] ; rw [Int.add_comm] at hs; omega

theorem eg_spec {a b B : Int} : ∀ (n : Nat) (x0 x1 y0 y1 : Int), y0.toNat < n → EInv a b B x0 x1 y0 y1 →
    (eg n x0 x1 y0 y1).1 = Int.gcd a b ∧ (∃ u, (eg n x0 x1 y0 y1).1 = a * (eg n x0 x1 y0 y1).2 + b * u) ∧ ((eg n x0 x1 y0 y1).2.natAbs : Int) ≤ B
  | 0, _, _, _, _, h, _ => by omega
  | n + 1, x0, x1, y0, y1, h, hi => by
    rw [eg]
    by_cases hy : y0 = 0
    · rw [if_pos hy]
      refine ⟨?_, hi.cx, hi.bx⟩
      rw [← hi.g, hy, Int.gcd_zero_right]
      exact (Int.natAbs_of_nonneg hi.hx).symm
    · rw [if_neg hy]
      have hy' : 0 < y0 := by have := hi.hy; omega
      obtain ⟨e1, e2, e3, e4, e5, e6, e7, e8⟩ := einv_q hi.hx hy'
      exact eg_spec n _ _ _ _ (by rw [e1]; omega) (einv_step hi hy)

/-- What Euclid's algorithm returns: the divisor; the factor. -/
theorem eu_spec {a b : Int} (ha : 0 ≤ a) (hb : 0 ≤ b) : euG a b = Int.gcd a b ∧ (∃ u, euG a b = a * euX a b + b * u) ∧ ((euX a b).natAbs : Int) ≤ max 1 b :=
  eg_spec (b.toNat + 1) a 1 b 0 (by omega) (einv_start ha hb)

structure XU where
  (a b x0 x1 y0 y1 : Int) (k : Nat)
def PreU (n0 : Nat) (a b : Int) : Prop := n0 ≤ 2 ∧ 0 ≤ a ∧ a ≤ 4000000 ∧ 0 ≤ b ∧ b ≤ 4000000
noncomputable def VU (x : XU) : Few := ([.ptr 0 0, .ptr 1 0], [(0, some (.cells [.lit (.int .i64 x.x0), .lit (.int .i64 x.x1)] 103)), (0, some (.cells [.lit (.int .i64 x.y0), .lit (.int .i64 x.y1)] 103))])
noncomputable def OU (x : XU) : Ex × Few := (.exit 0, ([.ptr 0 0, .ptr 1 0], [(0, some (.cells [.lit (.int .i64 (eg x.k x.x0 x.x1 x.y0 x.y1).1), .lit (.int .i64 (eg x.k x.x0 x.x1 x.y0 x.y1).2)] 103)), (0, some (.cells [.any, .any] 103))]))
def PhiU (n0 : Nat) (x : XU) : Prop := PreU n0 x.a x.b ∧ EInv x.a x.b (max 1 x.b) x.x0 x.x1 x.y0 x.y1 ∧ x.y0.toNat < x.k ∧ x.x0 ≤ 4000000 ∧ x.y0 ≤ 4000000
noncomputable def gU : Nat → Few → T (Ex × Few)
  | n0, ([.ptr 0 0, .ptr 1 0], [(_, some (.cells [.lit (.int .i64 a), .ki .i64 (.ofNat 1)] 103)), (_, some (.cells [.lit (.int .i64 b), .ki .i64 (.ofNat 0)] 103))]) =>
    .ask (PreU n0 a b) (.ret (.exit 0, ([.ptr 0 0, .ptr 1 0], [(0, some (.cells [.lit (.int .i64 (lk euG a b)), .lit (.int .i64 (lk euX a b))] 103)), (0, some (.cells [.any, .any] 103))])))
  | _, _ => .stuck 1
noncomputable abbrev l118 : List (Nat × Loops) := [(127, [(2, .sum (few 41 [6, 7] gU))])]
end Go.RX.Span

/- The numbers that two series have both, in plain Lean: what the program reckons has just these. -/
set_option linter.unusedVariables false
set_option linter.unusedSimpArgs false
namespace Go.RX.Span
open Go Go.RX

def cmM (t g : Int) : Int := t.tdiv g
def cmK (A B g m x : Int) : Int := (((B - A).tdiv g).tmod m * x.tmod m).tmod m
/-- The least number from low on that is f off some steps. -/
def cmUp (f low y : Int) : Int := if f < low then (if (low - f).tmod y > 0 then low + (y - (low - f).tmod y) else low) else f - (f - low).tdiv y * y

theorem cmUp_spec {f low y : Int} (hy : 1 ≤ y) : low ≤ cmUp f low y ∧ cmUp f low y < low + y ∧ ∃ p, cmUp f low y = f + y * p := by
  unfold cmUp
  by_cases h : f < low
  · rw [if_pos h]
    have h1 := Int.tmod_eq_emod_of_nonneg (b := y) (show 0 ≤ low - f by omega)
    have h2 := Int.mul_ediv_add_emod (low - f) y
    have h3 := Int.emod_nonneg (low - f) (show y ≠ 0 by omega)
    have h4 := Int.emod_lt_of_pos (low - f) (show 0 < y by omega)
    rw [h1]
    by_cases hd : (low - f) % y > 0
    · rw [if_pos hd]
      refine ⟨by omega, by omega, (low - f) / y + 1, ?_⟩
      rw [Int.mul_add, Int.mul_one]; omega
    · rw [if_neg hd]
      exact ⟨by omega, by omega, (low - f) / y, by omega⟩
  · rw [if_neg h]
    have h1 := Int.tdiv_eq_ediv_of_nonneg (b := y) (show 0 ≤ f - low by omega)
    have h2 := Int.mul_ediv_add_emod (f - low) y
    have h3 := Int.emod_nonneg (f - low) (show y ≠ 0 by omega)
    have h4 := Int.emod_lt_of_pos (f - low) (show 0 < y by omega)
    rw [h1, Int.mul_comm]
    refine ⟨by omega, by omega, -((f - low) / y), ?_⟩
    rw [Int.mul_neg]; omega

theorem cm_first {s t g x A B s' m Q u : Int} (h1 : s = g * s') (h2 : t = g * m) (h3 : g = s * x + t * u) (h4 : B - A = g * Q) (hg : 1 ≤ g) (hm : 1 ≤ m) :
    ∃ q, A + s * cmK A B g m x = B + t * q := by
  have e1 : (B - A).tdiv g = Q := by rw [h4]; exact Int.mul_tdiv_cancel_left _ (by omega)
  unfold cmK
  rw [e1]
  have d1 := Int.tmod_def Q m
  have d2 := Int.tmod_def x m
  have d3 := Int.tmod_def (Q.tmod m * x.tmod m) m
  generalize Q.tmod m = Q1 at *
  generalize x.tmod m = x1 at *
  generalize (Q1 * x1).tmod m = K at *
  generalize Q.tdiv m = i at *
  generalize x.tdiv m = j at *
  generalize (Q1 * x1).tdiv m = l at *
  exact ⟨s' * (-(Q * j) - i * x + m * i * j - l) - Q * u, by subst d1; subst d2; grind⟩

/-- A number is in both progressions just if it is so many steps off the first one. -/
theorem cm_both {s t g x A B s' m u f n : Int} (h1 : s = g * s') (h2 : t = g * m) (h3 : g = s * x + t * u) (hg : 1 ≤ g) (hfa : ∃ p, f = A + s * p) (hfb : ∃ q, f = B + t * q) :
    ((∃ p, n = A + s * p) ∧ ∃ q, n = B + t * q) ↔ ∃ p, n = f + s * m * p := by
  obtain ⟨p0, hp0⟩ := hfa
  obtain ⟨q0, hq0⟩ := hfb
  constructor
  · rintro ⟨⟨p, hp⟩, q, hq⟩
    have hb : 1 = s' * x + m * u := by
      have : g * 1 = g * (s' * x + m * u) := by rw [Int.mul_one]; grind
      exact Int.eq_of_mul_eq_mul_left (by omega) this
    have hd : s * (p - p0) = t * (q - q0) := by grind
    have hd' : s' * (p - p0) = m * (q - q0) := by
      have : g * (s' * (p - p0)) = g * (m * (q - q0)) := by grind
      exact Int.eq_of_mul_eq_mul_left (by omega) this
    refine ⟨(q - q0) * x + u * (p - p0), ?_⟩
    have : p - p0 = m * ((q - q0) * x + u * (p - p0)) := by grind
    grind
  · rintro ⟨p, hp⟩
    exact ⟨⟨p0 + m * p, by grind⟩, q0 + s' * p, by grind⟩

/-- Where the firsts are no multiple of the divisor apart there is none. -/
theorem cm_none {s t g s' m A B n : Int} (h1 : s = g * s') (h2 : t = g * m) (hn : (B - A).tmod g ≠ 0) : ¬ ((∃ p, n = A + s * p) ∧ ∃ q, n = B + t * q) := by
  rintro ⟨⟨p, hp⟩, q, hq⟩
  apply hn
  have : B - A = g * (s' * p - m * q) := by grind
  rw [this]
  exact Int.mul_tmod_right _ _

/-- What lies in a progression and from low to high: so many steps off the least. -/
theorem cm_clamp {f low high y n : Int} (hy : 1 ≤ y) : ((∃ p, n = f + y * p) ∧ low ≤ n ∧ n ≤ high) ↔ (cmUp f low y ≤ n ∧ n ≤ high ∧ ∃ p, n = cmUp f low y + y * p) := by
  obtain ⟨h1, h2, p0, h3⟩ := cmUp_spec (f := f) (low := low) hy
  constructor
  · rintro ⟨⟨p, hp⟩, hl, hh⟩
    have he : n = cmUp f low y + y * (p - p0) := by rw [h3, Int.mul_sub]; omega
    refine ⟨?_, hh, p - p0, he⟩
    rcases Int.lt_or_le (p - p0) 0 with hneg | hpos
    · have := Int.mul_le_mul_of_nonneg_left (show p - p0 ≤ -1 by omega) (show (0 : Int) ≤ y by omega)
      omega
    · have := Int.mul_le_mul_of_nonneg_left hpos (show (0 : Int) ≤ y by omega)
      omega
  · rintro ⟨hl, hh, p, hp⟩
    exact ⟨⟨p0 + p, by rw [hp, h3, Int.mul_add]; omega⟩, by omega, hh⟩

/-- The divisor and the factor that the program finds. -/
theorem eu_facts {s t : Int} (hs : 1 ≤ s) (ht : 1 ≤ t) : 1 ≤ euG s t ∧ ((euX s t).natAbs : Int) ≤ t ∧ ∃ s' m u, s = euG s t * s' ∧ t = euG s t * m ∧ 1 ≤ s' ∧ 1 ≤ m ∧ m ≤ t ∧ s' ≤ s ∧ euG s t = s * euX s t + t * u ∧ cmM t (euG s t) = m := by
  obtain ⟨h1, ⟨u, hu⟩, h3⟩ := eu_spec (a := s) (b := t) (by omega) (by omega)
  have hpos : 1 ≤ euG s t := by
    rw [h1]
    have : 0 < Int.gcd s t := Int.gcd_pos_of_ne_zero_left t (by omega)
    omega
  obtain ⟨s', hs'⟩ : euG s t ∣ s := by rw [h1]; exact Int.gcd_dvd_left s t
  obtain ⟨m, hm⟩ : euG s t ∣ t := by rw [h1]; exact Int.gcd_dvd_right s t
  generalize euG s t = g at *
  have hs1 : 1 ≤ s' := by
    rcases Int.lt_or_le 0 s' with h | h
    · omega
    · have := Int.mul_le_mul_of_nonneg_left h (show (0 : Int) ≤ g by omega); omega
  have hm1 : 1 ≤ m := by
    rcases Int.lt_or_le 0 m with h | h
    · omega
    · have := Int.mul_le_mul_of_nonneg_left h (show (0 : Int) ≤ g by omega); omega
  have h5 := Int.mul_le_mul_of_nonneg_right hpos (show (0 : Int) ≤ m by omega)
  have h6 := Int.mul_le_mul_of_nonneg_right hpos (show (0 : Int) ≤ s' by omega)
  refine ⟨hpos, by omega, s', m, u, hs', hm, hs1, hm1, by omega, by omega, hu, ?_⟩
  unfold cmM
  have : (g * m).tdiv g = m := Int.mul_tdiv_cancel_left _ (by omega)
  rw [← hm] at this
  exact this

def cmF0 (A s B t : Int) : Int := A + s * cmK A B (euG s t) (cmM t (euG s t)) (euX s t)
def cmY (s t : Int) : Int := s * cmM t (euG s t)
def cmHi (A s C B t D : Int) : Int := min (sLast A s C) (sLast B t D)
def cmV (A s B t : Int) : Int := cmUp (cmF0 A s B t) (max A B) (cmY s t)
def cmE (A s C B t D : Int) : Bool := decide (C = 0 ∨ D = 0 ∨ (B - A).tmod (euG s t) ≠ 0 ∨ cmHi A s C B t D < cmV A s B t)
def cmFst (A s C B t D : Int) : Int := if cmE A s C B t D = true then 0 else cmV A s B t
def cmBy (A s C B t D : Int) : Int := if cmE A s C B t D = true then 0 else cmY s t
def cmCnt (A s C B t D : Int) : Int := if cmE A s C B t D = true then 0 else (cmHi A s C B t D - cmV A s B t).tdiv (cmY s t) + 1
/-- A series upwards that lies in the limits, or nothing. -/
def Ser (A s C : Int) : Prop := C = 0 ∨ (1 ≤ C ∧ C ≤ 2000001 ∧ 1 ≤ s ∧ s ≤ 2000000 ∧ -1000000 ≤ A ∧ A + s * (C - 1) ≤ 1000000)
end Go.RX.Span

/- The library's slices.Equal and slices.Concat of two, of numbers. -/
set_option linter.unusedVariables false
set_option linter.unusedSimpArgs false
set_option maxRecDepth 100000
namespace Go.RX.Span
open Go Go.RX

noncomputable def eqR (n : Nat) (f : Nat → Els [.int .i64]) (n1 : Nat) (f1 : Nat → Els [.int .i64]) : Bool := @decide (n = n1 ∧ ∀ i, i < n → (f i).1 = (f1 i).1) (Classical.propDecidable _)
theorem eqR_t {n n1 : Nat} {f f1 : Nat → Els [.int .i64]} : eqR n f n1 f1 = true ↔ n = n1 ∧ ∀ i, i < n → (f i).1 = (f1 i).1 := by
  unfold eqR
  exact @decide_eq_true_iff _ (Classical.propDecidable _)
noncomputable abbrev E0 : Env := ⟨P, conOf [], scall P (conOf []) noLoops 10⟩
theorem E0_ok : EnvOK E0 := envOK (allOK mixed (fun p hp => absurd hp (by simp))) 10
theorem none_ok : ∀ p ∈ ([] : List (Nat × Con)), ConOK P p.1 p.2 := fun p hp => absurd hp (by simp)
def PreE (n0 n n1 : Nat) (len : Int) : Prop := n0 = 0 ∧ n = n1 ∧ len = n ∧ n ≤ top
structure XE where
  (n n1 : Nat) (f f1 : Nat → Els [.int .i64]) (len : Int) (k : Nat)
noncomputable def VE (x : XE) : Few := ([.row [.int .i64] x.n x.f, .row [.int .i64] x.n1 x.f1, .any, .lit (.int .i64 x.len), .lit (.int .i64 x.k)], [])
noncomputable def OE (x : XE) : Ex × Few := (.exit 0, ([.row [.int .i64] x.n x.f, .row [.int .i64] x.n1 x.f1, .any, .any, .any], []))
noncomputable def OE' : Ex × Few := (.ret, ([.any, .any, .kb false, .any, .any], []))
def PhiE (n0 : Nat) (x : XE) : Prop := (n0 = 0 ∧ x.n = x.n1 ∧ x.len = x.n ∧ x.n ≤ top) ∧ x.k ≤ x.n ∧ ∀ i, i < x.k → (x.f i).1 = (x.f1 i).1
def ZE (x : XE) (o : Ex × Few) : Prop := (eqR x.n x.f x.n1 x.f1 = true → o = OE x) ∧ (eqR x.n x.f x.n1 x.f1 = false → o = OE')
noncomputable def gE : Nat → Few → T (Ex × Few)
  | n0, ([.row [.int .i64] n f, .row [.int .i64] n1 f1, _, .lit (.int .i64 len), .ki .i64 (.ofNat 0)], []) =>
    .ask (PreE n0 n n1 len) (.br (lk eqR n f n1 f1) (.ret (.exit 0, ([.row [.int .i64] n f, .row [.int .i64] n1 f1, .any, .any, .any], []))) (.ret (.ret, ([.any, .any, .kb false, .any, .any], []))))
  | _, _ => .stuck 1
noncomputable abbrev l36 : List (Nat × Loops) := [(30, [(4, .sum (few 26 [0, 1, 4, 12, 13] gE))])]
noncomputable abbrev l37 : List (Nat × Loops) := [(37, [(3, .un 3), (11, .un 3)])]
end Go.RX.Span

/- Euclid's algorithm: the walk. -/
set_option linter.unusedVariables false
set_option linter.unusedSimpArgs false
set_option maxRecDepth 100000
namespace Go.RX.Span
open Go Go.RX

set_option maxRecDepth 100000 in
theorem t_U (n0 : Nat) (x0 x1 y0 y1 : Int) : (sx E0 [] n0 (loopOf P 127 2) (mkS 41 [6, 7] [.ptr 0 0, .ptr 1 0], [(0, some (.cells [.lit (.int .i64 x0), .lit (.int .i64 x1)] 103)), (0, some (.cells [.lit (.int .i64 y0), .lit (.int .i64 y1)] 103))])).bind (proj 41 [6, 7]) =
    T.br (U.ne y0 (0 : Int)) (.ask (y0 ≠ (0 : Int)) (.ret (Ex.normal, [SV.ptr (nat_lit 0) (nat_lit 0), SV.ptr (nat_lit 1) (nat_lit 0)], [(nat_lit 1, some (Blk.cells [.lit (.int .i64
      y0), .lit (.int .i64 y1)] (nat_lit 103))), (nat_lit 1, some (Blk.cells [.lit (.int .i64 (U.sub .i64 x0 (U.mul .i64 (U.quo .i64 x0 y0) y0))), .lit (.int .i64 (U.sub .i64 x1 (U.mul
      .i64 (U.quo .i64 x0 y0) y1)))] (nat_lit 103)))]))) (.ret (Ex.exit (nat_lit 0), [SV.ptr (nat_lit 0) (nat_lit 0), SV.ptr (nat_lit 1) (nat_lit 0)], [(nat_lit 0, some (Blk.cells [.lit
      (.int .i64 x0), .lit (.int .i64 x1)] (nat_lit 103))), (nat_lit 0, some (Blk.cells [.lit (.int .i64 y0), .lit (.int .i64 y1)] (nat_lit 103)))])) := by kernel_rfl
theorem roundU (n0 : Nat) (x : XU) (hx : PhiU n0 x) : ((sx E0 [] n0 (loopOf P 127 2) (mkS 41 [6, 7] (VU x).1, (VU x).2)).bind (proj 41 [6, 7])).All fun r => match r.1 with
      | .normal => ∃ x', PhiU n0 x' ∧ x'.k < x.k ∧ Wk 41 [6, 7] n0 r.2 (VU x') ∧ ∀ o, o = OU x' → o = OU x
      | e => ∃ s, (e, s) = OU x ∧ Wk 41 [6, 7] n0 r.2 s := by
  obtain ⟨a, b, x0, x1, y0, y1, k⟩ := x
  unfold VU
  dsimp only
  refine T.all_of_eq (t_U n0 x0 x1 y0 y1) ?_
  obtain ⟨⟨h0, ha0, ha1, hb0, hb1⟩, hi, hk, hx4, hy4⟩ := hx
  simp only [] at h0 ha0 ha1 hb0 hb1 hi hk hx4 hy4
  by_cases hy : y0 = 0
  · subst hy
    simp only [T.All, U.le_t, U.le_f, U.lt_t, U.lt_f, U.gt_t, U.gt_f, U.ge_t, U.ge_f, U.eq_t, U.eq_f, U.ne_t, U.ne_f, U.not_t, U.not_f, U.andb_t, U.andb_f, SV.lit.injEq, SV.agg.injEq, SV.tup.injEq, List.cons.injEq, Value.int.injEq, Value.bool.injEq, true_and, and_true, lk_eq]
    refine ⟨fun h => absurd rfl h, fun _ => ⟨(OU ⟨a, b, x0, x1, 0, y1, k⟩).2, rfl, ?_⟩⟩
    have e : eg k x0 x1 0 y1 = (x0, x1) := by cases k <;> simp [eg]
    refine wk_of (idR 2) rfl h0 (fun b hb => idR_of (by omega)) ⟨⟨rfl, rfl⟩, ⟨rfl, rfl⟩, trivial⟩ ⟨⟨rfl, ⟨?_, ?_, trivial⟩⟩, ⟨rfl, ⟨rl_any _, rl_any _, trivial⟩⟩, trivial⟩
    · show Value.int .i64 x0 = Value.int .i64 (eg k x0 x1 0 y1).1
      rw [e]
    · show Value.int .i64 x1 = Value.int .i64 (eg k x0 x1 0 y1).2
      rw [e]
  · obtain ⟨k', rfl⟩ : ∃ k', k = k' + 1 := ⟨k - 1, by omega⟩
    have hy' : 0 < y0 := by have := hi.hy; omega
    obtain ⟨q1, q2, q3, q4, q5, q6, q7, q8⟩ := einv_q hi.hx hy'
    have hi' := einv_step hi hy
    have hbx := hi.bx
    have hb1' := hi.b1
    have hbs := hi'.b1
    have hx0 := hi.hx
    have e1 : U.quo .i64 x0 y0 = x0.tdiv y0 := U.quo64 (by rw [q1]; unfold I64; omega)
    have e2 : U.mul .i64 (x0.tdiv y0) y0 = x0.tdiv y0 * y0 := U.mul64 (by rw [q1]; unfold I64; omega)
    have e3 : U.sub .i64 x0 (x0.tdiv y0 * y0) = x0 - x0.tdiv y0 * y0 := U.sub64 (by rw [q1]; unfold I64; omega)
    have e4 : U.mul .i64 (x0.tdiv y0) y1 = x0.tdiv y0 * y1 := U.mul64 (by unfold I64; omega)
    have e5 : U.sub .i64 x1 (x0.tdiv y0 * y1) = x1 - x0.tdiv y0 * y1 := U.sub64 (by unfold I64; omega)
    simp only [T.All, U.le_t, U.le_f, U.lt_t, U.lt_f, U.gt_t, U.gt_f, U.ge_t, U.ge_f, U.eq_t, U.eq_f, U.ne_t, U.ne_f, U.not_t, U.not_f, U.andb_t, U.andb_f, SV.lit.injEq, SV.agg.injEq, SV.tup.injEq, List.cons.injEq, Value.int.injEq, Value.bool.injEq, true_and, and_true, lk_eq, e1, e2, e3, e4, e5]
    refine ⟨fun _ => ⟨hy, ⟨a, b, y0, y1, x0 - x0.tdiv y0 * y0, x1 - x0.tdiv y0 * y1, k'⟩, ⟨⟨h0, ha0, ha1, hb0, hb1⟩, hi', ?_, hy4, ?_⟩, Nat.lt_succ_self _, ?_, fun o ho => ?_⟩, fun h => absurd h hy⟩
    · show (x0 - x0.tdiv y0 * y0).toNat < k'
      rw [q1]; omega
    · show x0 - x0.tdiv y0 * y0 ≤ 4000000
      rw [q1]; omega
    · exact wk_of (idR 2) rfl h0 (fun b hb => idR_of (by omega)) ⟨⟨rfl, rfl⟩, ⟨rfl, rfl⟩, trivial⟩ ⟨⟨rfl, ⟨rfl, rfl, trivial⟩⟩, ⟨rfl, ⟨rfl, rfl, trivial⟩⟩, trivial⟩
    · rw [ho]
      have e : eg (k' + 1) x0 x1 y0 y1 = eg k' y0 y1 (x0 - x0.tdiv y0 * y0) (x1 - x0.tdiv y0 * y1) := by rw [eg, if_neg hy]
      simp only [OU, e]
theorem loopU : LoopOK P (loopOf P 127 2) (few 41 [6, 7] gU) :=
  loop_few (E := E0) mixed E0_ok loopsOK_none 41 [6, 7] (X := XU) gU (fun _ x => VU x) PhiU (fun x => x.k) (fun _ x o => o = OU x)
    (fun n0 s r h => by
      unfold gU at h
      split at h
      · rename_i n0 g1 a g2 b
        obtain ⟨h0, ha0, ha1, hb0, hb1⟩ := (T.is_ask h).1
        obtain rfl := T.is_ret (T.is_ask h).2
        refine ⟨⟨a, b, a, 1, b, 0, b.toNat + 1⟩, ⟨⟨h0, ha0, ha1, hb0, hb1⟩, einv_start ha0 hb0, Nat.lt_succ_self _, ha1, hb1⟩, ?_, fun o ho => ?_⟩
        · exact wk_of (idR 2) rfl h0 (fun b hb => idR_of (by omega)) ⟨⟨rfl, rfl⟩, ⟨rfl, rfl⟩, trivial⟩ ⟨⟨rfl, ⟨rfl, rfl, trivial⟩⟩, ⟨rfl, ⟨rfl, rfl, trivial⟩⟩, trivial⟩
        · rw [ho]
          simp only [OU, lk_eq, euG, euX]
      · exact h.elim)
    roundU
theorem l118_ok : ∀ p ∈ l118, LoopsOK P p.2 (bodyOf P p.1) := by
  intro p hp
  simp only [l118, List.mem_singleton] at hp
  subst hp
  refine loopsOK_of (by kernel_rfl) fun k g hk => ?_
  simp only [List.mem_singleton, Prod.mk.injEq, LoopC.sum.injEq] at hk
  obtain ⟨rfl, rfl⟩ := hk
  exact loopU
noncomputable def c_euclid : Con := fun args => match args with
  | [.lit (.int .i64 a), .lit (.int .i64 b)] => .ask (0 ≤ a ∧ a ≤ 4000000 ∧ 0 ≤ b ∧ b ≤ 4000000) (.ret (.tup [.lit (.int .i64 (lk euG a b)), .lit (.int .i64 (lk euX a b))]))
  | _ => .stuck 1
set_option maxRecDepth 100000 in
theorem t_euclid (a b : Int) : conB Go.Proofs.Try.prog (conOf []) (loopsOf l118) 10 127 [.lit (.int .i64 a), .lit (.int .i64 b)] =
    T.ask (PreU (nat_lit 0) a b) (.ret (.tup [.lit (.int .i64 (lk euG a b)), .lit (.int .i64 (lk euX a b))])) := by kernel_rfl
theorem euclid_ok : ConOK P 127 c_euclid := con_of (allOKL mixed none_ok l118_ok) 10 127 fun args r h => by
  unfold c_euclid at h
  split at h
  · rename_i a b
    have hp := (T.is_ask h).1
    have h := (T.is_ask h).2
    obtain rfl := T.is_ret h
    rw [t_euclid]
    have hpre : PreU 0 a b := ⟨by omega, hp⟩
    simp only [T.All, hpre, lk_eq, true_and]
    try simp
  · exact h.elim
end Go.RX.Span

/- Ranges: the error of a range, in both texts; the reference's small functions. -/
set_option linter.unusedVariables false
set_option linter.unusedSimpArgs false
set_option maxRecDepth 100000
namespace Go.RX.Span
open Go Go.RX

theorem u64_neg {b : Int} (h0 : b < 0) (h : I64 b) : U.sub .u64 0 (U.wrap .u64 b) = -b := by
  rw [U.sub_eq, U.wrap_eq, IntKind.wrap_u64, IntKind.wrap_u64]; unfold I64 at h; omega
theorem u64_pos {b : Int} (h0 : 0 ≤ b) (h : I64 b) : U.wrap .u64 b = b := by
  rw [U.wrap_eq, IntKind.wrap_u64]; unfold I64 at h; omega
theorem u64_sub {m r : Int} (h0 : 0 ≤ r) (h1 : r ≤ m) (h : m ≤ 9223372036854775808) : U.sub .u64 m r = m - r := by
  rw [U.sub_eq, IntKind.wrap_u64]; omega
theorem u64_diff {a b : Int} (h : a < b) (ha : I64 a) (hb : I64 b) : U.wrap .u64 (U.sub .i64 b a) = b - a := by
  rw [U.sub_eq, U.wrap_eq, IntKind.wrap_u64, IntKind.wrap_i64]; unfold I64 at ha hb; omega

set_option maxRecDepth 100000 in
theorem t_Empty  : conB Go.Proofs.Try.prog (conOf []) noLoops 10 196 [] =
    T.ret (.agg [.lit (.int .i64 1), .lit (.int .i64 0), .lit (.int .i64 1)]) := by kernel_rfl
theorem Empty_ok : ConOK P 196 c_Empty := con_of (allOK mixed (l := []) (by simp)) 10 196 fun args r h => by
  unfold c_Empty at h
  split at h
  · obtain rfl := T.is_ret h
    rw [t_Empty]; simp only [T.All]
  · exact h.elim
noncomputable abbrev e0 : List (Nat × Con) := [(196, c_Empty)] --%K
theorem e0_ok : ∀ p ∈ e0, ConOK P p.1 p.2 := by simp only [e0, List.mem_singleton, forall_eq]; exact Empty_ok

set_option maxRecDepth 100000 in
theorem t_IsEmpty (a b c : Int) : conB Go.Proofs.Try.prog (conOf e0) noLoops 10 192 [.agg [.lit (.int .i64 a), .lit (.int .i64 b), .lit (.int .i64 c)]] =
    T.ret (.lit (.bool (U.andb (U.eq a (1 : Int)) (U.andb (U.eq b (0 : Int)) (U.eq c (1 : Int)))))) := by kernel_rfl
theorem IsEmpty_ok : ConOK P 192 c_IsEmpty := con_of (allOK mixed e0_ok) 10 192 fun args r h => by
  unfold c_IsEmpty at h
  split at h
  · rename_i a b c
    obtain rfl := T.is_ret h
    rw [t_IsEmpty]
    simp only [T.All, U.le_t, U.le_f, U.lt_t, U.lt_f, U.gt_t, U.gt_f, U.ge_t, U.ge_f, U.eq_t, U.eq_f, U.ne_t, U.ne_f, U.not_t, U.not_f, U.andb_t, U.andb_f, SV.lit.injEq, SV.agg.injEq, SV.tup.injEq, List.cons.injEq, Value.int.injEq, Value.bool.injEq, true_and, and_true, lk_eq]
    unfold isE
    rw [U.andb_eq, U.andb_eq, U.eq_eq, U.eq_eq, U.eq_eq, Bool.eq_iff_iff]
    simp
  · exact h.elim

set_option maxRecDepth 100000 in
theorem t_step (a b c : Int) : conB Go.Proofs.Try.prog (conOf []) noLoops 10 193 [.agg [.lit (.int .i64 a), .lit (.int .i64 b), .lit (.int .i64 c)]] =
    T.br (U.lt c (0 : Int)) (.ret (.lit (.int .i64 (U.sub .i64 0 c)))) (.ret (.lit (.int .i64 c))) := by kernel_rfl
theorem step_ok : ConOK P 193 c_step := con_of (allOK mixed (l := []) (by simp)) 10 193 fun args r h => by
  unfold c_step at h
  split at h
  · rename_i a b c
    have hp := (T.is_ask h).1
    have h := (T.is_ask h).2
    obtain rfl := T.is_ret h
    rw [t_step]
    simp only [T.All, U.le_t, U.le_f, U.lt_t, U.lt_f, U.gt_t, U.gt_f, U.ge_t, U.ge_f, U.eq_t, U.eq_f, U.ne_t, U.ne_f, U.not_t, U.not_f, U.andb_t, U.andb_f, SV.lit.injEq, SV.agg.injEq, SV.tup.injEq, List.cons.injEq, Value.int.injEq, Value.bool.injEq, true_and, and_true, lk_eq]
    unfold absI
    refine ⟨fun h => ?_, fun h => ?_⟩
    · rw [if_pos h, U.sub64 (by unfold I64 at hp ⊢; omega)]; omega
    · rw [if_neg (by omega)]
  · exact h.elim

set_option maxRecDepth 100000 in
theorem t_mod (a b : Int) : conB Go.Proofs.Try.prog (conOf []) noLoops 10 201 [.lit (.int .i64 a), .lit (.int .i64 b)] =
    T.br (U.lt b (0 : Int)) (.br (U.ge a (0 : Int)) (.ask (U.sub .u64 (0 : Int) (U.wrap .u64 b) ≠ (0 : Int)) (.ret (.lit (.int .u64 (U.rem (U.wrap .u64 a) (U.sub .u64 (0 : Int) (U.wrap
      .u64 b))))))) (.ask (U.sub .u64 (0 : Int) (U.wrap .u64 b) ≠ (0 : Int)) (.br (U.eq (U.rem (U.sub .u64 (0 : Int) (U.wrap .u64 a)) (U.sub .u64 (0 : Int) (U.wrap .u64 b))) (0 : Int))
      (.ret (.lit (.int .u64 (0 : Int)))) (.ret (.lit (.int .u64 (U.sub .u64 (U.sub .u64 (0 : Int) (U.wrap .u64 b)) (U.rem (U.sub .u64 (0 : Int) (U.wrap .u64 a)) (U.sub .u64 (0 : Int)
      (U.wrap .u64 b)))))))))) (.br (U.ge a (0 : Int)) (.ask (U.wrap .u64 b ≠ (0 : Int)) (.ret (.lit (.int .u64 (U.rem (U.wrap .u64 a) (U.wrap .u64 b)))))) (.ask (U.wrap .u64 b ≠ (0 :
      Int)) (.br (U.eq (U.rem (U.sub .u64 (0 : Int) (U.wrap .u64 a)) (U.wrap .u64 b)) (0 : Int)) (.ret (.lit (.int .u64 (0 : Int)))) (.ret (.lit (.int .u64 (U.sub .u64 (U.wrap .u64 b)
      (U.rem (U.sub .u64 (0 : Int) (U.wrap .u64 a)) (U.wrap .u64 b))))))))) := by kernel_rfl
theorem mod_ok : ConOK P 201 c_mod := con_of (allOK mixed (l := []) (by simp)) 10 201 fun args r h => by
  unfold c_mod at h
  split at h
  · rename_i a b
    have hb := (T.is_ask h).1.1
    have ha64 := (T.is_ask h).1.2.1
    have hb64 := (T.is_ask h).1.2.2
    have h := (T.is_ask h).2
    obtain rfl := T.is_ret h
    rw [t_mod]
    have core : ∀ m : Int, 0 < m → m ≤ 9223372036854775808 → (∀ x, x % m = x % b) →
        ((0 ≤ a → U.rem (U.wrap .u64 a) m = rmod a b) ∧ (a < 0 → (U.rem (U.sub .u64 0 (U.wrap .u64 a)) m = 0 → 0 = rmod a b) ∧
          (U.rem (U.sub .u64 0 (U.wrap .u64 a)) m ≠ 0 → U.sub .u64 m (U.rem (U.sub .u64 0 (U.wrap .u64 a)) m) = rmod a b))) := by
      intro m hm hm2 hmb
      unfold rmod
      refine ⟨fun h0 => by rw [u64_pos h0 ha64, U.rem_eq, tmod_pos h0, hmb], fun h0 => ?_⟩
      rw [u64_neg h0 ha64, U.rem_eq, tmod_pos (by omega)]
      refine ⟨fun h1 => by rw [← hmb]; exact (emod_neg_zero h1).symm, fun h1 => ?_⟩
      have h2 := Int.emod_nonneg (-a) (show m ≠ 0 by omega)
      have h3 := Int.emod_lt_of_pos (-a) hm
      rw [u64_sub h2 (by omega) hm2, emod_neg_lhs hm h1, hmb]
    simp only [T.All, U.le_t, U.le_f, U.lt_t, U.lt_f, U.gt_t, U.gt_f, U.ge_t, U.ge_f, U.eq_t, U.eq_f, U.ne_t, U.ne_f, U.not_t, U.not_f, U.andb_t, U.andb_f, SV.lit.injEq, SV.agg.injEq, SV.tup.injEq, List.cons.injEq, Value.int.injEq, Value.bool.injEq, true_and, and_true, lk_eq]
    have hbb : I64 b := hb64
    unfold I64 at hb64
    refine ⟨fun h0 => ?_, fun h0 => ?_⟩
    · rw [u64_neg h0 hbb]
      obtain ⟨c1, c2⟩ := core (-b) (by omega) (by omega) (fun x => Int.emod_neg x b)
      exact ⟨fun h1 => ⟨by omega, c1 h1⟩, fun h1 => ⟨by omega, (c2 h1).1, (c2 h1).2⟩⟩
    · rw [u64_pos h0 hbb]
      obtain ⟨c1, c2⟩ := core b (by omega) (by omega) (fun x => rfl)
      exact ⟨fun h1 => ⟨hb, c1 h1⟩, fun h1 => ⟨hb, (c2 h1).1, (c2 h1).2⟩⟩
  · exact h.elim

set_option maxRecDepth 100000 in
theorem t_Normal (l h s : Int) (d : Bool) : conB Go.Proofs.Try.prog (conOf e0) noLoops 10 198 [.lit (.int .i64 l), .lit (.int .i64 h), .lit (.int .i64 s), .lit (.bool d)] =
    T.br (U.gt l h) (.ret (.agg [.lit (.int .i64 1), .lit (.int .i64 0), .lit (.int .i64 1)])) (.br (U.eq l h) (.ret (.agg [.lit (.int .i64 l), .lit (.int .i64 h), .lit (.int .i64 1)]))
      (.br d (.ret (.agg [.lit (.int .i64 l), .lit (.int .i64 h), .lit (.int .i64 (U.sub .i64 0 s))])) (.ret (.agg [.lit (.int .i64 l), .lit (.int .i64 h), .lit (.int .i64 s)])))) := by kernel_rfl
theorem Normal_ok : ConOK P 198 c_Normal := con_of (allOK mixed e0_ok) 10 198 fun args r h => by
  unfold c_Normal at h
  split at h
  · rename_i l h' s d
    have hp := (T.is_ask h).1
    have h := (T.is_ask h).2
    obtain rfl := T.is_ret h
    rw [t_Normal]
    simp only [T.All, U.le_t, U.le_f, U.lt_t, U.lt_f, U.gt_t, U.gt_f, U.ge_t, U.ge_f, U.eq_t, U.eq_f, U.ne_t, U.ne_f, U.not_t, U.not_f, U.andb_t, U.andb_f, SV.lit.injEq, SV.agg.injEq, SV.tup.injEq, List.cons.injEq, Value.int.injEq, Value.bool.injEq, true_and, and_true, lk_eq]
    unfold rnL rnH rnS
    refine ⟨fun h => ?_, fun h => ⟨fun h2 => ?_, fun h2 => ⟨fun h3 => ?_, fun h3 => ?_⟩⟩⟩
    · have n1 : l ≥ h' := by omega
      simp [h, n1]
    · subst h2; simp
    · have n1 : ¬ l > h' := by omega
      have n2 : ¬ l ≥ h' := by omega
      rw [U.sub64 (by have := hp (by omega) h3; unfold I64 at this ⊢; omega)]
      simp [n1, n2, h3]
    · have n1 : ¬ l > h' := by omega
      have n2 : ¬ l ≥ h' := by omega
      simp [n1, n2, h3]
  · exact h.elim

set_option maxRecDepth 100000 in
theorem t_rwithin (n : Int) : conB Go.Proofs.Try.prog (conOf []) noLoops 10 202 [.lit (.int .i64 n)] =
    T.br (U.ge n (-1000000 : Int)) (.ret (.lit (.bool (U.le n (1000000 : Int))))) (.ret (.lit (.bool false))) := by kernel_rfl
theorem rwithin_ok : ConOK P 202 c_within := con_of (allOK mixed (l := []) (by simp)) 10 202 fun args r h => by
  unfold c_within at h
  split at h
  · rename_i n
    obtain rfl := T.is_ret h
    rw [t_rwithin]
    simp only [T.All, U.le_t, U.le_f, U.lt_t, U.lt_f, U.gt_t, U.gt_f, U.ge_t, U.ge_f, U.eq_t, U.eq_f, U.ne_t, U.ne_f, U.not_t, U.not_f, U.andb_t, U.andb_f, SV.lit.injEq, SV.agg.injEq, SV.tup.injEq, List.cons.injEq, Value.int.injEq, Value.bool.injEq, true_and, and_true, lk_eq]
    rw [U.le_eq]
    unfold lim
    refine ⟨fun h => by simp [h], fun h => ?_⟩
    have : ¬ (-1000000 ≤ n) := by omega
    simp [this]
  · exact h.elim

/-- The remainders that Check takes, in both directions. -/
theorem chk_rem {a b c : Int} (h : a < b) (ha : I64 a) (hb : I64 b) (hc : I64 c) :
    (c < 0 → U.rem (U.wrap .u64 (U.sub .i64 b a)) (U.sub .u64 0 (U.wrap .u64 c)) = (b - a) % c) ∧
    (0 ≤ c → U.rem (U.wrap .u64 (U.sub .i64 b a)) (U.wrap .u64 c) = (b - a) % c) := by
  refine ⟨fun h0 => ?_, fun h0 => ?_⟩
  · rw [u64_diff h ha hb, u64_neg h0 hc, U.rem_eq, tmod_pos (by omega), Int.emod_neg]
  · rw [u64_diff h ha hb, u64_pos h0 hc, U.rem_eq, tmod_pos (by omega)]
end Go.RX.Span

/- Ranges: Check, Size, Position, Has, Nth of the program and of the reference. -/
set_option linter.unusedVariables false
set_option linter.unusedSimpArgs false
set_option maxRecDepth 100000
namespace Go.RX.Span
open Go Go.RX

noncomputable abbrev k1 : List (Nat × Con) := [(118, c_within), (117, c_last), (112, c_of), (115, c_normal), (175, c_turned), (202, c_within), (196, c_Empty), (192, c_IsEmpty), (193, c_step), (201, c_mod), (198, c_Normal)] --%K
theorem k1_ok : ∀ p ∈ k1, ConOK P p.1 p.2 := by
  simp only [k1, List.mem_cons, List.not_mem_nil, or_false, forall_eq_or_imp, forall_eq]
  exact ⟨within_ok, last_ok, of_ok, normal_ok, turned_ok, rwithin_ok, Empty_ok, IsEmpty_ok, step_ok, mod_ok, Normal_ok⟩

set_option maxHeartbeats 2000000 in
set_option maxRecDepth 100000 in
theorem t_Check (a b c : Int) : conB Go.Proofs.Try.prog (conOf k1) noLoops 10 25 [.agg [.lit (.int .i64 a), .lit (.int .i64 b), .lit (.int .i64 c)]] =
    T.br (U.eq a b) (.br (U.not (U.andb (U.eq a (1 : Int)) (U.andb (U.eq b (0 : Int)) (U.eq c (1 : Int))))) (.br (U.not (U.eq c (1 : Int))) (.br (U.ge a b) (.ret (.lit (.int .i64 2)))
      (.br (U.eq c (0 : Int)) (.ret (.lit (.int .i64 2))) (.br (U.lt c (0 : Int)) (.ask (U.sub .u64 (0 : Int) (U.wrap .u64 c) ≠ (0 : Int)) (.br (U.ne (U.rem (U.wrap .u64 (U.sub .i64 b a))
      (U.sub .u64 (0 : Int) (U.wrap .u64 c))) (0 : Int)) (.ret (.lit (.int .i64 2))) (.br (U.not (lk lim a)) (.ret (.lit (.int .i64 4))) (.br (U.not (lk lim b)) (.ret (.lit (.int .i64
      4))) (.ret (.lit (.int .i64 0))))))) (.ask (U.wrap .u64 c ≠ (0 : Int)) (.br (U.ne (U.rem (U.wrap .u64 (U.sub .i64 b a)) (U.wrap .u64 c)) (0 : Int)) (.ret (.lit (.int .i64 2))) (.br
      (U.not (lk lim a)) (.ret (.lit (.int .i64 4))) (.br (U.not (lk lim b)) (.ret (.lit (.int .i64 4))) (.ret (.lit (.int .i64 0)))))))))) (.br (U.not (lk lim a)) (.ret (.lit (.int .i64
      4))) (.br (U.not (lk lim b)) (.ret (.lit (.int .i64 4))) (.ret (.lit (.int .i64 0)))))) (.br (U.not (lk lim a)) (.ret (.lit (.int .i64 4))) (.br (U.not (lk lim b)) (.ret (.lit (.int
      .i64 4))) (.ret (.lit (.int .i64 0)))))) (.br (U.not (U.andb (U.eq a (1 : Int)) (U.andb (U.eq b (0 : Int)) (U.eq c (1 : Int))))) (.br (U.ge a b) (.ret (.lit (.int .i64 2))) (.br
      (U.eq c (0 : Int)) (.ret (.lit (.int .i64 2))) (.br (U.lt c (0 : Int)) (.ask (U.sub .u64 (0 : Int) (U.wrap .u64 c) ≠ (0 : Int)) (.br (U.ne (U.rem (U.wrap .u64 (U.sub .i64 b a))
      (U.sub .u64 (0 : Int) (U.wrap .u64 c))) (0 : Int)) (.ret (.lit (.int .i64 2))) (.br (U.not (lk lim a)) (.ret (.lit (.int .i64 4))) (.br (U.not (lk lim b)) (.ret (.lit (.int .i64
      4))) (.ret (.lit (.int .i64 0))))))) (.ask (U.wrap .u64 c ≠ (0 : Int)) (.br (U.ne (U.rem (U.wrap .u64 (U.sub .i64 b a)) (U.wrap .u64 c)) (0 : Int)) (.ret (.lit (.int .i64 2))) (.br
      (U.not (lk lim a)) (.ret (.lit (.int .i64 4))) (.br (U.not (lk lim b)) (.ret (.lit (.int .i64 4))) (.ret (.lit (.int .i64 0)))))))))) (.br (U.not (lk lim a)) (.ret (.lit (.int .i64
      4))) (.br (U.not (lk lim b)) (.ret (.lit (.int .i64 4))) (.ret (.lit (.int .i64 0)))))) := by kernel_rfl
set_option maxHeartbeats 2000000 in
theorem Check_ok : ConOK P 25 c_Check := con_of (allOK mixed k1_ok) 10 25 fun args r h => by
  unfold c_Check at h
  split at h
  · rename_i a b c
    have ha := (T.is_ask h).1.1
    have hb := (T.is_ask h).1.2.1
    have hc := (T.is_ask h).1.2.2
    have h := (T.is_ask h).2
    obtain rfl := T.is_ret h
    rw [t_Check]
    have r1 : a < b → c < 0 → _ := fun h => (chk_rem h ha hb hc).1
    have r2 : a < b → 0 ≤ c → _ := fun h => (chk_rem h ha hb hc).2
    have n1 : c < 0 → U.sub .u64 0 (U.wrap .u64 c) = -c := fun h => u64_neg h hc
    have n2 : 0 ≤ c → U.wrap .u64 c = c := fun h => u64_pos h hc
    generalize U.rem (U.wrap .u64 (U.sub .i64 b a)) (U.sub .u64 0 (U.wrap .u64 c)) = x1 at *
    generalize U.rem (U.wrap .u64 (U.sub .i64 b a)) (U.wrap .u64 c) = x2 at *
    generalize U.sub .u64 0 (U.wrap .u64 c) = y1 at *
    generalize U.wrap .u64 c = y2 at *
    simp only [T.All, U.le_t, U.le_f, U.lt_t, U.lt_f, U.gt_t, U.gt_f, U.ge_t, U.ge_f, U.eq_t, U.eq_f, U.ne_t, U.ne_f, U.not_t, U.not_f, U.andb_t, U.andb_f, SV.lit.injEq, SV.agg.injEq, SV.tup.injEq, List.cons.injEq, Value.int.injEq, Value.bool.injEq, true_and, and_true, lk_eq, lim_t, lim_f]
    unfold chk
    generalize (b - a) % c = q at *
    clear ha hb hc h
    repeat' (first | refine And.intro ?_ ?_ | intro _)
    all_goals first
      | omega
      | (split <;> first | omega | (split <;> omega))
  · exact h.elim

set_option maxRecDepth 100000 in
theorem t_rCheck (a b c : Int) : conB Go.Proofs.Try.prog (conOf k1) noLoops 10 163 [.agg [.lit (.int .i64 a), .lit (.int .i64 b), .lit (.int .i64 c)]] =
    T.br (lk isE a b c) (.ret (.lit (.int .i64 0))) (.br (U.gt a b) (.ret (.lit (.int .i64 2))) (.br (U.eq a b) (.br (U.ne c (1 : Int)) (.ret (.lit (.int .i64 2))) (.br (U.lt a b) (.br
      (U.eq c (0 : Int)) (.ret (.lit (.int .i64 2))) (.ask (c ≠ (0 : Int) ∧ I64 b ∧ I64 c) (.ask (c ≠ (0 : Int) ∧ I64 a ∧ I64 c) (.br (U.ne (lk rmod b c) (lk rmod a c)) (.ret (.lit (.int
      .i64 2))) (.br (U.not (lk lim a)) (.ret (.lit (.int .i64 4))) (.br (U.not (lk lim b)) (.ret (.lit (.int .i64 4))) (.ret (.lit (.int .i64 0))))))))) (.br (U.not (lk lim a)) (.ret
      (.lit (.int .i64 4))) (.br (U.not (lk lim b)) (.ret (.lit (.int .i64 4))) (.ret (.lit (.int .i64 0))))))) (.br (U.lt a b) (.br (U.eq c (0 : Int)) (.ret (.lit (.int .i64 2))) (.ask
      (c ≠ (0 : Int) ∧ I64 b ∧ I64 c) (.ask (c ≠ (0 : Int) ∧ I64 a ∧ I64 c) (.br (U.ne (lk rmod b c) (lk rmod a c)) (.ret (.lit (.int .i64 2))) (.br (U.not (lk lim a)) (.ret (.lit (.int
      .i64 4))) (.br (U.not (lk lim b)) (.ret (.lit (.int .i64 4))) (.ret (.lit (.int .i64 0))))))))) (.br (U.not (lk lim a)) (.ret (.lit (.int .i64 4))) (.br (U.not (lk lim b)) (.ret
      (.lit (.int .i64 4))) (.ret (.lit (.int .i64 0)))))))) := by kernel_rfl
set_option maxHeartbeats 2000000 in
theorem rCheck_ok : ConOK P 163 c_Check := con_of (allOK mixed k1_ok) 10 163 fun args r h => by
  unfold c_Check at h
  split at h
  · rename_i a b c
    have ha := (T.is_ask h).1.1
    have hb := (T.is_ask h).1.2.1
    have hc := (T.is_ask h).1.2.2
    have h := (T.is_ask h).2
    obtain rfl := T.is_ret h
    rw [t_rCheck]
    simp only [T.All, U.le_t, U.le_f, U.lt_t, U.lt_f, U.gt_t, U.gt_f, U.ge_t, U.ge_f, U.eq_t, U.eq_f, U.ne_t, U.ne_f, U.not_t, U.not_f, U.andb_t, U.andb_f, SV.lit.injEq, SV.agg.injEq, SV.tup.injEq, List.cons.injEq, Value.int.injEq, Value.bool.injEq, true_and, and_true, lk_eq, lim_t, lim_f, isE, decide_eq_true_eq, decide_eq_false_iff_not]
    have hq : (b - a) % c = 0 ↔ rmod b c = rmod a c := emod_sub_zero
    unfold chk
    generalize (b - a) % c = q at *
    generalize rmod b c = q1 at *
    generalize rmod a c = q2 at *
    clear h
    unfold I64 at *
    repeat' (first | refine And.intro ?_ ?_ | intro _)
    all_goals first
      | assumption
      | omega
      | (split <;> first | omega | (split <;> omega))
  · exact h.elim

theorem right_c {a b c : Int} (h : Right a b c) : c ≠ 0 ∧ -2000000 ≤ c ∧ c ≤ 2000000 := by
  obtain ⟨hl, h | h | h⟩ := h
  · omega
  · omega
  · have hd := Int.dvd_of_emod_eq_zero h.2.2
    have h1 := Int.le_of_dvd (by omega) hd
    have h2 := Int.le_of_dvd (by omega) ((Int.neg_dvd).2 hd)
    omega

theorem right_of {a b c : Int} (h : Right a b c) (hne : a ≤ b) : 0 < ofC a b c := by
  have hc := right_c h
  unfold ofC
  rw [if_neg (by omega)]
  split
  · have := (div_le_self' (a := b - a) (b := -c) (by omega) (by omega)).1; omega
  · have := (div_le_self' (a := b - a) (b := c) (by omega) (by omega)).1; omega

noncomputable abbrev k2 : List (Nat × Con) := (25, c_Check) :: (163, c_Check) :: k1 --%K
theorem k2_ok : ∀ p ∈ k2, ConOK P p.1 p.2 := by
  intro p hp
  simp only [k2, List.mem_cons] at hp
  rcases hp with rfl | rfl | hp
  · exact Check_ok
  · exact rCheck_ok
  · exact k1_ok p (by simpa [k1] using hp)

set_option maxRecDepth 100000 in
theorem t_Size (a b c : Int) : conB Go.Proofs.Try.prog (conOf k2) noLoops 10 28 [.agg [.lit (.int .i64 a), .lit (.int .i64 b), .lit (.int .i64 c)]] =
    T.ask (I64 a ∧ I64 b ∧ I64 c) (.br (U.ne (lk chk a b c) (0 : Int)) (.ret (.lit (.int .i64 0))) (.ask (a ≤ b → c ≠ (0 : Int) ∧ (-9223372036854775807 : Int) ≤ c ∧ b - a <
      (9223372036854775807 : Int) ∧ I64 a ∧ I64 b ∧ I64 c) (.ret (.lit (.int .i64 (lk ofC a b c)))))) := by kernel_rfl
theorem Size_ok : ConOK P 28 c_Size := con_of (allOK mixed k2_ok) 10 28 fun args r h => by
  unfold c_Size at h
  split at h
  · rename_i a b c
    have hp := (T.is_ask h).1
    have h := (T.is_ask h).2
    obtain rfl := T.is_ret h
    rw [t_Size]
    simp only [T.All, U.le_t, U.le_f, U.lt_t, U.lt_f, U.gt_t, U.gt_f, U.ge_t, U.ge_f, U.eq_t, U.eq_f, U.ne_t, U.ne_f, U.not_t, U.not_f, U.andb_t, U.andb_f, SV.lit.injEq, SV.agg.injEq, SV.tup.injEq, List.cons.injEq, Value.int.injEq, Value.bool.injEq, true_and, and_true, lk_eq]
    unfold size
    refine ⟨hp, fun h => by rw [if_neg h], fun h => ⟨fun hab => ?_, by rw [if_pos h]⟩⟩
    have hr := chk_zero.1 h
    have hc := right_c hr
    have hl := hr.1
    exact ⟨hc.1, by omega, by omega, hp⟩
  · exact h.elim

set_option maxRecDepth 100000 in
theorem t_rSize (a b c : Int) : conB Go.Proofs.Try.prog (conOf k2) noLoops 10 143 [.agg [.lit (.int .i64 a), .lit (.int .i64 b), .lit (.int .i64 c)]] =
    T.ask (I64 a ∧ I64 b ∧ I64 c) (.br (U.ne (lk chk a b c) (0 : Int)) (.ret (.lit (.int .i64 0))) (.br (lk isE a b c) (.ret (.lit (.int .i64 0))) (.ask (I64 (-c)) (.ask (lk absI c ≠ (0
      : Int)) (.ret (.lit (.int .i64 (U.add .i64 (U.quo .i64 (U.sub .i64 b a) (lk absI c)) (1 : Int))))))))) := by kernel_rfl
theorem rSize_ok : ConOK P 143 c_Size := con_of (allOK mixed k2_ok) 10 143 fun args r h => by
  unfold c_Size at h
  split at h
  · rename_i a b c
    have hp := (T.is_ask h).1
    have h := (T.is_ask h).2
    obtain rfl := T.is_ret h
    rw [t_rSize]
    simp only [T.All, U.le_t, U.le_f, U.lt_t, U.lt_f, U.gt_t, U.gt_f, U.ge_t, U.ge_f, U.eq_t, U.eq_f, U.ne_t, U.ne_f, U.not_t, U.not_f, U.andb_t, U.andb_f, SV.lit.injEq, SV.agg.injEq, SV.tup.injEq, List.cons.injEq, Value.int.injEq, Value.bool.injEq, true_and, and_true, lk_eq, isE, decide_eq_true_eq, decide_eq_false_iff_not]
    unfold size
    refine ⟨hp, fun h => by rw [if_neg h], fun h => ⟨fun he => ?_, fun he => ?_⟩⟩
    · rw [if_pos h]; obtain ⟨rfl, rfl, rfl⟩ := he; rfl
    · have hr := chk_zero.1 h
      have hc := right_c hr
      have hl := hr.1
      have hab : a ≤ b := by have := hr.2; omega
      have ea : absI c ≠ 0 ∧ 0 < absI c ∧ absI c ≤ 2000000 := by unfold absI; split <;> omega
      have hd := div_le_self' (a := b - a) (b := absI c) (by omega) (by omega)
      refine ⟨by unfold I64; omega, ea.1, ?_⟩
      rw [if_pos h, U.sub64 (by unfold I64; omega), U.quo64 (by rw [tdiv_pos (by omega)]; unfold I64; omega), tdiv_pos (by omega), U.add64 (by unfold I64; omega)]
      have n1 : ¬ a > b := by omega
      simp only [ofC, if_neg n1, absI]
      split <;> rfl
  · exact h.elim
end Go.RX.Span

/- Ranges: Position, Has, Nth, Of of the program and of the reference. -/
set_option linter.unusedVariables false
set_option linter.unusedSimpArgs false
set_option maxRecDepth 100000
namespace Go.RX.Span
open Go Go.RX

noncomputable abbrev k3 : List (Nat × Con) := (28, c_Size) :: (143, c_Size) :: k2 --%K
theorem k3_ok : ∀ p ∈ k3, ConOK P p.1 p.2 := by
  intro p hp
  simp only [k3, List.mem_cons] at hp
  rcases hp with rfl | rfl | hp
  · exact Size_ok
  · exact rSize_ok
  · exact k2_ok p (by simpa [k2] using hp)

theorem right_dvd {a b c : Int} (h : Right a b c) (hab : a ≤ b) : c ∣ b - a := by
  obtain ⟨hl, h | h | h⟩ := h
  · omega
  · rw [h.2]; exact Int.one_dvd _
  · exact Int.dvd_of_emod_eq_zero h.2.2

theorem in_iff {a b c n : Int} (h : Right a b c) (hab : a ≤ b) : c ∣ n - b ↔ (n - a) % c = 0 := by
  have hd := right_dvd h hab
  have e : n - a = (n - b) + (b - a) := by omega
  constructor
  · intro h1; rw [e]; exact Int.emod_eq_zero_of_dvd (Int.dvd_add h1 hd)
  · intro h1
    have h2 := Int.dvd_of_emod_eq_zero h1
    rw [e] at h2
    exact (Int.dvd_add_left hd).1 h2

theorem tmod_zero {x c : Int} : x.tmod c = 0 ↔ c ∣ x := ⟨Int.dvd_of_tmod_eq_zero, fun h => Int.tmod_eq_zero_of_dvd h⟩

theorem pos_down {b c n : Int} (h : n ≤ b) (hc : c < 0) : (n - b).tdiv c = (b - n) / (-c) := by
  have e1 : n - b = -(b - n) := by omega
  have e2 : c = -(-c) := by omega
  conv => lhs; rw [e1, e2]
  rw [Int.neg_tdiv, Int.tdiv_neg, Int.neg_neg, tdiv_pos (by omega)]

set_option maxRecDepth 100000 in
theorem t_Position (a b c n : Int) : conB Go.Proofs.Try.prog (conOf k3) noLoops 10 120 [.agg [.lit (.int .i64 a), .lit (.int .i64 b), .lit (.int .i64 c)], .lit (.int .i64 n)] =
    T.ask (I64 a ∧ I64 b ∧ I64 c) (.br (U.ne (lk chk a b c) (0 : Int)) (.ret (.tup [.lit (.int .i64 0), .lit (.bool false)])) (.br (U.lt n a) (.ret (.tup [.lit (.int .i64 0), .lit
      (.bool false)])) (.br (U.gt n b) (.ret (.tup [.lit (.int .i64 0), .lit (.bool false)])) (.ask (a ≤ b → c ≠ (0 : Int) ∧ (-9223372036854775807 : Int) ≤ c ∧ b - a <
      (9223372036854775807 : Int) ∧ I64 a ∧ I64 b ∧ I64 c) (.ask (lk ofB a b c ≠ (0 : Int)) (.br (U.ne (U.rem (U.sub .i64 n (lk ofF a b c)) (lk ofB a b c)) (0 : Int)) (.ret (.tup [.lit
      (.int .i64 0), .lit (.bool false)])) (.ask (lk ofB a b c ≠ (0 : Int)) (.ret (.tup [.lit (.int .i64 (U.quo .i64 (U.sub .i64 n (lk ofF a b c)) (lk ofB a b c))), .lit (.bool
      true)]))))))))) := by kernel_rfl
theorem Position_ok : ConOK P 120 c_Position := con_of (allOK mixed k3_ok) 10 120 fun args r h => by
  unfold c_Position at h
  split at h
  · rename_i a b c n
    have hp := (T.is_ask h).1
    have h := (T.is_ask h).2
    obtain rfl := T.is_ret h
    rw [t_Position]
    simp only [T.All, U.le_t, U.le_f, U.lt_t, U.lt_f, U.gt_t, U.gt_f, U.ge_t, U.ge_f, U.eq_t, U.eq_f, U.ne_t, U.ne_f, U.not_t, U.not_f, U.andb_t, U.andb_f, SV.lit.injEq, SV.agg.injEq, SV.tup.injEq, List.cons.injEq, Value.int.injEq, Value.bool.injEq, true_and, and_true, lk_eq]
    refine ⟨hp, fun h => ?_, fun h => ⟨fun h1 => ?_, fun h1 => ⟨fun h2 => ?_, fun h2 => ?_⟩⟩⟩
    · have e : has a b c n = false := by simp [has, h]
      simp [pos, e]
    · have e : has a b c n = false := by simp [has]; omega
      simp [pos, e]
    · have e : has a b c n = false := by simp [has]; omega
      simp [pos, e]
    · have hr := chk_zero.1 h
      have hc := right_c hr
      have hl := hr.1
      have hab : a ≤ b := by omega
      have n1 : ¬ a > b := by omega
      refine ⟨fun _ => ⟨hc.1, by omega, by omega, hp⟩, by simp [ofB, n1]; exact hc.1, fun h3 => ?_, fun h3 => ⟨by simp [ofB, n1]; exact hc.1, ?_⟩⟩
      · have e : has a b c n = false := by
          simp only [ofF, ofB, if_neg n1] at h3
          rw [U.sub64 (by unfold I64; split <;> omega), U.rem_eq, Ne, tmod_zero] at h3
          simp only [has, decide_eq_false_iff_not]
          rintro ⟨_, _, _, g⟩
          split at h3
          · exact h3 ((in_iff hr hab).2 g)
          · exact h3 (Int.dvd_of_emod_eq_zero g)
        simp [pos, e]
      · simp only [ofF, ofB, if_neg n1] at h3 ⊢
        rw [U.sub64 (by unfold I64; split <;> omega), U.rem_eq, tmod_zero] at h3
        rw [U.sub64 (by unfold I64; split <;> omega)]
        have e : has a b c n = true := by
          simp only [has, decide_eq_true_eq]
          refine ⟨h, h1, h2, ?_⟩
          split at h3
          · exact (in_iff hr hab).1 h3
          · exact Int.emod_eq_zero_of_dvd h3
        by_cases hneg : c < 0
        · simp only [pos, e, if_pos hneg, if_true]
          have hd := div_le_self' (a := b - n) (b := -c) (by omega) (by omega)
          rw [U.quo64 (by rw [pos_down h2 hneg]; unfold I64; omega), pos_down h2 hneg]
          simp
        · simp only [pos, e, if_neg hneg, if_true]
          have hd := div_le_self' (a := n - a) (b := c) (by omega) (by omega)
          rw [U.quo64 (by rw [tdiv_pos (by omega)]; unfold I64; omega), tdiv_pos (by omega)]
          simp
  · exact h.elim

theorem size_pos {a b c : Int} : size a b c > 0 ↔ chk a b c = 0 ∧ a ≤ b := by
  unfold size
  split
  · rename_i h
    refine ⟨fun h1 => ⟨h, ?_⟩, fun h1 => right_of (chk_zero.1 h) h1.2⟩
    unfold ofC at h1
    split at h1 <;> omega
  · rename_i h; exact ⟨fun h1 => by omega, fun h1 => absurd h1.1 h⟩

set_option maxRecDepth 100000 in
theorem t_rHas (a b c n : Int) : conB Go.Proofs.Try.prog (conOf k3) noLoops 10 168 [.agg [.lit (.int .i64 a), .lit (.int .i64 b), .lit (.int .i64 c)], .lit (.int .i64 n)] =
    T.ask (I64 a ∧ I64 b ∧ I64 c) (.br (U.gt (lk size a b c) (0 : Int)) (.br (U.ge n a) (.br (U.le n b) (.ask (I64 (-c)) (.ask (lk absI c ≠ (0 : Int)) (.ret (.lit (.bool (U.eq (U.rem
      (U.sub .i64 n a) (lk absI c)) (0 : Int))))))) (.ret (.lit (.bool false)))) (.ret (.lit (.bool false)))) (.ret (.lit (.bool false)))) := by kernel_rfl
theorem rHas_ok : ConOK P 168 c_Has := con_of (allOK mixed k3_ok) 10 168 fun args r h => by
  unfold c_Has at h
  split at h
  · rename_i a b c n
    have hp := (T.is_ask h).1
    have h := (T.is_ask h).2
    obtain rfl := T.is_ret h
    rw [t_rHas]
    simp only [T.All, U.le_t, U.le_f, U.lt_t, U.lt_f, U.gt_t, U.gt_f, U.ge_t, U.ge_f, U.eq_t, U.eq_f, U.ne_t, U.ne_f, U.not_t, U.not_f, U.andb_t, U.andb_f, SV.lit.injEq, SV.agg.injEq, SV.tup.injEq, List.cons.injEq, Value.int.injEq, Value.bool.injEq, true_and, and_true, lk_eq]
    refine ⟨hp, fun h => ?_, fun h => ?_⟩
    · obtain ⟨h0, hab⟩ := size_pos.1 h
      have hr := chk_zero.1 h0
      have hc := right_c hr
      have hl := hr.1
      refine ⟨fun h1 => ⟨fun h2 => ⟨by unfold I64; omega, by unfold absI; split <;> omega, ?_⟩, fun h2 => ?_⟩, fun h1 => ?_⟩
      · have ea : absI c ≠ 0 := by unfold absI; split <;> omega
        have edvd : absI c ∣ n - a ↔ c ∣ n - a := by
          unfold absI; split
          · exact Int.neg_dvd
          · rfl
        rw [U.sub64 (by unfold I64; omega), U.rem_eq, U.eq_eq, Bool.eq_iff_iff]
        simp only [has, decide_eq_true_eq, beq_iff_eq]
        rw [tmod_zero, edvd]
        exact ⟨fun g => ⟨h0, h1, h2, Int.emod_eq_zero_of_dvd g⟩, fun g => Int.dvd_of_emod_eq_zero g.2.2.2⟩
      · simp [has]; omega
      · simp [has]; omega
    · have e : ¬ (chk a b c = 0 ∧ a ≤ b) := fun g => by have := size_pos.2 g; omega
      simp only [has]
      refine (decide_eq_false ?_).symm
      rintro ⟨g1, g2, g3, _⟩
      exact e ⟨g1, by omega⟩
  · exact h.elim

noncomputable abbrev k4 : List (Nat × Con) := (120, c_Position) :: (168, c_Has) :: k3 --%K
theorem k4_ok : ∀ p ∈ k4, ConOK P p.1 p.2 := by
  intro p hp
  simp only [k4, List.mem_cons] at hp
  rcases hp with rfl | rfl | hp
  · exact Position_ok
  · exact rHas_ok
  · exact k3_ok p (by simpa [k3] using hp)

set_option maxRecDepth 100000 in
theorem t_Has (a b c n : Int) : conB Go.Proofs.Try.prog (conOf k4) noLoops 10 27 [.agg [.lit (.int .i64 a), .lit (.int .i64 b), .lit (.int .i64 c)], .lit (.int .i64 n)] =
    T.ask (I64 a ∧ I64 b ∧ I64 c) (.ret (.lit (.bool (lk has a b c n)))) := by kernel_rfl
theorem Has_ok : ConOK P 27 c_Has := con_of (allOK mixed k4_ok) 10 27 fun args r h => by
  unfold c_Has at h
  split at h
  · rename_i a b c n
    have hp := (T.is_ask h).1
    have h := (T.is_ask h).2
    obtain rfl := T.is_ret h
    rw [t_Has]
    simp only [T.All, U.le_t, U.le_f, U.lt_t, U.lt_f, U.gt_t, U.gt_f, U.ge_t, U.ge_f, U.eq_t, U.eq_f, U.ne_t, U.ne_f, U.not_t, U.not_f, U.andb_t, U.andb_f, SV.lit.injEq, SV.agg.injEq, SV.tup.injEq, List.cons.injEq, Value.int.injEq, Value.bool.injEq, true_and, and_true, lk_eq]
    exact hp
  · exact h.elim

set_option maxRecDepth 100000 in
theorem t_rPosition (a b c n : Int) : conB Go.Proofs.Try.prog (conOf k4) noLoops 10 166 [.agg [.lit (.int .i64 a), .lit (.int .i64 b), .lit (.int .i64 c)], .lit (.int .i64 n)] =
    T.ask (I64 a ∧ I64 b ∧ I64 c) (.br (U.not (lk has a b c n)) (.ret (.tup [.lit (.int .i64 0), .lit (.bool false)])) (.br (U.lt c (0 : Int)) (.ask (I64 (-c)) (.ask (lk absI c ≠ (0 :
      Int)) (.ret (.tup [.lit (.int .i64 (U.quo .i64 (U.sub .i64 b n) (lk absI c))), .lit (.bool true)])))) (.ask (I64 (-c)) (.ask (lk absI c ≠ (0 : Int)) (.ret (.tup [.lit (.int .i64
      (U.quo .i64 (U.sub .i64 n a) (lk absI c))), .lit (.bool true)])))))) := by kernel_rfl
theorem rPosition_ok : ConOK P 166 c_Position := con_of (allOK mixed k4_ok) 10 166 fun args r h => by
  unfold c_Position at h
  split at h
  · rename_i a b c n
    have hp := (T.is_ask h).1
    have h := (T.is_ask h).2
    obtain rfl := T.is_ret h
    rw [t_rPosition]
    simp only [T.All, U.le_t, U.le_f, U.lt_t, U.lt_f, U.gt_t, U.gt_f, U.ge_t, U.ge_f, U.eq_t, U.eq_f, U.ne_t, U.ne_f, U.not_t, U.not_f, U.andb_t, U.andb_f, SV.lit.injEq, SV.agg.injEq, SV.tup.injEq, List.cons.injEq, Value.int.injEq, Value.bool.injEq, true_and, and_true, lk_eq]
    refine ⟨hp, fun h => ?_, fun h => ?_⟩
    · simp [pos, h]
    · have g := h
      simp only [has, decide_eq_true_eq] at g
      obtain ⟨h0, h1, h2, h3⟩ := g
      have hr := chk_zero.1 h0
      have hc := right_c hr
      have hl := hr.1
      have i64c : I64 (-c) := by unfold I64; omega
      refine ⟨fun hneg => ⟨i64c, ?_⟩, fun hneg => ⟨i64c, ?_⟩⟩
      · have ea : absI c = -c := by simp [absI, hneg]
        rw [ea]
        have hd := div_le_self' (a := b - n) (b := -c) (by omega) (by omega)
        rw [U.sub64 (by unfold I64; omega), U.quo64 (by rw [tdiv_pos (by omega)]; unfold I64; omega), tdiv_pos (by omega)]
        simp only [pos, h, if_true, if_pos hneg]
        exact ⟨by omega, by simp⟩
      · have n2 : ¬ c < 0 := by omega
        have ea : absI c = c := by simp [absI, n2]
        rw [ea]
        have hd := div_le_self' (a := n - a) (b := c) (by omega) (by omega)
        rw [U.sub64 (by unfold I64; omega), U.quo64 (by rw [tdiv_pos (by omega)]; unfold I64; omega), tdiv_pos (by omega)]
        simp only [pos, h, if_true, if_neg n2]
        exact ⟨by omega, by simp⟩
  · exact h.elim

theorem nth_in {a b c k : Int} (hr : Right a b c) (hab : a ≤ b) (h0 : 0 ≤ k) (h1 : k < ofC a b c) :
    a ≤ ofF a b c + ofB a b c * k ∧ ofF a b c + ofB a b c * k ≤ b := by
  have hc := right_c hr
  have n1 : ¬ a > b := by omega
  unfold ofC at h1
  simp only [ofF, ofB, if_neg n1] at h1 ⊢
  by_cases hneg : c < 0
  · simp only [if_pos hneg] at h1 ⊢
    have := Int.mul_ediv_self_le (x := b - a) (k := -c) (by omega)
    have h2 : -c * k ≤ -c * ((b - a) / -c) := Int.mul_le_mul_of_nonneg_left (by omega) (by omega)
    have h3 : 0 ≤ -c * k := Int.mul_nonneg (by omega) h0
    rw [Int.neg_mul] at h2 h3
    omega
  · simp only [if_neg hneg] at h1 ⊢
    have := Int.mul_ediv_self_le (x := b - a) (k := c) (by omega)
    have h2 : c * k ≤ c * ((b - a) / c) := Int.mul_le_mul_of_nonneg_left (by omega) (by omega)
    have h3 : 0 ≤ c * k := Int.mul_nonneg (by omega) h0
    omega

theorem ofC_pos {a b c k : Int} (h0 : 0 ≤ k) (h1 : k < ofC a b c) : a ≤ b := by
  unfold ofC at h1
  split at h1 <;> omega

set_option maxRecDepth 100000 in
theorem t_Nth (a b c k : Int) : conB Go.Proofs.Try.prog (conOf k4) noLoops 10 151 [.agg [.lit (.int .i64 a), .lit (.int .i64 b), .lit (.int .i64 c)], .lit (.int .i64 k)] =
    T.ask (I64 a ∧ I64 b ∧ I64 c) (.br (U.ne (lk chk a b c) (0 : Int)) (.ret (.tup [.lit (.int .i64 0), .lit (.int .i64 (lk chk a b c))])) (.ask (a ≤ b → c ≠ (0 : Int) ∧
      (-9223372036854775807 : Int) ≤ c ∧ b - a < (9223372036854775807 : Int) ∧ I64 a ∧ I64 b ∧ I64 c) (.br (U.lt k (0 : Int)) (.ret (.tup [.lit (.int .i64 0), .lit (.int .i64 4)])) (.br
      (U.ge k (lk ofC a b c)) (.ret (.tup [.lit (.int .i64 0), .lit (.int .i64 4)])) (.ret (.tup [.lit (.int .i64 (U.add .i64 (lk ofF a b c) (U.mul .i64 (lk ofB a b c) k))), .lit (.int
      .i64 0)])))))) := by kernel_rfl
theorem Nth_ok : ConOK P 151 c_Nth := con_of (allOK mixed k4_ok) 10 151 fun args r h => by
  unfold c_Nth at h
  split at h
  · rename_i a b c k
    have hp := (T.is_ask h).1
    have h := (T.is_ask h).2
    obtain rfl := T.is_ret h
    rw [t_Nth]
    simp only [T.All, U.le_t, U.le_f, U.lt_t, U.lt_f, U.gt_t, U.gt_f, U.ge_t, U.ge_f, U.eq_t, U.eq_f, U.ne_t, U.ne_f, U.not_t, U.not_f, U.andb_t, U.andb_f, SV.lit.injEq, SV.agg.injEq, SV.tup.injEq, List.cons.injEq, Value.int.injEq, Value.bool.injEq, true_and, and_true, lk_eq]
    refine ⟨hp, fun h => ?_, fun h => ⟨fun hab => ?_, fun h1 => ?_, fun h1 => ⟨fun h2 => ?_, fun h2 => ?_⟩⟩⟩
    · simp [nth, nthE, h]
    · have hr := chk_zero.1 h
      have hc := right_c hr
      have hl := hr.1
      exact ⟨hc.1, by omega, by omega, hp⟩
    · simp [nth, nthE, h, h1]
    · simp [nth, nthE, h, h2]
    · have hr := chk_zero.1 h
      have hc := right_c hr
      have hl := hr.1
      have hab := ofC_pos h1 h2
      have hin := nth_in hr hab h1 h2
      have e : ¬ (k < 0 ∨ k ≥ ofC a b c) := by omega
      have hF : a ≤ ofF a b c ∧ ofF a b c ≤ b := by unfold ofF; split; · omega
                                                    · split <;> omega
      rw [U.mul64 (by unfold I64; omega), U.add64 (by unfold I64; omega)]
      simp [nth, nthE, h, e]
  · exact h.elim

set_option maxRecDepth 100000 in
theorem t_rNth (a b c k : Int) : conB Go.Proofs.Try.prog (conOf k4) noLoops 10 165 [.agg [.lit (.int .i64 a), .lit (.int .i64 b), .lit (.int .i64 c)], .lit (.int .i64 k)] =
    T.ask (I64 a ∧ I64 b ∧ I64 c) (.br (U.ne (lk chk a b c) (0 : Int)) (.ret (.tup [.lit (.int .i64 0), .lit (.int .i64 (lk chk a b c))])) (.br (U.lt k (0 : Int)) (.ret (.tup [.lit
      (.int .i64 0), .lit (.int .i64 4)])) (.ask (I64 a ∧ I64 b ∧ I64 c) (.br (U.ge k (lk size a b c)) (.ret (.tup [.lit (.int .i64 0), .lit (.int .i64 4)])) (.br (U.lt c (0 : Int)) (.ret
      (.tup [.lit (.int .i64 (U.add .i64 b (U.mul .i64 k c))), .lit (.int .i64 0)])) (.ret (.tup [.lit (.int .i64 (U.add .i64 a (U.mul .i64 k c))), .lit (.int .i64 0)]))))))) := by kernel_rfl
theorem rNth_ok : ConOK P 165 c_Nth := con_of (allOK mixed k4_ok) 10 165 fun args r h => by
  unfold c_Nth at h
  split at h
  · rename_i a b c k
    have hp := (T.is_ask h).1
    have h := (T.is_ask h).2
    obtain rfl := T.is_ret h
    rw [t_rNth]
    simp only [T.All, U.le_t, U.le_f, U.lt_t, U.lt_f, U.gt_t, U.gt_f, U.ge_t, U.ge_f, U.eq_t, U.eq_f, U.ne_t, U.ne_f, U.not_t, U.not_f, U.andb_t, U.andb_f, SV.lit.injEq, SV.agg.injEq, SV.tup.injEq, List.cons.injEq, Value.int.injEq, Value.bool.injEq, true_and, and_true, lk_eq]
    refine ⟨hp, fun h => ?_, fun h => ⟨fun h1 => ?_, fun h1 => ⟨hp, fun h2 => ?_, fun h2 => ?_⟩⟩⟩
    · simp [nth, nthE, h]
    · simp [nth, nthE, h, h1]
    · simp only [size, h, if_true] at h2
      simp [nth, nthE, h, h2]
    · simp only [size, h, if_true] at h2
      have hr := chk_zero.1 h
      have hc := right_c hr
      have hl := hr.1
      have hab := ofC_pos h1 h2
      have hin := nth_in hr hab h1 h2
      have n1 : ¬ a > b := by omega
      have e : ¬ (k < 0 ∨ k ≥ ofC a b c) := by omega
      refine ⟨fun hneg => ?_, fun hneg => ?_⟩
      · simp only [ofF, ofB, if_neg n1, if_pos hneg] at hin
        rw [U.mul64 (by rw [Int.mul_comm]; unfold I64; omega), Int.mul_comm k c, U.add64 (by unfold I64; omega)]
        simp [nth, nthE, h, e, ofF, ofB, n1, hneg]
      · have n2 : ¬ c < 0 := by omega
        simp only [ofF, ofB, if_neg n1, if_neg n2] at hin
        rw [U.mul64 (by rw [Int.mul_comm]; unfold I64; omega), Int.mul_comm k c, U.add64 (by unfold I64; omega)]
        simp [nth, nthE, h, e, ofF, ofB, n1, n2]
  · exact h.elim
end Go.RX.Span

/- Ranges: Of of the program and of the reference. -/
set_option linter.unusedVariables false
set_option linter.unusedSimpArgs false
set_option maxRecDepth 100000
namespace Go.RX.Span
open Go Go.RX

theorem of_bnd {x s : Int} (h0 : 0 ≤ x) (hs : 0 < s) : 0 ≤ x / s ∧ x / s ≤ x ∧ 0 ≤ s * (x / s) ∧ s * (x / s) ≤ x := by
  have h1 := div_le_self' (a := x) (b := s) h0 hs
  have h2 := Int.mul_ediv_self_le (x := x) (k := s) (by omega)
  have h3 : 0 ≤ s * (x / s) := Int.mul_nonneg (by omega) h1.1
  omega

set_option maxRecDepth 100000 in
theorem t_Of (l h s : Int) : conB Go.Proofs.Try.prog (conOf k4) noLoops 10 108 [.lit (.int .i64 l), .lit (.int .i64 h), .lit (.int .i64 s)] =
    T.br (U.eq s (0 : Int)) (.ret (.tup [.agg [.lit (.int .i64 0), .lit (.int .i64 0), .lit (.int .i64 0)], .lit (.int .i64 1)])) (.br (U.not (lk lim l)) (.ret (.tup [.agg [.lit (.int
      .i64 0), .lit (.int .i64 0), .lit (.int .i64 0)], .lit (.int .i64 4)])) (.br (U.not (lk lim h)) (.ret (.tup [.agg [.lit (.int .i64 0), .lit (.int .i64 0), .lit (.int .i64 0)], .lit
      (.int .i64 4)])) (.br (U.not (lk lim s)) (.ret (.tup [.agg [.lit (.int .i64 0), .lit (.int .i64 0), .lit (.int .i64 0)], .lit (.int .i64 4)])) (.br (U.gt l h) (.ask ((0 : Int) < (0
      : Int) → I64 ((0 : Int) - (1 : Int)) ∧ I64 ((0 : Int) * ((0 : Int) - (1 : Int))) ∧ I64 ((0 : Int) + (0 : Int) * ((0 : Int) - (1 : Int)))) (.ret (.tup [.agg [.lit (.int .i64 (lk nLow
      (0 : Int) (0 : Int) (0 : Int))), .lit (.int .i64 (lk nHigh (0 : Int) (0 : Int) (0 : Int))), .lit (.int .i64 (lk nStr (0 : Int) (0 : Int) (0 : Int)))], .lit (.int .i64 (lk nErr (0 :
      Int) (0 : Int) (0 : Int)))]))) (.br (U.lt s (0 : Int)) (.ask (U.sub .i64 0 s ≠ (0 : Int)) (.ask ((0 : Int) < U.add .i64 (U.quo .i64 (U.sub .i64 h l) (U.sub .i64 0 s)) (1 : Int) →
      I64 (U.add .i64 (U.quo .i64 (U.sub .i64 h l) (U.sub .i64 0 s)) (1 : Int) - (1 : Int)) ∧ I64 (s * (U.add .i64 (U.quo .i64 (U.sub .i64 h l) (U.sub .i64 0 s)) (1 : Int) - (1 : Int))) ∧
      I64 (h + s * (U.add .i64 (U.quo .i64 (U.sub .i64 h l) (U.sub .i64 0 s)) (1 : Int) - (1 : Int)))) (.ret (.tup [.agg [.lit (.int .i64 (lk nLow h s (U.add .i64 (U.quo .i64 (U.sub .i64
      h l) (U.sub .i64 0 s)) (1 : Int)))), .lit (.int .i64 (lk nHigh h s (U.add .i64 (U.quo .i64 (U.sub .i64 h l) (U.sub .i64 0 s)) (1 : Int)))), .lit (.int .i64 (lk nStr h s (U.add .i64
      (U.quo .i64 (U.sub .i64 h l) (U.sub .i64 0 s)) (1 : Int))))], .lit (.int .i64 (lk nErr h s (U.add .i64 (U.quo .i64 (U.sub .i64 h l) (U.sub .i64 0 s)) (1 : Int))))])))) (.ask (s ≠ (0
      : Int)) (.ask ((0 : Int) < U.add .i64 (U.quo .i64 (U.sub .i64 h l) s) (1 : Int) → I64 (U.add .i64 (U.quo .i64 (U.sub .i64 h l) s) (1 : Int) - (1 : Int)) ∧ I64 (s * (U.add .i64
      (U.quo .i64 (U.sub .i64 h l) s) (1 : Int) - (1 : Int))) ∧ I64 (l + s * (U.add .i64 (U.quo .i64 (U.sub .i64 h l) s) (1 : Int) - (1 : Int)))) (.ret (.tup [.agg [.lit (.int .i64 (lk
      nLow l s (U.add .i64 (U.quo .i64 (U.sub .i64 h l) s) (1 : Int)))), .lit (.int .i64 (lk nHigh l s (U.add .i64 (U.quo .i64 (U.sub .i64 h l) s) (1 : Int)))), .lit (.int .i64 (lk nStr l
      s (U.add .i64 (U.quo .i64 (U.sub .i64 h l) s) (1 : Int))))], .lit (.int .i64 (lk nErr l s (U.add .i64 (U.quo .i64 (U.sub .i64 h l) s) (1 : Int))))]))))))))) := by kernel_rfl
theorem Of_ok : ConOK P 108 c_Of := con_of (allOK mixed k4_ok) 10 108 fun args r h => by
  unfold c_Of at h
  split at h
  · rename_i l h' s
    obtain rfl := T.is_ret h
    rw [t_Of]
    simp only [T.All, U.le_t, U.le_f, U.lt_t, U.lt_f, U.gt_t, U.gt_f, U.ge_t, U.ge_f, U.eq_t, U.eq_f, U.ne_t, U.ne_f, U.not_t, U.not_f, U.andb_t, U.andb_f, SV.lit.injEq, SV.agg.injEq, SV.tup.injEq, List.cons.injEq, Value.int.injEq, Value.bool.injEq, true_and, and_true, lk_eq, lim_t, lim_f]
    refine ⟨fun h => ?_, fun h => ⟨fun h1 => ?_, fun h1 => ⟨fun h2 => ?_, fun h2 => ⟨fun h3 => ?_, fun h3 => ⟨fun h4 => ?_, fun h4 => ⟨fun h5 => ?_, fun h5 => ?_⟩⟩⟩⟩⟩⟩
    · simp [ofLow, ofHigh, ofStr, ofErr, h]
    · have e : ofErr l h' s = 4 := by unfold ofErr; rw [if_neg h, if_neg (by omega)]
      simp [ofLow, ofHigh, ofStr, e]
    · have e : ofErr l h' s = 4 := by unfold ofErr; rw [if_neg h, if_neg (by omega)]
      simp [ofLow, ofHigh, ofStr, e]
    · have e : ofErr l h' s = 4 := by unfold ofErr; rw [if_neg h, if_neg (by omega)]
      simp [ofLow, ofHigh, ofStr, e]
    · have e : ofErr l h' s = 0 := by unfold ofErr; rw [if_neg h, if_pos (by omega)]
      refine ⟨fun g => by omega, ?_⟩
      simp [ofLow, ofHigh, ofStr, e, h4, nLow, nHigh, nStr, nErr]
    all_goals
      have e : ofErr l h' s = 0 := by unfold ofErr; rw [if_neg h, if_pos (by omega)]
      have n1 : ¬ l > h' := by omega
    · obtain ⟨b1, b2, b3, b4⟩ := of_bnd (x := h' - l) (s := -s) (by omega) (by omega)
      have e1 : U.sub .i64 0 s = -s := by rw [U.sub64 (by unfold I64; omega)]; omega
      rw [e1, U.sub64 (by unfold I64; omega), U.quo64 (by rw [tdiv_pos (by omega)]; unfold I64; omega), tdiv_pos (by omega), U.add64 (by unfold I64; omega)]
      have es : sLast h' s ((h' - l) / -s + 1) = h' - (h' - l) / (-s) * (-s) := by
        unfold sLast
        rw [show (h' - l) / -s + 1 - 1 = (h' - l) / -s by omega, Int.mul_comm ((h' - l) / -s) (-s), Int.neg_mul]; omega
      have ec : (h' - l) / (-s) * (-s) = -s * ((h' - l) / -s) := Int.mul_comm _ _
      have em : s * ((h' - l) / -s) = -(-s * ((h' - l) / -s)) := by rw [Int.neg_mul]; omega
      refine ⟨by omega, fun _ => ?_, ?_⟩
      · rw [show (h' - l) / -s + 1 - 1 = (h' - l) / -s by omega, em]
        generalize -s * ((h' - l) / -s) = z at *
        unfold I64; omega
      · have ne : nErr h' s ((h' - l) / -s + 1) = 0 := by
          unfold nErr; rw [if_neg (by omega), es, ec]
          generalize -s * ((h' - l) / -s) = z at *
          rw [if_pos (by omega)]
        have n2 : ¬ ((h' - l) / -s + 1 ≤ 0) := by omega
        simp only [nLow, nHigh, nStr, ofLow, ofHigh, ofStr, ne, e, es, if_neg n1, if_neg n2, if_pos h5, ne_eq, not_true_eq_false, if_false, if_true]
        refine ⟨⟨?_, ?_, ?_⟩, trivial⟩
        · rw [ec]; generalize -s * ((h' - l) / -s) = z at *; omega
        · rw [ec]; generalize -s * ((h' - l) / -s) = z at *; omega
        · by_cases h0 : (h' - l) / -s = 0
          · rw [if_pos (by omega), if_pos (by rw [h0]; omega)]
          · rw [if_neg (by omega), if_neg]
            rw [ec]
            have : 0 < -s * ((h' - l) / -s) := Int.mul_pos (by omega) (by omega)
            omega
    · obtain ⟨b1, b2, b3, b4⟩ := of_bnd (x := h' - l) (s := s) (by omega) (by omega)
      have n3 : ¬ s < 0 := by omega
      rw [U.sub64 (by unfold I64; omega), U.quo64 (by rw [tdiv_pos (by omega)]; unfold I64; omega), tdiv_pos (by omega), U.add64 (by unfold I64; omega)]
      have ec : (h' - l) / s * s = s * ((h' - l) / s) := Int.mul_comm _ _
      have es : sLast l s ((h' - l) / s + 1) = l + (h' - l) / s * s := by
        unfold sLast
        rw [show (h' - l) / s + 1 - 1 = (h' - l) / s by omega, ec]
      refine ⟨h, fun _ => ?_, ?_⟩
      · rw [show (h' - l) / s + 1 - 1 = (h' - l) / s by omega]
        generalize s * ((h' - l) / s) = z at *
        unfold I64; omega
      · have ne : nErr l s ((h' - l) / s + 1) = 0 := by
          unfold nErr; rw [if_neg (by omega), es, ec]
          generalize s * ((h' - l) / s) = z at *
          rw [if_pos (by omega)]
        have n2 : ¬ ((h' - l) / s + 1 ≤ 0) := by omega
        simp only [nLow, nHigh, nStr, ofLow, ofHigh, ofStr, ne, e, es, if_neg n1, if_neg n2, if_neg n3, ne_eq, not_true_eq_false, if_false, if_true]
        refine ⟨⟨?_, ?_, ?_⟩, trivial⟩
        · rw [ec]; generalize s * ((h' - l) / s) = z at *; omega
        · rw [ec]; generalize s * ((h' - l) / s) = z at *; omega
        · by_cases h0 : (h' - l) / s = 0
          · rw [if_pos (by omega), if_pos (by rw [h0]; omega)]
          · rw [if_neg (by omega), if_neg]
            rw [ec]
            have : 0 < s * ((h' - l) / s) := Int.mul_pos (by omega) (by omega)
            omega
  · exact h.elim

end Go.RX.Span

/- Ranges: By of the program; the examples; the law of layer 1's positions. -/
set_option linter.unusedVariables false
set_option linter.unusedSimpArgs false
set_option maxRecDepth 100000
namespace Go.RX.Span
open Go Go.RX

noncomputable abbrev k5 : List (Nat × Con) := (108, c_Of) :: (151, c_Nth) :: (165, c_Nth) :: (166, c_Position) :: (27, c_Has) :: k4 --%K
theorem k5_ok : ∀ p ∈ k5, ConOK P p.1 p.2 := by
  intro p hp
  simp only [k5, List.mem_cons] at hp
  rcases hp with rfl | rfl | rfl | rfl | rfl | hp
  · exact Of_ok
  · exact Nth_ok
  · exact rNth_ok
  · exact rPosition_ok
  · exact Has_ok
  · exact k4_ok p (by simpa [k4] using hp)

theorem mul_bnd {x y X Y : Int} (hx : -X ≤ x ∧ x ≤ X) (hy : -Y ≤ y ∧ y ≤ Y) : -(X * Y) ≤ x * y ∧ x * y ≤ X * Y := by
  have h : (x * y).natAbs ≤ X.natAbs * Y.natAbs := by
    rw [Int.natAbs_mul]; exact Nat.mul_le_mul (by omega) (by omega)
  have e : ((X.natAbs * Y.natAbs : Nat) : Int) = X * Y := by
    rw [Int.natCast_mul, Int.natAbs_of_nonneg (by omega), Int.natAbs_of_nonneg (by omega)]
  omega

theorem series_of {a b c : Int} (hr : Right a b c) (hab : a ≤ b) :
    0 < ofC a b c ∧ ofC a b c ≤ 2000001 ∧ (-2000000 ≤ ofB a b c ∧ ofB a b c ≤ 2000000) ∧ (a ≤ ofF a b c ∧ ofF a b c ≤ b) ∧
    ∀ k, 0 ≤ k → k < ofC a b c → a ≤ ofF a b c + ofB a b c * k ∧ ofF a b c + ofB a b c * k ≤ b := by
  have hc := right_c hr
  have hl := hr.1
  have n1 : ¬ a > b := by omega
  refine ⟨right_of hr hab, ?_, ?_, ?_, fun k h0 h1 => nth_in hr hab h0 h1⟩
  · unfold ofC
    rw [if_neg n1]
    split
    · have := (div_le_self' (a := b - a) (b := -c) (by omega) (by omega)).2; omega
    · have := (div_le_self' (a := b - a) (b := c) (by omega) (by omega)).2; omega
  · simp only [ofB, if_neg n1]; omega
  · simp only [ofF, if_neg n1]; split <;> omega

theorem div_up {C m : Int} (hC : 0 < C) (hm : 0 < m) : (C + m - 1) / m - 1 = (C - 1) / m ∧ 0 ≤ (C - 1) / m ∧ (C - 1) / m ≤ C - 1 ∧ 0 ≤ m * ((C - 1) / m) ∧ m * ((C - 1) / m) ≤ C - 1 := by
  have h1 : (C + m - 1) / m = (C - 1) / m + 1 := by
    rw [show C + m - 1 = (C - 1) + m * 1 by omega, Int.add_mul_ediv_left _ _ (by omega)]
  have h2 := of_bnd (x := C - 1) (s := m) (by omega) hm
  omega

theorem empty_of {a b c : Int} (h : ¬ a ≤ b) : ofF a b c = 0 ∧ ofB a b c = 0 ∧ ofC a b c = 0 := by
  have n1 : a > b := by omega
  simp [ofF, ofB, ofC, n1]

set_option maxRecDepth 100000 in
theorem t_By (a b c n : Int) : conB Go.Proofs.Try.prog (conOf k5) noLoops 10 109 [.agg [.lit (.int .i64 a), .lit (.int .i64 b), .lit (.int .i64 c)], .lit (.int .i64 n)] =
    T.ask (I64 a ∧ I64 b ∧ I64 c) (.br (U.ne (lk chk a b c) (0 : Int)) (.ret (.tup [.agg [.lit (.int .i64 0), .lit (.int .i64 0), .lit (.int .i64 0)], .lit (.int .i64 (lk chk a b c))]))
      (.br (U.eq n (0 : Int)) (.ret (.tup [.agg [.lit (.int .i64 0), .lit (.int .i64 0), .lit (.int .i64 0)], .lit (.int .i64 1)])) (.br (U.not (lk lim n)) (.ret (.tup [.agg [.lit (.int
      .i64 0), .lit (.int .i64 0), .lit (.int .i64 0)], .lit (.int .i64 4)])) (.ask (a ≤ b → c ≠ (0 : Int) ∧ (-9223372036854775807 : Int) ≤ c ∧ b - a < (9223372036854775807 : Int) ∧ I64 a
      ∧ I64 b ∧ I64 c) (.br (U.lt n (0 : Int)) (.ask (lk ofC a b c ≠ (0 : Int) → I64 (lk ofC a b c - (1 : Int)) ∧ I64 (lk ofB a b c * (lk ofC a b c - (1 : Int))) ∧ I64 (lk ofF a b c + lk
      ofB a b c * (lk ofC a b c - (1 : Int))) ∧ I64 (-lk ofB a b c)) (.ask (U.sub .i64 0 n ≠ (0 : Int)) (.ask ((0 : Int) < U.quo .i64 (U.sub .i64 (U.add .i64 (lk ofC a b c) (U.sub .i64 0
      n)) (1 : Int)) (U.sub .i64 0 n) → I64 (U.quo .i64 (U.sub .i64 (U.add .i64 (lk ofC a b c) (U.sub .i64 0 n)) (1 : Int)) (U.sub .i64 0 n) - (1 : Int)) ∧ I64 (U.mul .i64 (lk tB (lk ofF
      a b c) (lk ofB a b c) (lk ofC a b c)) (U.sub .i64 0 n) * (U.quo .i64 (U.sub .i64 (U.add .i64 (lk ofC a b c) (U.sub .i64 0 n)) (1 : Int)) (U.sub .i64 0 n) - (1 : Int))) ∧ I64 (lk tF
      (lk ofF a b c) (lk ofB a b c) (lk ofC a b c) + U.mul .i64 (lk tB (lk ofF a b c) (lk ofB a b c) (lk ofC a b c)) (U.sub .i64 0 n) * (U.quo .i64 (U.sub .i64 (U.add .i64 (lk ofC a b c)
      (U.sub .i64 0 n)) (1 : Int)) (U.sub .i64 0 n) - (1 : Int)))) (.ret (.tup [.agg [.lit (.int .i64 (lk nLow (lk tF (lk ofF a b c) (lk ofB a b c) (lk ofC a b c)) (U.mul .i64 (lk tB (lk
      ofF a b c) (lk ofB a b c) (lk ofC a b c)) (U.sub .i64 0 n)) (U.quo .i64 (U.sub .i64 (U.add .i64 (lk ofC a b c) (U.sub .i64 0 n)) (1 : Int)) (U.sub .i64 0 n)))), .lit (.int .i64 (lk
      nHigh (lk tF (lk ofF a b c) (lk ofB a b c) (lk ofC a b c)) (U.mul .i64 (lk tB (lk ofF a b c) (lk ofB a b c) (lk ofC a b c)) (U.sub .i64 0 n)) (U.quo .i64 (U.sub .i64 (U.add .i64 (lk
      ofC a b c) (U.sub .i64 0 n)) (1 : Int)) (U.sub .i64 0 n)))), .lit (.int .i64 (lk nStr (lk tF (lk ofF a b c) (lk ofB a b c) (lk ofC a b c)) (U.mul .i64 (lk tB (lk ofF a b c) (lk ofB
      a b c) (lk ofC a b c)) (U.sub .i64 0 n)) (U.quo .i64 (U.sub .i64 (U.add .i64 (lk ofC a b c) (U.sub .i64 0 n)) (1 : Int)) (U.sub .i64 0 n))))], .lit (.int .i64 (lk nErr (lk tF (lk
      ofF a b c) (lk ofB a b c) (lk ofC a b c)) (U.mul .i64 (lk tB (lk ofF a b c) (lk ofB a b c) (lk ofC a b c)) (U.sub .i64 0 n)) (U.quo .i64 (U.sub .i64 (U.add .i64 (lk ofC a b c)
      (U.sub .i64 0 n)) (1 : Int)) (U.sub .i64 0 n))))]))))) (.ask (n ≠ (0 : Int)) (.ask ((0 : Int) < U.quo .i64 (U.sub .i64 (U.add .i64 (lk ofC a b c) n) (1 : Int)) n → I64 (U.quo .i64
      (U.sub .i64 (U.add .i64 (lk ofC a b c) n) (1 : Int)) n - (1 : Int)) ∧ I64 (U.mul .i64 (lk ofB a b c) n * (U.quo .i64 (U.sub .i64 (U.add .i64 (lk ofC a b c) n) (1 : Int)) n - (1 :
      Int))) ∧ I64 (lk ofF a b c + U.mul .i64 (lk ofB a b c) n * (U.quo .i64 (U.sub .i64 (U.add .i64 (lk ofC a b c) n) (1 : Int)) n - (1 : Int)))) (.ret (.tup [.agg [.lit (.int .i64 (lk
      nLow (lk ofF a b c) (U.mul .i64 (lk ofB a b c) n) (U.quo .i64 (U.sub .i64 (U.add .i64 (lk ofC a b c) n) (1 : Int)) n))), .lit (.int .i64 (lk nHigh (lk ofF a b c) (U.mul .i64 (lk ofB
      a b c) n) (U.quo .i64 (U.sub .i64 (U.add .i64 (lk ofC a b c) n) (1 : Int)) n))), .lit (.int .i64 (lk nStr (lk ofF a b c) (U.mul .i64 (lk ofB a b c) n) (U.quo .i64 (U.sub .i64 (U.add
      .i64 (lk ofC a b c) n) (1 : Int)) n)))], .lit (.int .i64 (lk nErr (lk ofF a b c) (U.mul .i64 (lk ofB a b c) n) (U.quo .i64 (U.sub .i64 (U.add .i64 (lk ofC a b c) n) (1 : Int))
      n)))]))))))))) := by kernel_rfl
set_option maxHeartbeats 1000000 in
theorem By_ok : ConOK P 109 c_By := con_of (allOK mixed k5_ok) 10 109 fun args r h => by
  unfold c_By at h
  split at h
  · rename_i a b c n
    have hp := (T.is_ask h).1
    have h := (T.is_ask h).2
    obtain rfl := T.is_ret h
    rw [t_By]
    simp only [T.All, U.le_t, U.le_f, U.lt_t, U.lt_f, U.gt_t, U.gt_f, U.ge_t, U.ge_f, U.eq_t, U.eq_f, U.ne_t, U.ne_f, U.not_t, U.not_f, U.andb_t, U.andb_f, SV.lit.injEq, SV.agg.injEq, SV.tup.injEq, List.cons.injEq, Value.int.injEq, Value.bool.injEq, true_and, and_true, lk_eq, lim_t, lim_f]
    refine ⟨hp, fun h => ?_, fun h => ⟨fun h1 => ?_, fun h1 => ⟨fun h2 => ?_, fun h2 => ⟨fun hab => ?_, ?_⟩⟩⟩⟩
    · have e : byErr0 a b c n = chk a b c := by simp [byErr0, h]
      simp [byLow, byHigh, byStr, byErr, e, h]
    · have e : byErr0 a b c n = 1 := by simp [byErr0, h, h1]
      simp [byLow, byHigh, byStr, byErr, e]
    · have e : byErr0 a b c n = 4 := by
        unfold byErr0; rw [if_neg (by simp [h]), if_neg h1, if_neg (by omega)]
      simp [byLow, byHigh, byStr, byErr, e]
    · have hr := chk_zero.1 h
      have hc := right_c hr
      have hl := hr.1
      exact ⟨hc.1, by omega, by omega, hp⟩
    have e0 : byErr0 a b c n = 0 := by
      unfold byErr0; rw [if_neg (by simp [h]), if_neg h1, if_pos h2]
    have hr := chk_zero.1 h
    have hl := hr.1
    by_cases hab : a ≤ b
    · obtain ⟨s1, s2, s3, s4, s5⟩ := series_of hr hab
      simp only [byLow, byHigh, byStr, byErr, e0, ne_eq, not_true_eq_false, if_false, byF, byB, byC]
      generalize ofF a b c = F at *
      generalize ofB a b c = B at *
      generalize ofC a b c = C at *
      have m1 := s5 (C - 1) (by omega) (by omega)
      refine ⟨fun hn => ⟨fun _ => ⟨by unfold I64; omega, by unfold I64; omega, by unfold I64; omega, by unfold I64; omega⟩, ?_⟩, fun hn => ⟨h1, ?_⟩⟩
      · have e1 : U.sub .i64 0 n = -n := by rw [U.sub64 (by unfold I64; omega)]; omega
        obtain ⟨d1, d2, d3, d4, d5⟩ := div_up s1 (show 0 < -n by omega)
        have hq : 0 ≤ (C + -n - 1) := by omega
        have hq2 := div_le_self' (a := C + -n - 1) (b := -n) hq (by omega)
        have etF : tF F B C = F + B * (C - 1) := by unfold tF; rw [if_neg (by omega)]; rfl
        have etB : tB F B C = -B := by unfold tB; rw [if_neg (by omega)]
        have mb := mul_bnd (x := -B) (y := -n) (X := 2000000) (Y := 1000000) (by omega) (by omega)
        have m2 := s5 (C - 1 - -n * ((C - 1) / -n)) (by omega) (by omega)
        have ed : -B * -n * ((C - 1) / -n) = B * (C - 1 - -n * ((C - 1) / -n)) - B * (C - 1) := by
          rw [Int.mul_sub, Int.mul_assoc, Int.neg_mul]; omega
        rw [e1, U.add64 (by unfold I64; omega), U.sub64 (by unfold I64; omega), U.quo64 (by rw [tdiv_pos hq]; unfold I64; omega), tdiv_pos hq]
        rw [etB, U.mul64 (by unfold I64; omega)]
        simp only [if_pos hn, etF, etB]
        refine ⟨by omega, fun _ => ?_, by simp⟩
        rw [d1, ed]
        unfold I64
        omega
      · obtain ⟨d1, d2, d3, d4, d5⟩ := div_up s1 (show 0 < n by omega)
        have hq : 0 ≤ (C + n - 1) := by omega
        have hq2 := div_le_self' (a := C + n - 1) (b := n) hq (by omega)
        have mb := mul_bnd (x := B) (y := n) (X := 2000000) (Y := 1000000) (by omega) (by omega)
        have m2 := s5 (n * ((C - 1) / n)) (by omega) (by omega)
        have ed : B * n * ((C - 1) / n) = B * (n * ((C - 1) / n)) := by rw [Int.mul_assoc]
        have n3 : ¬ n < 0 := by omega
        rw [U.add64 (by unfold I64; omega), U.sub64 (by unfold I64; omega), U.quo64 (by rw [tdiv_pos hq]; unfold I64; omega), tdiv_pos hq, U.mul64 (by unfold I64; omega)]
        simp only [if_neg n3]
        refine ⟨fun _ => ?_, by simp⟩
        rw [d1, ed]
        unfold I64
        omega
    · obtain ⟨f1, f2, f3⟩ := empty_of (c := c) hab
      simp only [byLow, byHigh, byStr, byErr, e0, ne_eq, not_true_eq_false, if_false, byF, byB, byC, f1, f2, f3]
      refine ⟨fun hn => ⟨fun g => g.elim, ?_⟩, fun hn => ⟨h1, ?_⟩⟩
      · have e1 : U.sub .i64 0 n = -n := by rw [U.sub64 (by unfold I64; omega)]; omega
        have ez : (0 + -n - 1) / -n = 0 := Int.ediv_eq_zero_of_lt (by omega) (by omega)
        rw [e1, U.add64 (by unfold I64; omega), U.sub64 (by unfold I64; omega), U.quo64 (by rw [tdiv_pos (by omega), ez]; unfold I64; omega), tdiv_pos (by omega), ez]
        simp only [if_pos hn, ez]
        refine ⟨by omega, fun g => by omega, ?_⟩
        simp [nLow, nHigh, nStr, nErr]
      · have n3 : ¬ n < 0 := by omega
        have ez : (0 + n - 1) / n = 0 := Int.ediv_eq_zero_of_lt (by omega) (by omega)
        rw [U.add64 (by unfold I64; omega), U.sub64 (by unfold I64; omega), U.quo64 (by rw [tdiv_pos (by omega), ez]; unfold I64; omega), tdiv_pos (by omega), ez]
        simp only [if_neg n3, ez]
        refine ⟨fun g => by omega, ?_⟩
        simp [nLow, nHigh, nStr, nErr]
  · exact h.elim

noncomputable abbrev k6 : List (Nat × Con) := (109, c_By) :: k5 --%K
theorem k6_ok : ∀ p ∈ k6, ConOK P p.1 p.2 := by
  intro p hp
  simp only [k6, List.mem_cons] at hp
  rcases hp with rfl | hp
  · exact By_ok
  · exact k5_ok p (by simpa [k5] using hp)

set_option maxRecDepth 100000 in
theorem t_awake  : conB Go.Proofs.Try.prog (conOf k6) noLoops 10 21 [] =
    T.ask (I64 (lk ofLow (1 : Int) (10 : Int) (3 : Int)) ∧ I64 (lk ofHigh (1 : Int) (10 : Int) (3 : Int)) ∧ I64 (lk ofStr (1 : Int) (10 : Int) (3 : Int))) (.br (U.eq (lk ofErr (1 : Int)
      (10 : Int) (3 : Int)) (0 : Int)) (.br (U.eq (lk byErr (lk ofLow (1 : Int) (10 : Int) (3 : Int)) (lk ofHigh (1 : Int) (10 : Int) (3 : Int)) (lk ofStr (1 : Int) (10 : Int) (3 : Int))
      (-2 : Int)) (0 : Int)) (.ask (I64 (lk ofLow (1 : Int) (10 : Int) (3 : Int)) ∧ I64 (lk ofHigh (1 : Int) (10 : Int) (3 : Int)) ∧ I64 (lk ofStr (1 : Int) (10 : Int) (3 : Int))) (.br
      (U.eq (lk size (lk ofLow (1 : Int) (10 : Int) (3 : Int)) (lk ofHigh (1 : Int) (10 : Int) (3 : Int)) (lk ofStr (1 : Int) (10 : Int) (3 : Int))) (4 : Int)) (.ret (.lit (.bool (U.andb
      (U.eq (lk byLow (lk ofLow (1 : Int) (10 : Int) (3 : Int)) (lk ofHigh (1 : Int) (10 : Int) (3 : Int)) (lk ofStr (1 : Int) (10 : Int) (3 : Int)) (-2 : Int)) (4 : Int)) (U.andb (U.eq
      (lk byHigh (lk ofLow (1 : Int) (10 : Int) (3 : Int)) (lk ofHigh (1 : Int) (10 : Int) (3 : Int)) (lk ofStr (1 : Int) (10 : Int) (3 : Int)) (-2 : Int)) (10 : Int)) (U.eq (lk byStr (lk
      ofLow (1 : Int) (10 : Int) (3 : Int)) (lk ofHigh (1 : Int) (10 : Int) (3 : Int)) (lk ofStr (1 : Int) (10 : Int) (3 : Int)) (-2 : Int)) (-6 : Int))))))) (.ret (.lit (.bool false)))))
      (.ret (.lit (.bool false)))) (.ret (.lit (.bool false)))) := by kernel_rfl
theorem awake_ok : ConOK P 21 c_true := con_of (allOK mixed k6_ok) 10 21 fun args r h => by
  unfold c_true at h
  split at h
  · obtain rfl := T.is_ret h
    rw [t_awake]
    simp only [lk_eq]
    have o1 : ofLow 1 10 3 = 1 := by decide
    have o2 : ofHigh 1 10 3 = 10 := by decide
    have o3 : ofStr 1 10 3 = 3 := by decide
    have o4 : ofErr 1 10 3 = 0 := by decide
    have y1 : byLow 1 10 3 (-2) = 4 := by decide
    have y2 : byHigh 1 10 3 (-2) = 10 := by decide
    have y3 : byStr 1 10 3 (-2) = -6 := by decide
    have y4 : byErr 1 10 3 (-2) = 0 := by decide
    have y5 : size 1 10 3 = 4 := by decide
    rw [o1, o2, o3, o4, y1, y2, y3, y4, y5]
    simp [T.All, U.eq_eq, U.andb_eq, I64]
  · exact h.elim

noncomputable abbrev k7 : List (Nat × Con) := (21, c_true) :: k6 --%K
theorem k7_ok : ∀ p ∈ k7, ConOK P p.1 p.2 := by
  intro p hp
  simp only [k7, List.mem_cons] at hp
  rcases hp with rfl | hp
  · exact awake_ok
  · exact k6_ok p (by simpa [k6] using hp)
end Go.RX.Span

/- Ranges: what the first law's body returns. -/
set_option linter.unusedVariables false
set_option linter.unusedSimpArgs false
set_option maxRecDepth 100000
namespace Go.RX.Span
open Go Go.RX

noncomputable def c_SpanOf : Con := fun args => match args with
  | [.lit (.int .i64 l), .lit (.int .i64 h), .lit (.int .i64 s), .agg [.lit (.int .i64 a), .lit (.int .i64 b), .lit (.int .i64 c)], .lit (.int .i64 n)] => .ask (I64 a ∧ I64 b ∧ I64 c) (.ret (.lit (.bool true)))
  | _ => .stuck 1
end Go.RX.Span

/- Ranges: Count of the program and of the reference. -/
set_option linter.unusedVariables false
set_option linter.unusedSimpArgs false
set_option maxRecDepth 100000
namespace Go.RX.Span
open Go Go.RX

/-- What a right range with numbers is made of: its step, and how many steps it has. -/
theorem parts {a b c : Int} (hr : Right a b c) (hab : a ≤ b) :
    1 ≤ absI c ∧ absI c ≤ 2000000 ∧ 1 ≤ ofC a b c ∧ ofC a b c ≤ 2000001 ∧ absI c * (ofC a b c - 1) = b - a ∧ ofB a b c = c ∧ ofF a b c = (if c < 0 then b else a) ∧ (c = absI c ∨ c = -absI c) ∧ (c < 0 → a < b) ∧ (a = b → c = 1) := by
  have hc := right_c hr
  have hl := hr.1
  have n1 : ¬ a > b := by omega
  obtain ⟨s1, s2, s3, s4, s5⟩ := series_of hr hab
  have hneg : c < 0 → a < b := fun h => by rcases hr.2 with h' | h' | h' <;> omega
  refine ⟨?_, ?_, by omega, s2, ?_, by simp [ofB, n1], by simp [ofF, n1], ?_, hneg, fun h => by rcases hr.2 with h' | h' | h' <;> omega⟩
  · unfold absI; split <;> omega
  · unfold absI; split <;> omega
  · unfold absI ofC
    rw [if_neg n1]
    have hd : c ∣ b - a := by
      rcases hr.2 with h | h | h
      · omega
      · rw [show b - a = 0 by omega]; exact Int.dvd_zero _
      · exact Int.dvd_of_emod_eq_zero h.2.2
    by_cases h : c < 0
    · rw [if_pos h, if_pos h]
      have := Int.mul_ediv_cancel' ((Int.neg_dvd).2 hd)
      rw [show (b - a) / -c + 1 - 1 = (b - a) / -c by omega]; exact this
    · rw [if_neg h, if_neg h]
      have := Int.mul_ediv_cancel' hd
      rw [show (b - a) / c + 1 - 1 = (b - a) / c by omega]; exact this
  · unfold absI; split <;> omega

/-- A product by a step lies between. -/
theorem mulle {s x y : Int} (hs : 1 ≤ s) (h : x ≤ y) : s * x ≤ s * y := Int.mul_le_mul_of_nonneg_left h (by omega)
theorem mul0 {s k : Int} (hs : 1 ≤ s) : (s * k = 0) ↔ k = 0 := by
  constructor
  · intro h
    rcases Int.mul_eq_zero.1 h with h | h
    · omega
    · exact h
  · intro h; rw [h, Int.mul_zero]

/-- A series made normal, upwards and downwards. -/
theorem nUp {F s C : Int} (hs : 1 ≤ s) (hC : 1 ≤ C) (h1 : -1000000 ≤ F) (h2 : F + s * (C - 1) ≤ 1000000) :
    nErr F s C = 0 ∧ nLow F s C = F ∧ nHigh F s C = F + s * (C - 1) ∧ nStr F s C = (if C = 1 then 1 else s) := by
  have h0 := mulle (x := 0) (y := C - 1) hs (by omega)
  rw [Int.mul_zero] at h0
  have n1 : ¬ C ≤ 0 := by omega
  have e : nErr F s C = 0 := by
    unfold nErr sLast; rw [if_neg n1, if_pos (by omega)]
  refine ⟨e, ?_, ?_, ?_⟩
  · simp only [nLow, e, if_neg n1, if_true, sLast]; omega
  · simp only [nHigh, e, if_neg n1, if_true, sLast]; omega
  · simp only [nStr, e, if_neg n1, if_true]
theorem nDn {F s C : Int} (hs : 1 ≤ s) (hC : 1 ≤ C) (h1 : F ≤ 1000000) (h2 : -1000000 ≤ F - s * (C - 1)) :
    nErr F (-s) C = 0 ∧ nLow F (-s) C = F - s * (C - 1) ∧ nHigh F (-s) C = F ∧ nStr F (-s) C = (if C = 1 then 1 else -s) := by
  have h0 := mulle (x := 0) (y := C - 1) hs (by omega)
  rw [Int.mul_zero] at h0
  have n1 : ¬ C ≤ 0 := by omega
  have e : nErr F (-s) C = 0 := by
    unfold nErr sLast; rw [if_neg n1, Int.neg_mul, if_pos (by omega)]
  refine ⟨e, ?_, ?_, ?_⟩
  · simp only [nLow, e, if_neg n1, if_true, sLast, Int.neg_mul]; omega
  · simp only [nHigh, e, if_neg n1, if_true, sLast, Int.neg_mul]; omega
  · simp only [nStr, e, if_neg n1, if_true]
theorem nth_eq' {a b c k : Int} (hr : Right a b c) (hab : a ≤ b) (h0 : 0 ≤ k) (h1 : k < ofC a b c) : nth a b c k = if c < 0 then b - absI c * k else a + absI c * k := by
  obtain ⟨p1, p2, p3, p4, p5, p6, p7, p8, p9, p10⟩ := parts hr hab
  have e : nthE a b c k = 0 := by
    unfold nthE; rw [if_neg (by rw [chk_zero.2 hr]; simp), if_neg (by omega)]
  simp only [nth, e, ne_eq, not_true_eq_false, if_false, p6, p7]
  by_cases h : c < 0
  · rw [if_pos h, if_pos h]
    have : absI c = -c := by simp [absI, h]
    rw [this, Int.neg_mul]; omega
  · rw [if_neg h, if_neg h]
    have : absI c = c := by simp [absI, h]
    rw [this]
theorem size_eq' {a b c : Int} (hr : Right a b c) : size a b c = ofC a b c := by simp [size, chk_zero.2 hr]

def cntE (a b c n : Int) : Int := if chk a b c ≠ 0 then chk a b c else if n > ofC a b c ∨ n < -ofC a b c then 5 else 0
def cntFrom (a b c n : Int) : Int := if n < 0 then ofC a b c + n else 0
def cntTo (a b c n : Int) : Int := if n < 0 then ofC a b c - 1 else n - 1
def cntLow (a b c n : Int) : Int := if cntE a b c n ≠ 0 then 0 else if n = 0 then 1 else if c < 0 then b - absI c * cntTo a b c n else a + absI c * cntFrom a b c n
def cntHigh (a b c n : Int) : Int := if cntE a b c n ≠ 0 then 0 else if n = 0 then 0 else if c < 0 then b - absI c * cntFrom a b c n else a + absI c * cntTo a b c n
def cntStr (a b c n : Int) : Int := if cntE a b c n ≠ 0 then 0 else if n = 0 then 1 else if n = 1 ∨ n = -1 then 1 else c

theorem ofC_bnd {a b c : Int} (hr : Right a b c) : 0 ≤ ofC a b c ∧ ofC a b c ≤ 2000001 := by
  by_cases hab : a ≤ b
  · have := parts hr hab; omega
  · have := empty_of (c := c) hab; omega
/-- What the program asks of a right range that it turns into a series. -/
theorem of_ask {a b c : Int} (hr : Right a b c) (ha : I64 a) (hb : I64 b) (hc' : I64 c) : a ≤ b → c ≠ 0 ∧ -9223372036854775807 ≤ c ∧ b - a < 9223372036854775807 ∧ I64 a ∧ I64 b ∧ I64 c := fun hab => by
  have hc := right_c hr
  have hl := hr.1
  exact ⟨hc.1, by omega, by omega, ha, hb, hc'⟩
/-- Signs, products. -/
theorem absI_neg {c : Int} (h : c < 0) : absI c = -c := by simp [absI, h]
theorem absI_pos {c : Int} (h : ¬ c < 0) : absI c = c := by simp [absI, h]

noncomputable def c_Count : Con := fun args => match args with
  | [.agg [.lit (.int .i64 a), .lit (.int .i64 b), .lit (.int .i64 c)], .lit (.int .i64 n)] =>
    .ask (I64 a ∧ I64 b ∧ I64 c ∧ I64 n) (.ret (.tup [.agg [.lit (.int .i64 (lk cntLow a b c n)), .lit (.int .i64 (lk cntHigh a b c n)), .lit (.int .i64 (lk cntStr a b c n))], .lit (.int .i64 (lk cntE a b c n))]))
  | _ => .stuck 1

/-- The reference's range. -/
theorem rn_up {l h s : Int} (hlh : l ≤ h) : rnL l h s false = l ∧ rnH l h s false = h ∧ rnS l h s false = (if l = h then 1 else s) := by
  have n1 : ¬ l > h := by omega
  refine ⟨by simp only [rnL, if_neg n1], by simp only [rnH, if_neg n1], ?_⟩
  unfold rnS
  by_cases e : l = h
  · rw [if_pos (by omega), if_pos e]
  · rw [if_neg (by omega), if_neg e]; rfl
theorem rn_dn {l h s : Int} (hlh : l ≤ h) : rnL l h s true = l ∧ rnH l h s true = h ∧ rnS l h s true = (if l = h then 1 else -s) := by
  have n1 : ¬ l > h := by omega
  refine ⟨by simp only [rnL, if_neg n1], by simp only [rnH, if_neg n1], ?_⟩
  unfold rnS
  by_cases e : l = h
  · rw [if_pos (by omega), if_pos e]
  · rw [if_neg (by omega), if_neg e]; rfl

end Go.RX.Span

/- What two series have both: the walk. -/
set_option linter.unusedVariables false
set_option linter.unusedSimpArgs false
set_option maxRecDepth 100000
namespace Go.RX.Span
open Go Go.RX

noncomputable abbrev kc : List (Nat × Con) := [(127, c_euclid), (117, c_last)] --%K
theorem kc_ok : ∀ p ∈ kc, ConOK P p.1 p.2 := by
  intro p hp
  simp only [kc, List.mem_cons, List.not_mem_nil, or_false] at hp
  rcases hp with rfl | rfl
  · exact euclid_ok
  · exact k7_ok (117, c_last) (by simp [k7, k6, k5, k4, k3, k2, k1])
theorem tmod_bnd {x m : Int} (hm : 1 ≤ m) : -m < x.tmod m ∧ x.tmod m < m := by
  have h1 := Int.tmod_lt_of_pos x (show 0 < m by omega)
  have h2 := Int.tmod_lt_of_pos (-x) (show 0 < m by omega)
  rw [Int.neg_tmod] at h2
  omega
theorem tdiv_bnd {x g N : Int} (hg : 1 ≤ g) (h : -N ≤ x ∧ x ≤ N) : -N ≤ x.tdiv g ∧ x.tdiv g ≤ N := by
  have h1 : (x.tdiv g).natAbs ≤ x.natAbs := by rw [Int.natAbs_tdiv]; exact Nat.div_le_self _ _
  omega
noncomputable def c_common : Con := fun args => match args with
  | [.agg [.lit (.int .i64 A), .lit (.int .i64 s), .lit (.int .i64 C)], .agg [.lit (.int .i64 B), .lit (.int .i64 t), .lit (.int .i64 D)]] =>
    .ask (Ser A s C ∧ Ser B t D) (.ret (.agg [.lit (.int .i64 (lk cmFst A s C B t D)), .lit (.int .i64 (lk cmBy A s C B t D)), .lit (.int .i64 (lk cmCnt A s C B t D))]))
  | _ => .stuck 1
set_option maxRecDepth 100000 in
theorem t_common (A s C B t D : Int) : conB Go.Proofs.Try.prog (conOf kc) noLoops 10 111 [.agg [.lit (.int .i64 A), .lit (.int .i64 s), .lit (.int .i64 C)], .agg [.lit (.int .i64 B), .lit (.int .i64 t), .lit (.int .i64 D)]] =
    T.br (U.eq C (0 : Int)) (.ret (.agg [.lit (.int .i64 0), .lit (.int .i64 0), .lit (.int .i64 0)])) (.br (U.eq D (0 : Int)) (.ret (.agg [.lit (.int .i64 0), .lit (.int .i64 0), .lit
      (.int .i64 0)])) (.ask ((0 : Int) ≤ s ∧ s ≤ (4000000 : Int) ∧ (0 : Int) ≤ t ∧ t ≤ (4000000 : Int)) (.ask (lk euG s t ≠ (0 : Int)) (.br (U.ne (U.rem (U.sub .i64 B A) (lk euG s t)) (0
      : Int)) (.ret (.agg [.lit (.int .i64 0), .lit (.int .i64 0), .lit (.int .i64 0)])) (.ask (lk euG s t ≠ (0 : Int)) (.ask (lk euG s t ≠ (0 : Int)) (.ask (U.quo .i64 t (lk euG s t) ≠
      (0 : Int)) (.ask (U.quo .i64 t (lk euG s t) ≠ (0 : Int)) (.ask (U.quo .i64 t (lk euG s t) ≠ (0 : Int)) (.ask (I64 (C - (1 : Int)) ∧ I64 (s * (C - (1 : Int))) ∧ I64 (A + s * (C - (1
      : Int)))) (.ask (I64 (D - (1 : Int)) ∧ I64 (t * (D - (1 : Int))) ∧ I64 (B + t * (D - (1 : Int)))) (.ask (U.mul .i64 s (U.quo .i64 t (lk euG s t)) ≠ (0 : Int)) (.br (U.lt (U.add .i64
      A (U.mul .i64 s (U.rem (U.mul .i64 (U.rem (U.quo .i64 (U.sub .i64 B A) (lk euG s t)) (U.quo .i64 t (lk euG s t))) (U.rem (lk euX s t) (U.quo .i64 t (lk euG s t)))) (U.quo .i64 t (lk
      euG s t))))) (U.mm true A B)) (.br (U.gt (U.rem (U.sub .i64 (U.mm true A B) (U.add .i64 A (U.mul .i64 s (U.rem (U.mul .i64 (U.rem (U.quo .i64 (U.sub .i64 B A) (lk euG s t)) (U.quo
      .i64 t (lk euG s t))) (U.rem (lk euX s t) (U.quo .i64 t (lk euG s t)))) (U.quo .i64 t (lk euG s t)))))) (U.mul .i64 s (U.quo .i64 t (lk euG s t)))) (0 : Int)) (.br (U.gt (U.add .i64
      (U.mm true A B) (U.sub .i64 (U.mul .i64 s (U.quo .i64 t (lk euG s t))) (U.rem (U.sub .i64 (U.mm true A B) (U.add .i64 A (U.mul .i64 s (U.rem (U.mul .i64 (U.rem (U.quo .i64 (U.sub
      .i64 B A) (lk euG s t)) (U.quo .i64 t (lk euG s t))) (U.rem (lk euX s t) (U.quo .i64 t (lk euG s t)))) (U.quo .i64 t (lk euG s t)))))) (U.mul .i64 s (U.quo .i64 t (lk euG s t))))))
      (U.mm false (lk sLast A s C) (lk sLast B t D))) (.ret (.agg [.lit (.int .i64 0), .lit (.int .i64 0), .lit (.int .i64 0)])) (.ask (U.mul .i64 s (U.quo .i64 t (lk euG s t)) ≠ (0 :
      Int)) (.ret (.agg [.lit (.int .i64 (U.add .i64 (U.mm true A B) (U.sub .i64 (U.mul .i64 s (U.quo .i64 t (lk euG s t))) (U.rem (U.sub .i64 (U.mm true A B) (U.add .i64 A (U.mul .i64 s
      (U.rem (U.mul .i64 (U.rem (U.quo .i64 (U.sub .i64 B A) (lk euG s t)) (U.quo .i64 t (lk euG s t))) (U.rem (lk euX s t) (U.quo .i64 t (lk euG s t)))) (U.quo .i64 t (lk euG s t))))))
      (U.mul .i64 s (U.quo .i64 t (lk euG s t))))))), .lit (.int .i64 (U.mul .i64 s (U.quo .i64 t (lk euG s t)))), .lit (.int .i64 (U.add .i64 (U.quo .i64 (U.sub .i64 (U.mm false (lk
      sLast A s C) (lk sLast B t D)) (U.add .i64 (U.mm true A B) (U.sub .i64 (U.mul .i64 s (U.quo .i64 t (lk euG s t))) (U.rem (U.sub .i64 (U.mm true A B) (U.add .i64 A (U.mul .i64 s
      (U.rem (U.mul .i64 (U.rem (U.quo .i64 (U.sub .i64 B A) (lk euG s t)) (U.quo .i64 t (lk euG s t))) (U.rem (lk euX s t) (U.quo .i64 t (lk euG s t)))) (U.quo .i64 t (lk euG s t))))))
      (U.mul .i64 s (U.quo .i64 t (lk euG s t))))))) (U.mul .i64 s (U.quo .i64 t (lk euG s t)))) (1 : Int)))])))) (.br (U.gt (U.mm true A B) (U.mm false (lk sLast A s C) (lk sLast B t
      D))) (.ret (.agg [.lit (.int .i64 0), .lit (.int .i64 0), .lit (.int .i64 0)])) (.ask (U.mul .i64 s (U.quo .i64 t (lk euG s t)) ≠ (0 : Int)) (.ret (.agg [.lit (.int .i64 (U.mm true
      A B)), .lit (.int .i64 (U.mul .i64 s (U.quo .i64 t (lk euG s t)))), .lit (.int .i64 (U.add .i64 (U.quo .i64 (U.sub .i64 (U.mm false (lk sLast A s C) (lk sLast B t D)) (U.mm true A
      B)) (U.mul .i64 s (U.quo .i64 t (lk euG s t)))) (1 : Int)))]))))) (.ask (U.mul .i64 s (U.quo .i64 t (lk euG s t)) ≠ (0 : Int)) (.br (U.gt (U.sub .i64 (U.add .i64 A (U.mul .i64 s
      (U.rem (U.mul .i64 (U.rem (U.quo .i64 (U.sub .i64 B A) (lk euG s t)) (U.quo .i64 t (lk euG s t))) (U.rem (lk euX s t) (U.quo .i64 t (lk euG s t)))) (U.quo .i64 t (lk euG s t)))))
      (U.mul .i64 (U.quo .i64 (U.sub .i64 (U.add .i64 A (U.mul .i64 s (U.rem (U.mul .i64 (U.rem (U.quo .i64 (U.sub .i64 B A) (lk euG s t)) (U.quo .i64 t (lk euG s t))) (U.rem (lk euX s t)
      (U.quo .i64 t (lk euG s t)))) (U.quo .i64 t (lk euG s t))))) (U.mm true A B)) (U.mul .i64 s (U.quo .i64 t (lk euG s t)))) (U.mul .i64 s (U.quo .i64 t (lk euG s t))))) (U.mm false
      (lk sLast A s C) (lk sLast B t D))) (.ret (.agg [.lit (.int .i64 0), .lit (.int .i64 0), .lit (.int .i64 0)])) (.ask (U.mul .i64 s (U.quo .i64 t (lk euG s t)) ≠ (0 : Int)) (.ret
      (.agg [.lit (.int .i64 (U.sub .i64 (U.add .i64 A (U.mul .i64 s (U.rem (U.mul .i64 (U.rem (U.quo .i64 (U.sub .i64 B A) (lk euG s t)) (U.quo .i64 t (lk euG s t))) (U.rem (lk euX s t)
      (U.quo .i64 t (lk euG s t)))) (U.quo .i64 t (lk euG s t))))) (U.mul .i64 (U.quo .i64 (U.sub .i64 (U.add .i64 A (U.mul .i64 s (U.rem (U.mul .i64 (U.rem (U.quo .i64 (U.sub .i64 B A)
      (lk euG s t)) (U.quo .i64 t (lk euG s t))) (U.rem (lk euX s t) (U.quo .i64 t (lk euG s t)))) (U.quo .i64 t (lk euG s t))))) (U.mm true A B)) (U.mul .i64 s (U.quo .i64 t (lk euG s
      t)))) (U.mul .i64 s (U.quo .i64 t (lk euG s t)))))), .lit (.int .i64 (U.mul .i64 s (U.quo .i64 t (lk euG s t)))), .lit (.int .i64 (U.add .i64 (U.quo .i64 (U.sub .i64 (U.mm false (lk
      sLast A s C) (lk sLast B t D)) (U.sub .i64 (U.add .i64 A (U.mul .i64 s (U.rem (U.mul .i64 (U.rem (U.quo .i64 (U.sub .i64 B A) (lk euG s t)) (U.quo .i64 t (lk euG s t))) (U.rem (lk
      euX s t) (U.quo .i64 t (lk euG s t)))) (U.quo .i64 t (lk euG s t))))) (U.mul .i64 (U.quo .i64 (U.sub .i64 (U.add .i64 A (U.mul .i64 s (U.rem (U.mul .i64 (U.rem (U.quo .i64 (U.sub
      .i64 B A) (lk euG s t)) (U.quo .i64 t (lk euG s t))) (U.rem (lk euX s t) (U.quo .i64 t (lk euG s t)))) (U.quo .i64 t (lk euG s t))))) (U.mm true A B)) (U.mul .i64 s (U.quo .i64 t
      (lk euG s t)))) (U.mul .i64 s (U.quo .i64 t (lk euG s t)))))) (U.mul .i64 s (U.quo .i64 t (lk euG s t)))) (1 : Int)))])))))))))))))))))) := by kernel_rfl
set_option maxHeartbeats 1000000 in
theorem common_ok : ConOK P 111 c_common := con_of (allOK mixed kc_ok) 10 111 fun args r h => by
  unfold c_common at h
  split at h
  · rename_i A s C B t D
    have hp := (T.is_ask h).1
    have h := (T.is_ask h).2
    obtain rfl := T.is_ret h
    rw [t_common]
    obtain ⟨hA, hB⟩ := hp
    by_cases hC : C = 0
    · have e : cmE A s C B t D = true := decide_eq_true (.inl hC)
      refine ⟨fun _ => ?_, fun h => absurd hC (by rwa [U.eq_f] at h)⟩
      simp only [lk_eq, cmFst, cmBy, cmCnt, e, if_true]
      exact rfl
    by_cases hD : D = 0
    · have e : cmE A s C B t D = true := decide_eq_true (.inr (.inl hD))
      refine ⟨fun h => absurd (by rwa [U.eq_t] at h) hC, fun _ => ⟨fun _ => ?_, fun h => absurd hD (by rwa [U.eq_f] at h)⟩⟩
      simp only [lk_eq, cmFst, cmBy, cmCnt, e, if_true]
      exact rfl
    obtain ⟨a1, a2, a3, a4, a5, a6⟩ : 1 ≤ C ∧ C ≤ 2000001 ∧ 1 ≤ s ∧ s ≤ 2000000 ∧ -1000000 ≤ A ∧ A + s * (C - 1) ≤ 1000000 := by rcases hA with h | h; exact absurd h hC; exact h
    obtain ⟨b1, b2, b3, b4, b5, b6⟩ : 1 ≤ D ∧ D ≤ 2000001 ∧ 1 ≤ t ∧ t ≤ 2000000 ∧ -1000000 ≤ B ∧ B + t * (D - 1) ≤ 1000000 := by rcases hB with h | h; exact absurd h hD; exact h
    obtain ⟨g1, g2, s', m, u, g3, g4, g5, g6, g7, g8, g9, g10⟩ := eu_facts a3 b3
    have hA1 := mulle (x := 0) (y := C - 1) a3 (by omega)
    have hB1 := mulle (x := 0) (y := D - 1) b3 (by omega)
    rw [Int.mul_zero] at hA1 hB1
    have e1 : U.sub .i64 B A = B - A := U.sub64 (by unfold I64; omega)
    have hQ := tdiv_bnd (x := B - A) (N := 2000000) g1 (by omega)
    have e2 : U.quo .i64 (B - A) (euG s t) = (B - A).tdiv (euG s t) := U.quo64 (by unfold I64; omega)
    have e3 : U.quo .i64 t (euG s t) = m := by rw [← g10]; exact U.quo64 (by show I64 (cmM t (euG s t)); rw [g10]; unfold I64; omega)
    have hQ1 := tmod_bnd (x := (B - A).tdiv (euG s t)) g6
    have hX1 := tmod_bnd (x := euX s t) g6
    have hP := mul_bnd (x := ((B - A).tdiv (euG s t)).tmod m) (y := (euX s t).tmod m) (X := 2000000) (Y := 2000000) (by omega) (by omega)
    have e4 : U.mul .i64 (((B - A).tdiv (euG s t)).tmod m) ((euX s t).tmod m) = ((B - A).tdiv (euG s t)).tmod m * (euX s t).tmod m := U.mul64 (by unfold I64; omega)
    have hK := tmod_bnd (x := ((B - A).tdiv (euG s t)).tmod m * (euX s t).tmod m) g6
    have hKe : cmK A B (euG s t) (cmM t (euG s t)) (euX s t) = (((B - A).tdiv (euG s t)).tmod m * (euX s t).tmod m).tmod m := by rw [g10]; rfl
    have hF0 : cmF0 A s B t = A + s * (((B - A).tdiv (euG s t)).tmod m * (euX s t).tmod m).tmod m := by unfold cmF0; rw [hKe]
    have hY : cmY s t = s * m := by unfold cmY; rw [g10]
    have hSK := mul_bnd (x := s) (y := (((B - A).tdiv (euG s t)).tmod m * (euX s t).tmod m).tmod m) (X := 2000000) (Y := 2000000) (by omega) (by omega)
    have hSM := mul_bnd (x := s) (y := m) (X := 2000000) (Y := 2000000) (by omega) (by omega)
    have hSM1 := mulle (s := s) (x := 1) (y := m) a3 g6
    rw [Int.mul_one] at hSM1
    have e5 : U.mul .i64 s (((((B - A).tdiv (euG s t)).tmod m * (euX s t).tmod m)).tmod m) = s * (((B - A).tdiv (euG s t)).tmod m * (euX s t).tmod m).tmod m := U.mul64 (by unfold I64; omega)
    have e6 : U.add .i64 A (s * (((B - A).tdiv (euG s t)).tmod m * (euX s t).tmod m).tmod m) = cmF0 A s B t := by rw [hF0]; exact U.add64 (by unfold I64; omega)
    have e7 : U.mul .i64 s m = cmY s t := by rw [hY]; exact U.mul64 (by unfold I64; omega)
    have hF0b : -4000001000000 ≤ cmF0 A s B t ∧ cmF0 A s B t ≤ 4000001000000 := by rw [hF0]; omega
    have hYb : 1 ≤ cmY s t ∧ cmY s t ≤ 4000000000000 := by rw [hY]; omega
    obtain ⟨v1, v2, _⟩ := cmUp_spec (f := cmF0 A s B t) (low := max A B) hYb.1
    have hHi : min (sLast A s C) (sLast B t D) = cmHi A s C B t D := rfl
    have hHb : -1000000 ≤ cmHi A s C B t D ∧ cmHi A s C B t D ≤ 1000000 := by unfold cmHi sLast; omega
    obtain ⟨L, hL⟩ : ∃ L, L = max A B := ⟨_, rfl⟩
    have hLb : -1000000 ≤ L ∧ L ≤ 1000000 := by
      have : A ≤ 1000000 := by omega
      omega
    have e8 : U.sub .i64 L (cmF0 A s B t) = L - cmF0 A s B t := U.sub64 (by unfold I64; omega)
    have e9 : U.sub .i64 (cmF0 A s B t) L = cmF0 A s B t - L := U.sub64 (by unfold I64; omega)
    have hqb := tdiv_bnd (x := cmF0 A s B t - L) (g := cmY s t) (N := 8000000000000) hYb.1 (by omega)
    have e10 : U.quo .i64 (cmF0 A s B t - L) (cmY s t) = (cmF0 A s B t - L).tdiv (cmY s t) := U.quo64 (by unfold I64; omega)
    simp only [lk_eq, mm_max, mm_min, U.rem_eq, e1, e2, e3, e4, e5, e6, e7, hHi, ← hL, e8, e9, e10]
    have hV : cmV A s B t = cmUp (cmF0 A s B t) L (cmY s t) := by rw [hL]; rfl
    rw [← hL, ← hV] at v1 v2
    have fin : ∀ v, cmV A s B t = v → (B - A).tmod (euG s t) = 0 → T.All (fun x => x = SV.agg [SV.lit (.int .i64 (cmFst A s C B t D)), SV.lit (.int .i64 (cmBy A s C B t D)), SV.lit (.int .i64 (cmCnt A s C B t D))])
        (T.br (U.gt v (cmHi A s C B t D)) (T.ret (SV.agg [SV.lit (.int .i64 0), SV.lit (.int .i64 0), SV.lit (.int .i64 0)]))
          (T.ask (cmY s t ≠ 0) (T.ret (SV.agg [SV.lit (.int .i64 v), SV.lit (.int .i64 (cmY s t)), SV.lit (.int .i64 (U.add .i64 (U.quo .i64 (U.sub .i64 (cmHi A s C B t D) v) (cmY s t)) 1))])))) := fun v hv hz => by
      by_cases hgt : cmHi A s C B t D < v
      · have e : cmE A s C B t D = true := decide_eq_true (.inr (.inr (.inr (by rw [hv]; exact hgt))))
        refine ⟨fun _ => ?_, fun h => absurd hgt (by rw [U.gt_f] at h; omega)⟩
        simp only [cmFst, cmBy, cmCnt, e, if_true]
        exact rfl
      · have e : cmE A s C B t D = false := decide_eq_false (by
          rintro (h | h | h | h)
          · exact hC h
          · exact hD h
          · exact h hz
          · rw [hv] at h; exact hgt h)
        refine ⟨fun h => absurd (by rw [U.gt_t] at h; omega) hgt, fun _ => ⟨by omega, ?_⟩⟩
        have f1 : U.sub .i64 (cmHi A s C B t D) v = cmHi A s C B t D - v := U.sub64 (by unfold I64; omega)
        have hqv := tdiv_bnd (x := cmHi A s C B t D - v) (g := cmY s t) (N := 8000000000000) hYb.1 (by omega)
        have f2 : U.quo .i64 (cmHi A s C B t D - v) (cmY s t) = (cmHi A s C B t D - v).tdiv (cmY s t) := U.quo64 (by unfold I64; omega)
        have f3 : U.add .i64 ((cmHi A s C B t D - v).tdiv (cmY s t)) 1 = (cmHi A s C B t D - v).tdiv (cmY s t) + 1 := U.add64 (by unfold I64; omega)
        rw [f1, f2, f3]
        simp only [cmFst, cmBy, cmCnt, e, hv]
        exact rfl
    have hAC : I64 (C - 1) ∧ I64 (s * (C - 1)) ∧ I64 (A + s * (C - 1)) := by unfold I64; omega
    have hBD : I64 (D - 1) ∧ I64 (t * (D - 1)) ∧ I64 (B + t * (D - 1)) := by unfold I64; omega
    refine ⟨fun h => absurd (by rwa [U.eq_t] at h) hC, fun _ => ⟨fun h => absurd (by rwa [U.eq_t] at h) hD, fun _ => ⟨by omega, by omega, fun h => ?_, fun h => ⟨by omega, by omega, by omega, by omega, by omega, hAC, hBD, by omega, fun hlt => ⟨fun hd => ?_, fun hd => ?_⟩, fun hge => ⟨by omega, ?_⟩⟩⟩⟩⟩
    · rw [U.ne_t] at h
      have e : cmE A s C B t D = true := decide_eq_true (.inr (.inr (.inl h)))
      simp only [cmFst, cmBy, cmCnt, e, if_true]
      exact rfl
    · rw [U.lt_t] at hlt
      rw [U.gt_t] at hd
      rw [U.ne_f] at h
      have hdb := tmod_bnd (x := L - cmF0 A s B t) hYb.1
      have f1 : U.sub .i64 (cmY s t) ((L - cmF0 A s B t).tmod (cmY s t)) = cmY s t - (L - cmF0 A s B t).tmod (cmY s t) := U.sub64 (by unfold I64; omega)
      have f2 : U.add .i64 L (cmY s t - (L - cmF0 A s B t).tmod (cmY s t)) = L + (cmY s t - (L - cmF0 A s B t).tmod (cmY s t)) := U.add64 (by unfold I64; omega)
      rw [f1, f2]
      exact fin _ (by rw [hV]; unfold cmUp; rw [if_pos hlt, if_pos hd]) h
    · rw [U.lt_t] at hlt
      rw [U.gt_f] at hd
      rw [U.ne_f] at h
      exact fin _ (by rw [hV]; unfold cmUp; rw [if_pos hlt, if_neg (by omega)]) h
    · rw [U.lt_f] at hge
      rw [U.ne_f] at h
      have t1 := Int.tdiv_eq_ediv_of_nonneg (b := cmY s t) (show 0 ≤ cmF0 A s B t - L by omega)
      have t2 := Int.mul_ediv_add_emod (cmF0 A s B t - L) (cmY s t)
      have t3 := Int.emod_nonneg (cmF0 A s B t - L) (show cmY s t ≠ 0 by omega)
      have t4 := Int.emod_lt_of_pos (cmF0 A s B t - L) (show 0 < cmY s t by omega)
      have t5 : (cmF0 A s B t - L).tdiv (cmY s t) * cmY s t = cmY s t * ((cmF0 A s B t - L) / cmY s t) := by rw [t1, Int.mul_comm]
      have f1 : U.mul .i64 ((cmF0 A s B t - L).tdiv (cmY s t)) (cmY s t) = (cmF0 A s B t - L).tdiv (cmY s t) * cmY s t := U.mul64 (by rw [t5]; unfold I64; omega)
      have f2 : U.sub .i64 (cmF0 A s B t) ((cmF0 A s B t - L).tdiv (cmY s t) * cmY s t) = cmF0 A s B t - (cmF0 A s B t - L).tdiv (cmY s t) * cmY s t := U.sub64 (by rw [t5]; unfold I64; omega)
      rw [f1, f2]
      exact fin _ (by rw [hV]; unfold cmUp; rw [if_neg (by omega)]) h
  · exact h.elim
end Go.RX.Span

/- Ranges: By of the reference. -/
set_option linter.unusedVariables false
set_option linter.unusedSimpArgs false
set_option maxRecDepth 100000
namespace Go.RX.Span
open Go Go.RX

theorem div_zero_iff {C m : Int} (hC : 1 ≤ C) (hm : 1 ≤ m) : ((C + m - 1) / m = 1) ↔ ((C - 1) / m = 0) := by
  have := div_up (C := C) (m := m) (by omega) (by omega)
  omega

theorem by_closed {a b c n : Int} (hr : Right a b c) (hab : a ≤ b) (hn : n ≠ 0) (hl : -1000000 ≤ n ∧ n ≤ 1000000) :
    byErr a b c n = 0 ∧
    ((c < 0 ↔ n < 0) → byLow a b c n = a ∧ byHigh a b c n = a + absI c * (absI n * ((ofC a b c - 1) / absI n)) ∧ byStr a b c n = (if (ofC a b c - 1) / absI n = 0 then 1 else absI c * absI n)) ∧
    (¬ (c < 0 ↔ n < 0) → byLow a b c n = b - absI c * (absI n * ((ofC a b c - 1) / absI n)) ∧ byHigh a b c n = b ∧ byStr a b c n = (if (ofC a b c - 1) / absI n = 0 then 1 else -(absI c * absI n))) := by
  obtain ⟨p1, p2, p3, p4, p5, p6, p7, p8, p9, p10⟩ := parts hr hab
  have hlim := hr.1
  have e0 : byErr0 a b c n = 0 := by unfold byErr0; rw [if_neg (by rw [chk_zero.2 hr]; simp), if_neg hn, if_pos hl]
  have hm : 1 ≤ absI n := by unfold absI; split <;> omega
  have hd := div_up (C := ofC a b c) (m := absI n) (by omega) (by omega)
  have hz := div_zero_iff (C := ofC a b c) (m := absI n) p3 hm
  have eC : byC a b c n = (ofC a b c + absI n - 1) / absI n := by
    unfold byC absI; split <;> rfl
  have m0 := mulle (x := 0) (y := absI n * ((ofC a b c - 1) / absI n)) p1 (by omega)
  have m1 := mulle (x := absI n * ((ofC a b c - 1) / absI n)) (y := ofC a b c - 1) p1 (by omega)
  rw [Int.mul_zero] at m0
  have hsm : 1 ≤ absI c * absI n := by have := mulle (x := 1) (y := absI n) p1 hm; rw [Int.mul_one] at this; omega
  have eq : absI c * absI n * ((ofC a b c + absI n - 1) / absI n - 1) = absI c * (absI n * ((ofC a b c - 1) / absI n)) := by rw [hd.1, Int.mul_assoc]
  have fin : ∀ F B : Int, byF a b c n = F → byB a b c n = B → byErr a b c n = nErr F B (byC a b c n) ∧ byLow a b c n = nLow F B (byC a b c n) ∧ byHigh a b c n = nHigh F B (byC a b c n) ∧ byStr a b c n = nStr F B (byC a b c n) := by
    intro F B h1 h2
    simp only [byErr, byLow, byHigh, byStr, e0, ne_eq, not_true_eq_false, if_false, h1, h2, and_self]
  have hC1 : 1 ≤ (ofC a b c + absI n - 1) / absI n := by omega
  have up : byF a b c n = a → byB a b c n = absI c * absI n → byErr a b c n = 0 ∧ byLow a b c n = a ∧ byHigh a b c n = a + absI c * (absI n * ((ofC a b c - 1) / absI n)) ∧ byStr a b c n = (if (ofC a b c - 1) / absI n = 0 then 1 else absI c * absI n) := fun h1 h2 => by
    obtain ⟨f1, f2, f3, f4⟩ := fin _ _ h1 h2
    rw [f1, f2, f3, f4, eC]
    obtain ⟨q1, q2, q3, q4⟩ := nUp (F := a) (s := absI c * absI n) (C := (ofC a b c + absI n - 1) / absI n) hsm hC1 (by omega) (by rw [eq]; omega)
    rw [q1, q2, q3, q4, eq]
    refine ⟨rfl, rfl, rfl, ?_⟩
    by_cases h : (ofC a b c - 1) / absI n = 0
    · rw [if_pos (hz.2 h), if_pos h]
    · rw [if_neg (fun g => h (hz.1 g)), if_neg h]
  have dn : byF a b c n = b → byB a b c n = -(absI c * absI n) → byErr a b c n = 0 ∧ byLow a b c n = b - absI c * (absI n * ((ofC a b c - 1) / absI n)) ∧ byHigh a b c n = b ∧ byStr a b c n = (if (ofC a b c - 1) / absI n = 0 then 1 else -(absI c * absI n)) := fun h1 h2 => by
    obtain ⟨f1, f2, f3, f4⟩ := fin _ _ h1 h2
    rw [f1, f2, f3, f4, eC]
    obtain ⟨q1, q2, q3, q4⟩ := nDn (F := b) (s := absI c * absI n) (C := (ofC a b c + absI n - 1) / absI n) hsm hC1 (by omega) (by rw [eq]; omega)
    rw [q1, q2, q3, q4, eq]
    refine ⟨rfl, rfl, rfl, ?_⟩
    by_cases h : (ofC a b c - 1) / absI n = 0
    · rw [if_pos (hz.2 h), if_pos h]
    · rw [if_neg (fun g => h (hz.1 g)), if_neg h]
  have etF : tF (ofF a b c) (ofB a b c) (ofC a b c) = if c < 0 then a else b := by
    unfold tF sLast
    rw [if_neg (by omega), p6, p7]
    by_cases hc : c < 0
    · rw [if_pos hc, if_pos hc]
      have e : absI c * (ofC a b c - 1) = -(c * (ofC a b c - 1)) := by rw [absI_neg hc, Int.neg_mul]
      omega
    · rw [if_neg hc, if_neg hc]
      have : c = absI c := (absI_pos hc).symm
      rw [show c * (ofC a b c - 1) = absI c * (ofC a b c - 1) by rw [← this]]
      omega
  have etB : tB (ofF a b c) (ofB a b c) (ofC a b c) = -c := by unfold tB; rw [if_neg (by omega), p6]
  by_cases hc : c < 0 <;> by_cases hng : n < 0
  · have h := up (by simp only [byF, if_pos hng, etF, if_pos hc]) (by simp only [byB, if_pos hng, etB, absI_neg hc, absI_neg hng])
    exact ⟨h.1, fun _ => h.2, fun g => absurd (by simp [hc, hng]) g⟩
  · have h := dn (by simp only [byF, if_neg hng, p7, if_pos hc]) (by simp only [byB, if_neg hng, p6, absI_neg hc, absI_pos hng, Int.neg_mul, Int.neg_neg])
    exact ⟨h.1, fun g => absurd (g.1 hc) hng, fun _ => h.2⟩
  · have h := dn (by simp only [byF, if_pos hng, etF, if_neg hc]) (by simp only [byB, if_pos hng, etB, absI_pos hc, absI_neg hng, Int.neg_mul])
    exact ⟨h.1, fun g => absurd (g.2 hng) hc, fun _ => h.2⟩
  · have h := up (by simp only [byF, if_neg hng, p7, if_neg hc]) (by simp only [byB, if_neg hng, p6, absI_pos hc, absI_pos hng])
    exact ⟨h.1, fun _ => h.2, fun g => absurd (by simp [hc, hng]) g⟩

end Go.RX.Span

/- Ranges: series upwards and in a range's direction. -/
set_option linter.unusedVariables false
set_option linter.unusedSimpArgs false
set_option maxRecDepth 100000
namespace Go.RX.Span
open Go Go.RX

def uF (a b c : Int) : Int := if b < 0 then tF a b c else a
def uB (a b c : Int) : Int := if b < 0 then tB a b c else b
def kF (a b c r : Int) : Int := if r < 0 then tF a b c else a
def kB (a b c r : Int) : Int := if r < 0 then tB a b c else b
noncomputable def c_up : Con := fun args => match args with
  | [.agg [.lit (.int .i64 a), .lit (.int .i64 b), .lit (.int .i64 c)]] =>
    .ask (b < 0 → c ≠ 0 → I64 (c - 1) ∧ I64 (b * (c - 1)) ∧ I64 (a + b * (c - 1)) ∧ I64 (-b)) (.ret (.agg [.lit (.int .i64 (lk uF a b c)), .lit (.int .i64 (lk uB a b c)), .lit (.int .i64 c)]))
  | _ => .stuck 1
noncomputable def c_like : Con := fun args => match args with
  | [.agg [.lit (.int .i64 a), .lit (.int .i64 b), .lit (.int .i64 c)], .agg [.lit (.int .i64 x), .lit (.int .i64 y), .lit (.int .i64 r)]] =>
    .ask (r < 0 → c ≠ 0 → I64 (c - 1) ∧ I64 (b * (c - 1)) ∧ I64 (a + b * (c - 1)) ∧ I64 (-b)) (.ret (.agg [.lit (.int .i64 (lk kF a b c r)), .lit (.int .i64 (lk kB a b c r)), .lit (.int .i64 c)]))
  | _ => .stuck 1

set_option maxRecDepth 100000 in
theorem t_up (a b c : Int) : conB Go.Proofs.Try.prog (conOf k7) noLoops 10 113 [.agg [.lit (.int .i64 a), .lit (.int .i64 b), .lit (.int .i64 c)]] =
    T.br (U.lt b (0 : Int)) (.ask (c ≠ (0 : Int) → I64 (c - (1 : Int)) ∧ I64 (b * (c - (1 : Int))) ∧ I64 (a + b * (c - (1 : Int))) ∧ I64 (-b)) (.ret (.agg [.lit (.int .i64 (lk tF a b
      c)), .lit (.int .i64 (lk tB a b c)), .lit (.int .i64 c)]))) (.ret (.agg [.lit (.int .i64 a), .lit (.int .i64 b), .lit (.int .i64 c)])) := by kernel_rfl
theorem up_ok : ConOK P 113 c_up := con_of (allOK mixed k7_ok) 10 113 fun args r h => by
  unfold c_up at h
  split at h
  · rename_i a b c
    have hp := (T.is_ask h).1
    have h := (T.is_ask h).2
    obtain rfl := T.is_ret h
    rw [t_up]
    simp only [T.All, U.le_t, U.le_f, U.lt_t, U.lt_f, U.gt_t, U.gt_f, U.ge_t, U.ge_f, U.eq_t, U.eq_f, U.ne_t, U.ne_f, U.not_t, U.not_f, U.andb_t, U.andb_f, SV.lit.injEq, SV.agg.injEq, SV.tup.injEq, List.cons.injEq, Value.int.injEq, Value.bool.injEq, true_and, and_true, lk_eq]
    refine ⟨fun h => ⟨hp h, ?_⟩, fun h => ?_⟩
    · simp [uF, uB, h]
    · have n1 : ¬ b < 0 := by omega
      simp [uF, uB, n1]
  · exact h.elim
set_option maxRecDepth 100000 in
theorem t_like (a b c x y r : Int) : conB Go.Proofs.Try.prog (conOf k7) noLoops 10 114 [.agg [.lit (.int .i64 a), .lit (.int .i64 b), .lit (.int .i64 c)], .agg [.lit (.int .i64 x), .lit (.int .i64 y), .lit (.int .i64 r)]] =
    T.br (U.lt r (0 : Int)) (.ask (c ≠ (0 : Int) → I64 (c - (1 : Int)) ∧ I64 (b * (c - (1 : Int))) ∧ I64 (a + b * (c - (1 : Int))) ∧ I64 (-b)) (.ret (.agg [.lit (.int .i64 (lk tF a b
      c)), .lit (.int .i64 (lk tB a b c)), .lit (.int .i64 c)]))) (.ret (.agg [.lit (.int .i64 a), .lit (.int .i64 b), .lit (.int .i64 c)])) := by kernel_rfl
theorem like_ok : ConOK P 114 c_like := con_of (allOK mixed k7_ok) 10 114 fun args r h => by
  unfold c_like at h
  split at h
  · rename_i a b c x y r
    have hp := (T.is_ask h).1
    have h := (T.is_ask h).2
    obtain rfl := T.is_ret h
    rw [t_like]
    simp only [T.All, U.le_t, U.le_f, U.lt_t, U.lt_f, U.gt_t, U.gt_f, U.ge_t, U.ge_f, U.eq_t, U.eq_f, U.ne_t, U.ne_f, U.not_t, U.not_f, U.andb_t, U.andb_f, SV.lit.injEq, SV.agg.injEq, SV.tup.injEq, List.cons.injEq, Value.int.injEq, Value.bool.injEq, true_and, and_true, lk_eq]
    refine ⟨fun h => ⟨hp h, ?_⟩, fun h => ?_⟩
    · simp [kF, kB, h]
    · have n1 : ¬ r < 0 := by omega
      simp [kF, kB, n1]
  · exact h.elim

noncomputable abbrev k8 : List (Nat × Con) := (113, c_up) :: (114, c_like) :: k7 --%K
theorem k8_ok : ∀ p ∈ k8, ConOK P p.1 p.2 := by
  intro p hp
  simp only [k8, List.mem_cons] at hp
  rcases hp with rfl | rfl | hp
  · exact up_ok
  · exact like_ok
  · exact k7_ok p (by simpa [k7] using hp)
end Go.RX.Span

/- Ranges: Translate of the program and of the reference. -/
set_option linter.unusedVariables false
set_option linter.unusedSimpArgs false
set_option maxRecDepth 100000
namespace Go.RX.Span
open Go Go.RX

theorem up_of {a b c : Int} (hr : Right a b c) (hab : a ≤ b) : uF (ofF a b c) (ofB a b c) (ofC a b c) = a ∧ uB (ofF a b c) (ofB a b c) (ofC a b c) = absI c := by
  obtain ⟨p1, p2, p3, p4, p5, p6, p7, p8, p9, p10⟩ := parts hr hab
  unfold uF uB
  rw [p6, p7]
  by_cases hc : c < 0
  · have e : absI c * (ofC a b c - 1) = -(c * (ofC a b c - 1)) := by rw [absI_neg hc, Int.neg_mul]
    simp only [if_pos hc, tF, tB, sLast, if_neg (show ¬ ofC a b c = 0 by omega), absI_neg hc]
    exact ⟨by omega, trivial⟩
  · simp only [if_neg hc, absI_pos hc, and_self]

/-- A range out of a series upwards, in a direction. -/
def mvE (f s C : Int) : Int := if C ≤ 0 then 0 else if (-1000000 ≤ f ∧ f ≤ 1000000) ∧ (-1000000 ≤ f + s * (C - 1) ∧ f + s * (C - 1) ≤ 1000000) then 0 else 4
def mvLow (f s C : Int) : Int := if C ≤ 0 then 1 else if mvE f s C = 0 then f else 0
def mvHigh (f s C : Int) : Int := if C ≤ 0 then 0 else if mvE f s C = 0 then f + s * (C - 1) else 0
def mvStr (f s C c : Int) : Int := if C ≤ 0 then 1 else if mvE f s C = 0 then (if C = 1 then 1 else if c < 0 then -s else s) else 0

theorem nrm_like {f s C c : Int} (hs : 1 ≤ s) :
    nErr (kF f s C c) (kB f s C c) C = mvE f s C ∧ nLow (kF f s C c) (kB f s C c) C = mvLow f s C ∧ nHigh (kF f s C c) (kB f s C c) C = mvHigh f s C ∧ nStr (kF f s C c) (kB f s C c) C = mvStr f s C c := by
  by_cases hC : C ≤ 0
  · simp [nErr, nLow, nHigh, nStr, mvE, mvLow, mvHigh, mvStr, hC]
  have h0 := mulle (x := 0) (y := C - 1) hs (by omega)
  rw [Int.mul_zero] at h0
  have n0 : ¬ C = 0 := by omega
  by_cases hc : c < 0
  · have eF : kF f s C c = f + s * (C - 1) := by simp only [kF, if_pos hc, tF, sLast, if_neg n0]
    have eB : kB f s C c = -s := by simp only [kB, if_pos hc, tB, if_neg n0]
    rw [eF, eB]
    have el : sLast (f + s * (C - 1)) (-s) C = f := by unfold sLast; rw [Int.neg_mul]; omega
    have e : nErr (f + s * (C - 1)) (-s) C = mvE f s C := by
      unfold nErr mvE
      rw [if_neg hC, if_neg hC, el]
      by_cases h : (-1000000 ≤ f ∧ f ≤ 1000000) ∧ (-1000000 ≤ f + s * (C - 1) ∧ f + s * (C - 1) ≤ 1000000)
      · rw [if_pos h, if_pos (by omega)]
      · rw [if_neg h, if_neg (by omega)]
    refine ⟨e, ?_, ?_, ?_⟩
    · simp only [nLow, mvLow, e, if_neg hC, el]; split <;> omega
    · simp only [nHigh, mvHigh, e, if_neg hC, el]; split <;> omega
    · simp only [nStr, mvStr, e, if_neg hC, if_pos hc]
  · have eF : kF f s C c = f := by simp only [kF, if_neg hc]
    have eB : kB f s C c = s := by simp only [kB, if_neg hc]
    rw [eF, eB]
    have el : sLast f s C = f + s * (C - 1) := rfl
    have e : nErr f s C = mvE f s C := by
      unfold nErr mvE
      rw [if_neg hC, if_neg hC, el]
    refine ⟨e, ?_, ?_, ?_⟩
    · simp only [nLow, mvLow, e, if_neg hC, el]; split <;> omega
    · simp only [nHigh, mvHigh, e, if_neg hC, el]; split <;> omega
    · simp only [nStr, mvStr, e, if_neg hC, if_neg hc]

theorem like_bnd {f s C c : Int} (hC : C ≠ 0) : (kB f s C c * (C - 1) = s * (C - 1) ∨ kB f s C c * (C - 1) = -(s * (C - 1))) ∧ (kF f s C c + kB f s C c * (C - 1) = f ∨ kF f s C c + kB f s C c * (C - 1) = f + s * (C - 1)) := by
  by_cases hc : c < 0
  · have eF : kF f s C c = f + s * (C - 1) := by simp only [kF, if_pos hc, tF, sLast, if_neg hC]
    have eB : kB f s C c = -s := by simp only [kB, if_pos hc, tB, if_neg hC]
    rw [eF, eB, Int.neg_mul]
    exact ⟨.inr rfl, .inl (by omega)⟩
  · have eF : kF f s C c = f := by simp only [kF, if_neg hc]
    have eB : kB f s C c = s := by simp only [kB, if_neg hc]
    rw [eF, eB]
    exact ⟨.inl rfl, .inr rfl⟩

def trE (a b c n : Int) : Int := if chk a b c ≠ 0 then chk a b c else if a > b then 0 else if n > 2000000 then 4 else mvE (a + max n (-3000000)) (absI c) (ofC a b c)
def trLow (a b c n : Int) : Int := if chk a b c ≠ 0 then 0 else if a > b then 1 else if n > 2000000 then 0 else mvLow (a + max n (-3000000)) (absI c) (ofC a b c)
def trHigh (a b c n : Int) : Int := if chk a b c ≠ 0 then 0 else if a > b then 0 else if n > 2000000 then 0 else mvHigh (a + max n (-3000000)) (absI c) (ofC a b c)
def trStr (a b c n : Int) : Int := if chk a b c ≠ 0 then 0 else if a > b then 1 else if n > 2000000 then 0 else mvStr (a + max n (-3000000)) (absI c) (ofC a b c) c
noncomputable def c_Translate : Con := fun args => match args with
  | [.agg [.lit (.int .i64 a), .lit (.int .i64 b), .lit (.int .i64 c)], .lit (.int .i64 n)] =>
    .ask (I64 a ∧ I64 b ∧ I64 c ∧ I64 n) (.ret (.tup [.agg [.lit (.int .i64 (lk trLow a b c n)), .lit (.int .i64 (lk trHigh a b c n)), .lit (.int .i64 (lk trStr a b c n))], .lit (.int .i64 (lk trE a b c n))]))
  | _ => .stuck 1

set_option maxRecDepth 100000 in
theorem t_Translate (a b c n : Int) : conB Go.Proofs.Try.prog (conOf k8) noLoops 10 31 [.agg [.lit (.int .i64 a), .lit (.int .i64 b), .lit (.int .i64 c)], .lit (.int .i64 n)] =
    T.ask (I64 a ∧ I64 b ∧ I64 c) (.br (U.ne (lk chk a b c) (0 : Int)) (.ret (.tup [.agg [.lit (.int .i64 0), .lit (.int .i64 0), .lit (.int .i64 0)], .lit (.int .i64 (lk chk a b c))]))
      (.ask (a ≤ b → c ≠ (0 : Int) ∧ (-9223372036854775807 : Int) ≤ c ∧ b - a < (9223372036854775807 : Int) ∧ I64 a ∧ I64 b ∧ I64 c) (.ask (lk ofB a b c < (0 : Int) → lk ofC a b c ≠ (0 :
      Int) → I64 (lk ofC a b c - (1 : Int)) ∧ I64 (lk ofB a b c * (lk ofC a b c - (1 : Int))) ∧ I64 (lk ofF a b c + lk ofB a b c * (lk ofC a b c - (1 : Int))) ∧ I64 (-lk ofB a b c)) (.br
      (U.eq (lk ofC a b c) (0 : Int)) (.ask ((0 : Int) < lk ofC a b c → I64 (lk ofC a b c - (1 : Int)) ∧ I64 (lk uB (lk ofF a b c) (lk ofB a b c) (lk ofC a b c) * (lk ofC a b c - (1 :
      Int))) ∧ I64 (lk uF (lk ofF a b c) (lk ofB a b c) (lk ofC a b c) + lk uB (lk ofF a b c) (lk ofB a b c) (lk ofC a b c) * (lk ofC a b c - (1 : Int)))) (.ret (.tup [.agg [.lit (.int
      .i64 (lk nLow (lk uF (lk ofF a b c) (lk ofB a b c) (lk ofC a b c)) (lk uB (lk ofF a b c) (lk ofB a b c) (lk ofC a b c)) (lk ofC a b c))), .lit (.int .i64 (lk nHigh (lk uF (lk ofF a
      b c) (lk ofB a b c) (lk ofC a b c)) (lk uB (lk ofF a b c) (lk ofB a b c) (lk ofC a b c)) (lk ofC a b c))), .lit (.int .i64 (lk nStr (lk uF (lk ofF a b c) (lk ofB a b c) (lk ofC a b
      c)) (lk uB (lk ofF a b c) (lk ofB a b c) (lk ofC a b c)) (lk ofC a b c)))], .lit (.int .i64 (lk nErr (lk uF (lk ofF a b c) (lk ofB a b c) (lk ofC a b c)) (lk uB (lk ofF a b c) (lk
      ofB a b c) (lk ofC a b c)) (lk ofC a b c)))]))) (.br (U.gt n (2000000 : Int)) (.ret (.tup [.agg [.lit (.int .i64 0), .lit (.int .i64 0), .lit (.int .i64 0)], .lit (.int .i64 4)]))
      (.ask (c < (0 : Int) → lk ofC a b c ≠ (0 : Int) → I64 (lk ofC a b c - (1 : Int)) ∧ I64 (lk uB (lk ofF a b c) (lk ofB a b c) (lk ofC a b c) * (lk ofC a b c - (1 : Int))) ∧ I64 (U.add
      .i64 (lk uF (lk ofF a b c) (lk ofB a b c) (lk ofC a b c)) (U.mm true n (-3000000 : Int)) + lk uB (lk ofF a b c) (lk ofB a b c) (lk ofC a b c) * (lk ofC a b c - (1 : Int))) ∧ I64
      (-lk uB (lk ofF a b c) (lk ofB a b c) (lk ofC a b c))) (.ask ((0 : Int) < lk ofC a b c → I64 (lk ofC a b c - (1 : Int)) ∧ I64 (lk kB (U.add .i64 (lk uF (lk ofF a b c) (lk ofB a b c)
      (lk ofC a b c)) (U.mm true n (-3000000 : Int))) (lk uB (lk ofF a b c) (lk ofB a b c) (lk ofC a b c)) (lk ofC a b c) c * (lk ofC a b c - (1 : Int))) ∧ I64 (lk kF (U.add .i64 (lk uF
      (lk ofF a b c) (lk ofB a b c) (lk ofC a b c)) (U.mm true n (-3000000 : Int))) (lk uB (lk ofF a b c) (lk ofB a b c) (lk ofC a b c)) (lk ofC a b c) c + lk kB (U.add .i64 (lk uF (lk
      ofF a b c) (lk ofB a b c) (lk ofC a b c)) (U.mm true n (-3000000 : Int))) (lk uB (lk ofF a b c) (lk ofB a b c) (lk ofC a b c)) (lk ofC a b c) c * (lk ofC a b c - (1 : Int)))) (.ret
      (.tup [.agg [.lit (.int .i64 (lk nLow (lk kF (U.add .i64 (lk uF (lk ofF a b c) (lk ofB a b c) (lk ofC a b c)) (U.mm true n (-3000000 : Int))) (lk uB (lk ofF a b c) (lk ofB a b c)
      (lk ofC a b c)) (lk ofC a b c) c) (lk kB (U.add .i64 (lk uF (lk ofF a b c) (lk ofB a b c) (lk ofC a b c)) (U.mm true n (-3000000 : Int))) (lk uB (lk ofF a b c) (lk ofB a b c) (lk
      ofC a b c)) (lk ofC a b c) c) (lk ofC a b c))), .lit (.int .i64 (lk nHigh (lk kF (U.add .i64 (lk uF (lk ofF a b c) (lk ofB a b c) (lk ofC a b c)) (U.mm true n (-3000000 : Int))) (lk
      uB (lk ofF a b c) (lk ofB a b c) (lk ofC a b c)) (lk ofC a b c) c) (lk kB (U.add .i64 (lk uF (lk ofF a b c) (lk ofB a b c) (lk ofC a b c)) (U.mm true n (-3000000 : Int))) (lk uB (lk
      ofF a b c) (lk ofB a b c) (lk ofC a b c)) (lk ofC a b c) c) (lk ofC a b c))), .lit (.int .i64 (lk nStr (lk kF (U.add .i64 (lk uF (lk ofF a b c) (lk ofB a b c) (lk ofC a b c)) (U.mm
      true n (-3000000 : Int))) (lk uB (lk ofF a b c) (lk ofB a b c) (lk ofC a b c)) (lk ofC a b c) c) (lk kB (U.add .i64 (lk uF (lk ofF a b c) (lk ofB a b c) (lk ofC a b c)) (U.mm true n
      (-3000000 : Int))) (lk uB (lk ofF a b c) (lk ofB a b c) (lk ofC a b c)) (lk ofC a b c) c) (lk ofC a b c)))], .lit (.int .i64 (lk nErr (lk kF (U.add .i64 (lk uF (lk ofF a b c) (lk
      ofB a b c) (lk ofC a b c)) (U.mm true n (-3000000 : Int))) (lk uB (lk ofF a b c) (lk ofB a b c) (lk ofC a b c)) (lk ofC a b c) c) (lk kB (U.add .i64 (lk uF (lk ofF a b c) (lk ofB a
      b c) (lk ofC a b c)) (U.mm true n (-3000000 : Int))) (lk uB (lk ofF a b c) (lk ofB a b c) (lk ofC a b c)) (lk ofC a b c) c) (lk ofC a b c)))]))))))))) := by kernel_rfl
theorem Translate_ok : ConOK P 31 c_Translate := con_of (allOK mixed k8_ok) 10 31 fun args r h => by
  unfold c_Translate at h
  split at h
  · rename_i a b c n
    have hp := (T.is_ask h).1
    have h := (T.is_ask h).2
    obtain rfl := T.is_ret h
    rw [t_Translate]
    simp only [T.All, U.le_t, U.le_f, U.lt_t, U.lt_f, U.gt_t, U.gt_f, U.ge_t, U.ge_f, U.eq_t, U.eq_f, U.ne_t, U.ne_f, U.not_t, U.not_f, U.andb_t, U.andb_f, SV.lit.injEq, SV.agg.injEq, SV.tup.injEq, List.cons.injEq, Value.int.injEq, Value.bool.injEq, true_and, and_true, lk_eq, lim_t, lim_f, mm_min, mm_max]
    refine ⟨⟨hp.1, hp.2.1, hp.2.2.1⟩, fun h => ?_, fun h => ⟨of_ask (chk_zero.1 h) hp.1 hp.2.1 hp.2.2.1, ?_⟩⟩
    · simp [trE, trLow, trHigh, trStr, h]
    have hr := chk_zero.1 h
    have hl := hr.1
    by_cases hab : a ≤ b
    · obtain ⟨p1, p2, p3, p4, p5, p6, p7, p8, p9, p10⟩ := parts hr hab
      obtain ⟨u1, u2⟩ := up_of hr hab
      obtain ⟨s1, s2, s3, s4, s5⟩ := series_of hr hab
      have sl := s5 (ofC a b c - 1) (by omega) (by omega)
      rw [u1, u2]
      have m1 : I64 (ofB a b c * (ofC a b c - 1)) := by unfold I64; omega
      refine ⟨fun _ _ => ⟨by unfold I64; omega, m1, by unfold I64; omega, by unfold I64; omega⟩, fun g => by omega, fun _ => ⟨fun g => ?_, fun g => ?_⟩⟩
      · have n1 : ¬ a > b := by omega
        simp [trE, trLow, trHigh, trStr, h, n1, g]
      · have n1 : ¬ a > b := by omega
        have n2 : ¬ n > 2000000 := by omega
        rw [U.add64 (by unfold I64; omega)]
        obtain ⟨q1, q2, q3, q4⟩ := nrm_like (f := a + max n (-3000000)) (s := absI c) (C := ofC a b c) (c := c) p1
        rw [q1, q2, q3, q4]
        simp only [trE, trLow, trHigh, trStr, h, ne_eq, not_true_eq_false, if_false, if_neg n1, if_neg n2, and_self, and_true]
        obtain ⟨l1, l2⟩ := like_bnd (f := a + max n (-3000000)) (s := absI c) (C := ofC a b c) (c := c) (by omega)
        refine ⟨fun _ _ => ⟨by unfold I64; omega, by unfold I64; omega, by unfold I64; omega, by unfold I64; omega⟩, fun _ => ⟨by unfold I64; omega, ?_, ?_⟩⟩
        · unfold I64; omega
        · unfold I64; omega
    · obtain ⟨f1, f2, f3⟩ := empty_of (c := c) hab
      rw [f1, f2, f3]
      refine ⟨fun g => absurd g (by omega), fun _ => ⟨fun g => absurd g (by omega), ?_⟩, fun g => absurd rfl g⟩
      have n1 : a > b := by omega
      simp [nLow, nHigh, nStr, nErr, trE, trLow, trHigh, trStr, h, n1]
  · exact h.elim

theorem isE_t {a b c : Int} : (isE a b c = true) = (a = 1 ∧ b = 0 ∧ c = 1) := by unfold isE; simp
theorem isE_f {a b c : Int} : (isE a b c = false) = ¬ (a = 1 ∧ b = 0 ∧ c = 1) := by unfold isE; simp
theorem right_le {a b c : Int} (hr : Right a b c) (h : ¬ (a = 1 ∧ b = 0 ∧ c = 1)) : a ≤ b := by rcases hr.2 with h' | h' | h' <;> omega
/-- The reference's way to the same. -/
theorem rn_mv {f s C c : Int} (hs : 1 ≤ s) (hC : 1 ≤ C) (h : mvE f s C = 0) (d : Bool) (hd : d = decide (c < 0)) :
    rnL f (f + s * (C - 1)) s d = mvLow f s C ∧ rnH f (f + s * (C - 1)) s d = mvHigh f s C ∧ rnS f (f + s * (C - 1)) s d = mvStr f s C c := by
  have h0 := mulle (x := 0) (y := C - 1) hs (by omega)
  have hz := mul0 (s := s) (k := C - 1) hs
  rw [Int.mul_zero] at h0
  have n1 : ¬ C ≤ 0 := by omega
  simp only [mvLow, mvHigh, mvStr, h, if_neg n1, if_true]
  by_cases hc : c < 0
  · have : d = true := by rw [hd]; simp [hc]
    subst this
    obtain ⟨q1, q2, q3⟩ := rn_dn (l := f) (h := f + s * (C - 1)) (s := s) (by omega)
    rw [q1, q2, q3, if_pos hc]
    refine ⟨rfl, rfl, ?_⟩
    by_cases h : C = 1
    · rw [if_pos (by omega), if_pos h]
    · rw [if_neg (by omega), if_neg h]
  · have : d = false := by rw [hd]; simp; omega
    subst this
    obtain ⟨q1, q2, q3⟩ := rn_up (l := f) (h := f + s * (C - 1)) (s := s) (by omega)
    rw [q1, q2, q3, if_neg hc]
    refine ⟨rfl, rfl, ?_⟩
    by_cases h : C = 1
    · rw [if_pos (by omega), if_pos h]
    · rw [if_neg (by omega), if_neg h]

set_option maxRecDepth 100000 in
theorem t_rTranslate (a b c n : Int) : conB Go.Proofs.Try.prog (conOf k8) noLoops 10 204 [.agg [.lit (.int .i64 a), .lit (.int .i64 b), .lit (.int .i64 c)], .lit (.int .i64 n)] =
    T.ask (I64 a ∧ I64 b ∧ I64 c) (.br (U.ne (lk chk a b c) (0 : Int)) (.ret (.tup [.agg [.lit (.int .i64 0), .lit (.int .i64 0), .lit (.int .i64 0)], .lit (.int .i64 (lk chk a b c))]))
      (.br (lk isE a b c) (.ret (.tup [.agg [.lit (.int .i64 a), .lit (.int .i64 b), .lit (.int .i64 c)], .lit (.int .i64 0)])) (.br (U.gt n (2000000 : Int)) (.ret (.tup [.agg [.lit (.int
      .i64 0), .lit (.int .i64 0), .lit (.int .i64 0)], .lit (.int .i64 4)])) (.br (U.lt n (-2000000 : Int)) (.ret (.tup [.agg [.lit (.int .i64 0), .lit (.int .i64 0), .lit (.int .i64
      0)], .lit (.int .i64 4)])) (.ask (I64 (-c)) (.br (U.le (U.add .i64 a n) (U.add .i64 b n)) (.br (U.not (lk lim (U.add .i64 a n))) (.ret (.tup [.agg [.lit (.int .i64 0), .lit (.int
      .i64 0), .lit (.int .i64 0)], .lit (.int .i64 4)])) (.br (U.not (lk lim (U.add .i64 b n))) (.ret (.tup [.agg [.lit (.int .i64 0), .lit (.int .i64 0), .lit (.int .i64 0)], .lit (.int
      .i64 4)])) (.ask (U.add .i64 a n < U.add .i64 b n → U.lt c (0 : Int) = true → I64 (-lk absI c)) (.ret (.tup [.agg [.lit (.int .i64 (lk rnL (U.add .i64 a n) (U.add .i64 b n) (lk absI
      c) (U.lt c (0 : Int)))), .lit (.int .i64 (lk rnH (U.add .i64 a n) (U.add .i64 b n) (lk absI c) (U.lt c (0 : Int)))), .lit (.int .i64 (lk rnS (U.add .i64 a n) (U.add .i64 b n) (lk
      absI c) (U.lt c (0 : Int))))], .lit (.int .i64 0)]))))) (.ask (U.add .i64 a n < U.add .i64 b n → U.lt c (0 : Int) = true → I64 (-lk absI c)) (.ret (.tup [.agg [.lit (.int .i64 (lk
      rnL (U.add .i64 a n) (U.add .i64 b n) (lk absI c) (U.lt c (0 : Int)))), .lit (.int .i64 (lk rnH (U.add .i64 a n) (U.add .i64 b n) (lk absI c) (U.lt c (0 : Int)))), .lit (.int .i64
      (lk rnS (U.add .i64 a n) (U.add .i64 b n) (lk absI c) (U.lt c (0 : Int))))], .lit (.int .i64 0)]))))))))) := by kernel_rfl
theorem rTranslate_ok : ConOK P 204 c_Translate := con_of (allOK mixed k8_ok) 10 204 fun args r h => by
  unfold c_Translate at h
  split at h
  · rename_i a b c n
    have hp := (T.is_ask h).1
    have h := (T.is_ask h).2
    obtain rfl := T.is_ret h
    rw [t_rTranslate]
    simp only [T.All, U.le_t, U.le_f, U.lt_t, U.lt_f, U.gt_t, U.gt_f, U.ge_t, U.ge_f, U.eq_t, U.eq_f, U.ne_t, U.ne_f, U.not_t, U.not_f, U.andb_t, U.andb_f, SV.lit.injEq, SV.agg.injEq, SV.tup.injEq, List.cons.injEq, Value.int.injEq, Value.bool.injEq, true_and, and_true, lk_eq, lim_t, lim_f, isE_t, isE_f, U.lt_t]
    refine ⟨⟨hp.1, hp.2.1, hp.2.2.1⟩, fun h => ?_, fun h => ⟨fun he => ?_, fun he => ⟨fun hn => ?_, fun hn => ⟨fun hn2 => ?_, fun hn2 => ?_⟩⟩⟩⟩
    · simp [trE, trLow, trHigh, trStr, h]
    · obtain ⟨rfl, rfl, rfl⟩ := he
      simp [trE, trLow, trHigh, trStr, h]
    all_goals
      have hr := chk_zero.1 h
      have hl := hr.1
      have hab := right_le hr he
      obtain ⟨p1, p2, p3, p4, p5, p6, p7, p8, p9, p10⟩ := parts hr hab
      have n1 : ¬ a > b := by omega
    · simp [trE, trLow, trHigh, trStr, h, n1, hn]
    all_goals
      have n2 : ¬ n > 2000000 := by omega
    · have e : mvE (a + max n (-3000000)) (absI c) (ofC a b c) = 4 := by
        unfold mvE; rw [if_neg (by omega), if_neg (by omega)]
      simp only [trE, trLow, trHigh, trStr, h, ne_eq, not_true_eq_false, if_false, if_neg n1, if_neg n2, mvLow, mvHigh, mvStr, e, if_neg (show ¬ ofC a b c ≤ 0 by omega)]
      simp
    have e1 : U.add .i64 a n = a + n := U.add64 (by unfold I64; omega)
    have e2 : U.add .i64 b n = b + n := U.add64 (by unfold I64; omega)
    have em : max n (-3000000) = n := by omega
    rw [e1, e2]
    have ed : U.lt c 0 = decide (c < 0) := U.lt_eq c 0
    have eb : a + n + absI c * (ofC a b c - 1) = b + n := by omega
    have n3 : ¬ ofC a b c ≤ 0 := by omega
    simp only [trE, trLow, trHigh, trStr, h, ne_eq, not_true_eq_false, if_false, if_neg n1, if_neg n2, em]
    have bad : ∀ x : Int, x = mvE (a + n) (absI c) (ofC a b c) → x = 4 → (0 = mvLow (a + n) (absI c) (ofC a b c) ∧ 0 = mvHigh (a + n) (absI c) (ofC a b c) ∧ 0 = mvStr (a + n) (absI c) (ofC a b c) c) ∧ 4 = mvE (a + n) (absI c) (ofC a b c) := fun x hx hx4 => by
      have e : mvE (a + n) (absI c) (ofC a b c) = 4 := by omega
      simp [mvLow, mvHigh, mvStr, e, n3]
    refine ⟨by unfold I64; omega, fun _ => ⟨fun g => bad _ rfl ?_, fun g1 => ⟨fun g => bad _ rfl ?_, fun g2 => ⟨fun _ _ => by unfold I64; omega, ?_, ?_⟩⟩⟩, fun g => by omega⟩
    · unfold mvE; rw [if_neg n3, if_neg (by omega)]
    · unfold mvE; rw [if_neg n3, if_neg (by omega)]
    all_goals
      have e : mvE (a + n) (absI c) (ofC a b c) = 0 := by unfold mvE; rw [if_neg n3, if_pos (by omega)]
    · rw [← eb]
      exact rn_mv p1 p3 e _ ed
    · exact e.symm
  · exact h.elim
end Go.RX.Span

/- Ranges: the numbers that a range yields. -/
set_option linter.unusedVariables false
set_option linter.unusedSimpArgs false
namespace Go.RX.Span
open Go Go.RX Go.RowKit Go.Shelf Go.Proofs

attribute [local go_sem] Oper.semAt_some

def num (a b c : Int) (k : Nat) : Int := ofF a b c + ofB a b c * k
def nums (a b c : Int) (k : Nat) : List Int := (List.range k).map (num a b c)
theorem nums_succ (a b c : Int) (k : Nat) : nums a b c (k + 1) = nums a b c k ++ [num a b c k] := by simp [nums, List.range_succ]
theorem nums_length (a b c : Int) (k : Nat) : (nums a b c k).length = k := by simp [nums]

theorem size_right {a b c : Int} {k : Nat} (h : (k : Int) < size a b c) : Right a b c ∧ a ≤ b ∧ size a b c = ofC a b c := by
  unfold size at h
  by_cases h0 : chk a b c = 0
  · rw [if_pos h0] at h
    have hr := chk_zero.1 h0
    refine ⟨hr, ?_, size_eq' hr⟩
    by_cases hab : a ≤ b
    · exact hab
    · have := empty_of (c := c) hab; omega
  · rw [if_neg h0] at h; omega
theorem num_bnd {a b c : Int} {k : Nat} (h : (k : Int) < size a b c) : -2000000 ≤ ofB a b c * k ∧ ofB a b c * k ≤ 2000000 ∧ -1000000 ≤ num a b c k ∧ num a b c k ≤ 1000000 := by
  obtain ⟨hr, hab, hs⟩ := size_right h
  obtain ⟨p1, p2, p3, p4, p5, p6, p7, p8, p9, p10⟩ := parts hr hab
  have hl := hr.1
  rw [hs] at h
  have m1 := mulle (s := absI c) (x := 0) (y := (k : Int)) p1 (by omega)
  have m2 := mulle (s := absI c) (x := (k : Int)) (y := ofC a b c - 1) p1 (by omega)
  rw [Int.mul_zero] at m1
  unfold num
  rw [p6, p7]
  by_cases hc : c < 0
  · have e : c = -absI c := by rw [absI_neg hc]; omega
    rw [if_pos hc]
    have : c * k = -(absI c * k) := by rw [e, Int.neg_mul, absI_neg (by omega : -absI c < 0)]; rw [Int.neg_neg]
    rw [this]
    generalize absI c * (k : Int) = z at *
    omega
  · rw [if_neg hc]
    have : c * k = absI c * k := by rw [absI_pos hc]
    rw [this]
    generalize absI c * (k : Int) = z at *
    omega

theorem size_nonneg (a b c : Int) : 0 ≤ size a b c := by
  unfold size
  by_cases h0 : chk a b c = 0
  · rw [if_pos h0]
    exact (ofC_bnd (chk_zero.1 h0)).1
  · rw [if_neg h0]; omega
theorem size_le (a b c : Int) : size a b c ≤ 2000001 := by
  unfold size
  by_cases h0 : chk a b c = 0
  · rw [if_pos h0]
    exact (ofC_bnd (chk_zero.1 h0)).2
  · rw [if_neg h0]; omega
/-- What a call leaves as it was. -/
theorem grown_of_below {w w' : World} (h : Below w.heap.size w w') : w.grownBy w' none := ⟨h.os, h.tape, h.output, h.size, fun k hk _ => h.block k hk⟩

theorem size_in {n : Nat} (a b c : Int) (ha : I64 a) (hb : I64 b) (hc : I64 c) (w : World) :
    CallsIn Fence.wide n P 28 #[.agg #[.int .i64 a, .int .i64 b, .int .i64 c]] w fun e w' => e = .returned (.int .i64 (size a b c)) ∧ Below w.heap.size w w' :=
  callsIn_wide.2 ((k7_ok (28, c_Size) (by simp [k7, k6, k5, k4, k3, k2, k1, k0]) [.agg [.lit (.int .i64 a), .lit (.int .i64 b), .lit (.int .i64 c)]] (.lit (.int .i64 (lk size a b c))) ⟨⟨ha, hb, hc⟩, rfl⟩ (fun _ => False) w
    [.agg #[.int .i64 a, .int .i64 b, .int .i64 c]] (fun _ h => h.elim) ⟨_, _, rfl, ⟨[_, _, _], rfl, _, _, rfl, rfl, _, _, rfl, rfl, _, _, rfl, rfl, rfl⟩, rfl⟩).mono
    fun e w' ⟨v, h1, h2, h3⟩ => ⟨by rw [h1, show v = .int .i64 (lk size a b c) from h3, lk_eq], h2⟩)
theorem of_in {n : Nat} (a b c : Int) (h : a ≤ b → c ≠ 0 ∧ -9223372036854775807 ≤ c ∧ b - a < 9223372036854775807 ∧ I64 a ∧ I64 b ∧ I64 c) (w : World) :
    CallsIn Fence.wide n P 112 #[.agg #[.int .i64 a, .int .i64 b, .int .i64 c]] w fun e w' => e = .returned (.agg #[.int .i64 (ofF a b c), .int .i64 (ofB a b c), .int .i64 (ofC a b c)]) ∧ Below w.heap.size w w' :=
  callsIn_wide.2 ((k7_ok (112, c_of) (by simp [k7, k6, k5, k4, k3, k2, k1, k0]) [.agg [.lit (.int .i64 a), .lit (.int .i64 b), .lit (.int .i64 c)]] (.agg [.lit (.int .i64 (lk ofF a b c)), .lit (.int .i64 (lk ofB a b c)), .lit (.int .i64 (lk ofC a b c))]) ⟨h, rfl⟩ (fun _ => False) w
    [.agg #[.int .i64 a, .int .i64 b, .int .i64 c]] (fun _ h => h.elim) ⟨_, _, rfl, ⟨[_, _, _], rfl, _, _, rfl, rfl, _, _, rfl, rfl, _, _, rfl, rfl, rfl⟩, rfl⟩).mono
    fun e w' ⟨v, h1, h2, us, h3, u1, u1', g1, g2, u2, u2', g3, g4, u3, u3', g5, g6, g7⟩ => ⟨by
      rw [h1, h3]
      subst g1; subst g3; subst g5; subst g7
      rw [show u1 = .int .i64 (lk ofF a b c) from g2, show u2 = .int .i64 (lk ofB a b c) from g4, show u3 = .int .i64 (lk ofC a b c) from g6]
      simp only [lk_eq], h2⟩)

theorem meas (z k : Nat) (x : Int) (hx : x = (k : Int) + 1) (h : k + 1 ≤ z) : z - (intOf (.int .i64 x)).toNat < z - (intOf (.int .i64 k)).toNat := by
  subst hx
  simp only [intOf]
  omega
/-- The box of a range. -/
def Box3 (W : World) (B : Nat) (a b c : Int) : Prop := W.heap[B]? = some (.cells #[.int .i64 a, .int .i64 b, .int .i64 c] 23 (0, 0))

theorem Box3.lt {W : World} {B : Nat} {a b c : Int} (h : Box3 W B a b c) : B < W.heap.size := (Array.getElem?_eq_some_iff.1 h).1
theorem Box3.cell {W : World} {B : Nat} {a b c : Int} (h : Box3 W B a b c) : W.cell? ⟨B, 0, none⟩ = some (.int .i64 a) ∧ W.cell? ⟨B, 1, none⟩ = some (.int .i64 b) ∧ W.cell? ⟨B, 2, none⟩ = some (.int .i64 c) := by
  refine ⟨?_, ?_, ?_⟩ <;> simp [World.cell?, show W.heap[B]? = _ from h]
theorem own_box3 {β : Type} (B : Nat) (a b c : Int) : Own (fun (_ : β) W => Box3 W B a b c) := fun s X Y row h hg hr =>
  (hg.block B h.lt (fun e => by
    obtain ⟨o, ho, hc⟩ := hr B e.symm
    rw [show X.heap[B]? = _ from h] at ho; cases ho; cases hc)).trans h

set_option maxRecDepth 100000 in
set_option maxHeartbeats 4000000 in
theorem all1_in (n : Nat) (hn : 1 ≤ n) (l Bs : Nat) (a b c : Int) (ha : I64 a) (hb : I64 b) (hc : I64 c) (J Jx : List Int → World → Prop) (W : World) (hJ : AbidesFrom W.heap.size J)
    (hY : ∀ pre x W, J pre W → pre.length < (size a b c).toNat → YieldAt Fence.wide (n - 1) P l #[.int .i64 x] W fun e W' =>
      (e = .returned (.bool true) ∧ J (pre ++ [x]) W' ∧ W'.heap[Bs]? = W.heap[Bs]?) ∨ (e = .returned (.bool false) ∧ Jx (pre ++ [x]) W'))
    (hBs : Box3 W Bs a b c) (h0 : J [] W) :
    CallsIn Fence.wide n P 176 #[.func (.yield l) #[] #[], .pointer (some ⟨Bs, 0, none⟩)] W fun e W' => (∃ v, e = .returned v) ∧
      ((∃ ys, ys = nums a b c (size a b c).toNat ∧ J ys W') ∨ (∃ pre, (∃ k, k ≤ (size a b c).toNat ∧ pre = nums a b c k) ∧ Jx pre W')) := by
  refine callsIn_of_wp Go.Proofs.Try.func176 rfl trivial ?_ rfl
  simp only [Go.Proofs.Try.ntmps176, List.size_toArray, List.length_cons, List.length_nil, Nat.reduceAdd, Nat.reduceSub, Array.replicate_succ, Array.replicate_zero, List.push_toArray, List.append_toArray, List.nil_append, List.cons_append]
  obtain ⟨c0, c1, c2⟩ := hBs.cell
  gi_wp2_with (refine ⟨trivial, ?_⟩; gi_at_call 28; refine (size_in a b c ha hb hc _).mono ?_; rintro e w' ⟨rfl, bw⟩)
  have hB0 : Box3 w' Bs a b c := (bw.block Bs hBs.lt).trans hBs
  have hJw : J [] w' := hJ [] W w' none h0 (grown_of_below bw) (fun r e => by cases e)
  gi_loopw [7] (fun i wr => ∃ k : Nat, k ≤ (size a b c).toNat ∧ i = .int .i64 k ∧ J (nums a b c k) wr ∧ Box3 wr Bs a b c)
    (fun i _ => (size a b c).toNat - (intOf i).toNat)
  case atStart => exact ⟨0, Nat.zero_le _, rfl, hJw, hB0⟩
  case round =>
    obtain ⟨k, hk, rfl, hJs, hnx⟩ := hrel
    obtain ⟨d0, d1, d2⟩ := hnx.cell
    by_cases hlt : (k : Int) < size a b c
    · have hr := (size_right hlt).1
      obtain ⟨b1, b2, b3, b4⟩ := num_bnd hlt
      have hlen : (nums a b c k).length < (size a b c).toNat := by rw [nums_length]; omega
      have hk' : k + 1 ≤ (size a b c).toNat := by omega
      have hk1 : wrap64 ((k : Int) + 1) = (k : Int) + 1 := IntWalk.wrap64_in _ (by have := size_le a b c; omega)
      have hwr : wrap64 (ofF a b c + ofB a b c * (k : Int)) = num a b c k := by
        unfold num at b3 b4 ⊢
        exact IntWalk.wrap64_in (ofF a b c + ofB a b c * (k : Int)) ⟨by omega, by omega⟩
      gi_wp2_with (refine ⟨trivial, ?_⟩; gi_at_call 112; refine (of_in a b c (of_ask hr ha hb hc) _).mono ?_; rintro e w1 ⟨rfl, bw1⟩; have hB1 : Below wr.heap.size wr (w1.alloc (.cells #[.int .i64 (ofF a b c), .int .i64 (ofB a b c), .int .i64 (ofC a b c)] 114)) := bw1.alloc bw1.size _; have hJ1 : J (nums a b c k) (w1.alloc (.cells #[.int .i64 (ofF a b c), .int .i64 (ofB a b c), .int .i64 (ofC a b c)] 114)) := hJ _ wr _ none hJs (grown_of_below hB1) (fun r e => by cases e); obtain ⟨fn, tmps, assign, body, hy, hR⟩ := hY _ (num a b c k) _ hJ1 hlen)
      refine hR.mono ?_
      rintro e W3 (⟨rfl, hJ3, hk3⟩ | ⟨rfl, hJx3⟩)
      · gi_wp2
        go_roundw
        case rel => exact ⟨k + 1, hk', by simp [hk1], by rw [nums_succ]; exact hJ3, hk3.trans ((hB1.block Bs hnx.lt).trans hnx)⟩
        case measure => exact meas _ k _ hk1 hk'
      · gi_wp2
        refine bodyPost_ret (results_none rfl _ _ _) rfl ?_
        exact ⟨⟨_, rfl⟩, .inr ⟨_, ⟨k + 1, hk', (nums_succ _ _ _ _).symm⟩, hJx3⟩⟩
    · have hsz := size_nonneg a b c
      obtain rfl : k = (size a b c).toNat := by omega
      gi_wp2
      go_end0
      exact ⟨⟨_, rfl⟩, .inl hJs⟩

theorem all_stops (n : Nat) (hn : 1 ≤ n) (Bs : Nat) (a b c : Int) (ha : I64 a) (hb : I64 b) (hc : I64 c) (w : World) (hx : Box3 w Bs a b c) :
    SeqStopsK Fence.wide n P 176 #[.pointer (some ⟨Bs, 0, none⟩)] (fun x : Int => #[Value.int .i64 x]) (fun W W' => W'.heap[Bs]? = W.heap[Bs]?) (fun ys => ys = nums a b c (size a b c).toNat) (fun pre => ∃ k, k ≤ (size a b c).toNat ∧ pre = nums a b c k) (size a b c).toNat w := fun l J Jx W hW hJ _ hY h0 =>
  all1_in n hn l Bs a b c ha hb hc J Jx W hJ hY ((hW.block Bs hx.lt).trans hx) h0

set_option maxHeartbeats 1000000 in
theorem all_in (n : Nat) (a b c : Int) (w : World) :
    CallsIn Fence.wide n P 119 #[.agg #[.int .i64 a, .int .i64 b, .int .i64 c]] w fun e w' => e = .returned (.func (.func 176) #[] #[.pointer (some ⟨w.heap.size, 0, none⟩)]) ∧ w' = w.alloc (.cells #[.int .i64 a, .int .i64 b, .int .i64 c] 23) := by
  refine callsIn_of_wp Go.Proofs.Try.func119 rfl trivial ?_ rfl
  simp only [Go.Proofs.Try.ntmps119, List.size_toArray, List.length_cons, List.length_nil, Nat.reduceAdd, Nat.reduceSub, Array.replicate_succ, Array.replicate_zero, List.push_toArray, List.append_toArray, List.nil_append, List.cons_append]
  gi_wp2
  go_ret
  exact ⟨rfl, rfl⟩

theorem info3 : (Go.Proofs.Try.prog.info? 3).map (fun i => (i.zero, i.size, i.bytes)) = some (some (.int .i64 0), 1, 8) := by kernel_rfl

theorem Box3.not_row {W : World} {B : Nat} {a b c : Int} (h : Box3 W B a b c) {base size k : Nat} {v : Value} {xs : List Value} (hr : W.ownsRow base 3 size v k xs) : some B ≠ v.ownBlock := by
  rcases hr.2 with ⟨rfl, _⟩ | ⟨g, cap, cur, rfl, _, hgb, _⟩
  · simp [Value.ownBlock]
  · intro e'
    obtain rfl : B = g := by simpa [Value.ownBlock] using e'
    have := (show W.heap[B]? = _ from h).symm.trans hgb
    simp at this
theorem Box3.appended {W w1 : World} {B B' : Nat} {a b c : Int} (h : Box3 W B a b c) (hne : B ≠ B') {base size k : Nat} {v v' : Value} {xs : List Value} (hr : W.ownsRow base 3 size v k xs) {tmp : Obj} (hgrow : (W.alloc tmp).grownBy w1 v.ownBlock) :
    Box3 (w1.setCell ⟨B', 0, none⟩ v') B a b c := by
  have h1 : Box3 (W.alloc tmp) B a b c := (Below.heap_alloc W tmp B h.lt).trans h
  have h2 : Box3 w1 B a b c := (hgrow.block B h1.lt (h.not_row hr)).trans h1
  exact (Below.heap_setCell _ _ _ B (fun e => hne e)).trans h2

set_option maxRecDepth 100000 in
set_option maxHeartbeats 4000000 in
theorem numbers_in (n : Nat) (hn : 3 ≤ n) (a b c m : Int) (ha : I64 a) (hb : I64 b) (hc : I64 c) (hm0 : 0 ≤ m) (hm1 : m ≤ 1000000) (w : World) :
    CallsIn Fence.wide n P 26 #[.agg #[.int .i64 a, .int .i64 b, .int .i64 c], .int .i64 m] w fun e W' => ∃ v k q, e = .returned v ∧ k = min (size a b c).toNat (m + 1).toNat ∧ w.heap.size ≤ q ∧
      W'.ownsRow q 3 1 v k ((nums a b c k).map (Value.int .i64)) ∧ Below w.heap.size w W' := by
  have h1 : 1 ≤ n := by omega
  obtain ⟨i0, hi, hz0, hz1, hz2⟩ := info_parts info3
  refine callsIn_of_wp_marks Go.Proofs.Try.func26 rfl trivial ?_ rfl
  simp only [Go.Proofs.Try.ntmps26, List.size_toArray, List.length_cons, List.length_nil, Nat.reduceAdd, Nat.reduceSub, Array.replicate_succ, Array.replicate_zero, List.push_toArray, List.append_toArray, List.nil_append, List.cons_append]
  have hne : ∀ (f : Fn) (xs cs : Array Value) (w : World), (binOp .neq 123 (.func f xs cs) .nilFunc).run P w = .ok (.bool true) w := by
    intro f xs cs w
    have he : (Op.equal 123 (.func f xs cs) .nilFunc).run P w = .ok false w := eqrun fun d => by simp [Op.equalIn, run_underlying Go.Proofs.Try.underlying123]
    show (do pure (.bool (!(← Op.equal 123 (.func f xs cs) .nilFunc))) : Sem Value).run P w = _
    rw [Sem.run_bind, he]; rfl
  gi_wp2_with (refine ⟨trivial, ?_⟩; gi_at_call 119; refine (all_in (n - 1) a b c _).mono ?_; rintro e w' ⟨rfl, rfl⟩)
  obtain ⟨W0, hW0⟩ : ∃ W0, (w.alloc (.cells #[.int .i64 a, .int .i64 b, .int .i64 c] 23)).alloc (.cells #[.int .i64 m] 3) = W0 := ⟨_, rfl⟩
  have hs0 : W0.heap.size = w.heap.size + 2 := by rw [← hW0]; simp
  have hb0 : Below w.heap.size w W0 := by rw [← hW0]; exact ((Below.refl _ w).alloc (Nat.le_refl _) _).alloc (by simp) _
  have bM : Boxed W0 (w.heap.size + 1) 3 (.int .i64 m) := by
    rw [← hW0]; have := Boxed.new (w.alloc (.cells #[.int .i64 a, .int .i64 b, .int .i64 c] 23)) 3 (.int .i64 m); rwa [World.size_alloc] at this
  rw [hW0]
  have e2 : w.heap.size + 1 + 1 = W0.heap.size := by omega
  have e3 : w.heap.size + 1 + 1 + 1 = W0.heap.size + 1 := by omega
  rw [e3, e2]
  have hs1 : w.heap.size + 1 < W0.heap.size := by omega
  clear e2 e3 hW0 hs0
  have bO := Boxed.new W0 35 (.slice none 0 0)
  have bR : Box3 ((W0.alloc (.cells #[.slice none 0 0] 35)).alloc (.cells #[.int .i64 a, .int .i64 b, .int .i64 c] 23)) (W0.heap.size + 1) a b c := by
    have := World.alloc_heap_new (W0.alloc (.cells #[.slice none 0 0] 35)) (.cells #[.int .i64 a, .int .i64 b, .int .i64 c] 23)
    rw [World.size_alloc] at this
    exact this
  have hBW : Below W0.heap.size W0 ((W0.alloc (.cells #[.slice none 0 0] 35)).alloc (.cells #[.int .i64 a, .int .i64 b, .int .i64 c] 23)) := ((Below.refl _ W0).alloc (Nat.le_refl _) _).alloc (by simp) _
  refine wpIn_rangeFunc_ownG rfl h1 (gf := 176) (lb := #[.pointer (some ⟨W0.heap.size + 1, 0, none⟩)]) rfl trivial (Go.Proofs.enters_of Go.Proofs.Try.func176 (by kernel_rfl) rfl)
    (all_stops (n - 1) (by omega) (W0.heap.size + 1) a b c ha hb hc _ bR) (fun h h' => h'.trans h) (fun W l o o' hl ho _ _ => World.putObj_heap_other (fun e => by simp at hl; omega)) (Below.refl _ _) (fun _ => rfl)
    (fun pre W => (∃ v, Boxed W W0.heap.size 35 v ∧ W.ownsRow W0.heap.size 3 1 v pre.length (pre.map (Value.int .i64)) ∧ True) ∧ (Box3 W (W0.heap.size + 1) a b c ∧ (Below W0.heap.size W0 W ∧ (pre.length : Int) ≤ m)))
    (fun cd pre W => cd = .exit 0 ∧ ((∃ v, Boxed W W0.heap.size 35 v ∧ W.ownsRow W0.heap.size 3 1 v pre.length (pre.map (Value.int .i64)) ∧ True) ∧ (Below W0.heap.size W0 W ∧ (pre.length : Int) = m + 1)))
    ?oI ?oIx ⟨⟨_, bO.alloc _, World.ownsRow_nil _ _ _ _, trivial⟩, bR, hBW, by simpa using hm0⟩
    (fun x => { tmps := #[.agg #[.int .i64 a, .int .i64 b, .int .i64 c], .int .i64 m, .pointer (some ⟨w.heap.size, 0, none⟩), .pointer (some ⟨w.heap.size + 1, 0, none⟩), .slice none 0 0, .pointer (some ⟨W0.heap.size, 0, none⟩), .func (.func 176) #[] #[.pointer (some ⟨W0.heap.size + 1, 0, none⟩)], .int .i64 x, .agg #[.int .i64 a, .int .i64 b, .int .i64 c], .func (.func 176) #[] #[.pointer (some ⟨W0.heap.size + 1, 0, none⟩)], .func (.func 176) #[] #[.pointer (some ⟨W0.heap.size + 1, 0, none⟩)], .bool true, .func (.func 176) #[] #[.pointer (some ⟨W0.heap.size + 1, 0, none⟩)], .int .i64 x, undef, undef, undef, undef, undef, undef, undef, undef, undef], defers := [] }) ?assign ?body ?done ?stop
  case oI =>
    exact OwnFrom.and (Own.from (holdsRow_own W0.heap.size W0.heap.size 35 3 1 (fun pre : List Int => pre.length) (fun pre => pre.map (Value.int .i64)) (fun _ _ => True)) _) (OwnFrom.and (Own.from (own_box3 _ a b c) _) (OwnFrom.and (ownFrom_below (Nat.le_refl _) (by simp; omega)) (ownFrom_pure _ _)))
  case oIx =>
    intro cd
    exact OwnFrom.and (ownFrom_pure _ _) (OwnFrom.and (Own.from (holdsRow_own W0.heap.size W0.heap.size 35 3 1 (fun pre : List Int => pre.length) (fun pre => pre.map (Value.int .i64)) (fun _ _ => True)) _) (OwnFrom.and (ownFrom_below (Nat.le_refl _) (by simp; omega)) (ownFrom_pure _ _)))
  case assign =>
    intro l x W K hK
    simp only [List.zip_toArray, List.zip_cons_cons, List.zip_nil_right, List.foldl_toArray', List.foldl_cons, List.foldl_nil, List.setIfInBounds_toArray]
    gi_wp2
    exact hK
  case body =>
    rintro l pre x W ⟨⟨v, hv, hrow, -⟩, hbx, hB, hlen⟩ hlt
    have hc := hv.cell
    have hM : Boxed W (w.heap.size + 1) 3 (.int .i64 m) := (hB.block (w.heap.size + 1) (by omega)).trans bM
    have hb1 : pre.length + 1 ≤ Go.maxLen := by have : pre.length ≤ 1000000 := by omega
                                                simp only [Go.maxLen]; omega
    have hb2 : (pre.length + 1) * 8 ≤ 140737488355328 := by omega
    have hb3 : W0.heap.size ≤ (W.alloc (.cells #[.int .i64 x] 3)).heap.size := by have := hB.size; simp; omega
    gi_wp2_with (gi_at_builtin; refine wpListIn_append_own _ rfl _ _ 35 rfl W0.heap.size 3 i0 (.int .i64 0) 1 8 Go.Proofs.Try.underlying35 hi hz0 hz1 hz2 rfl (by decide) _ _ _ rfl (hrow.alloc _) ⟨W.heap.size, 0, none⟩ 1 1 [.int .i64 x] rfl rfl (cell_one_new _ _ _) (by simp [Value.oneCell']) hb1 hb2 hb3 ?_; intro v' w1 hown' hgrow _; obtain ⟨g', cap', rfl⟩ := ownsRow_succ hown'; obtain ⟨hv1, hv2, hr2, hk2, hb2'⟩ := hv.appended (by decide) hrow hB.size (Nat.le_refl _) hown' hgrow; have hc1 := hv1.cell; have hf1 := hv1.frozen; have hbx2 := hbx.appended (v' := .slice (some ⟨g', 0, none⟩) (pre.length + 1) cap') (show W0.heap.size + 1 ≠ W0.heap.size by omega) hrow hgrow; have hc2 := hv2.cell; have hM2 := (show Boxed _ (w.heap.size + 1) 3 (.int .i64 m) from (hb2'.block (w.heap.size + 1) (by omega)).trans hM).cell)
    · have hx : m < (pre.length : Int) + 1 := by assumption
      have hl1 : (((pre ++ [x]).length : Nat) : Int) = m + 1 := by rw [List.length_append, List.length_singleton]; omega
      exact ⟨hk2.from _, rfl, ⟨_, hv2, by simpa using hr2, trivial⟩, hB.trans hb2', hl1⟩
    · have hx : (pre.length : Int) + 1 ≤ m := by assumption
      have hl1 : (((pre ++ [x]).length : Nat) : Int) ≤ m := by rw [List.length_append, List.length_singleton]; omega
      exact ⟨hk2.from _, hbx2.trans hbx.symm, ⟨_, hv2, by simpa using hr2, trivial⟩, hbx2, hB.trans hb2', hl1⟩
  case done =>
    rintro D ys W hD rfl ⟨⟨v, hv, hrow, -⟩, hbx, hB, hlen⟩ hK
    have hc := hv.cell
    have hD' : W0.heap.size ≤ D := by simp at hD; omega
    rw [nums_length] at hlen hrow
    have hkk : (size a b c).toNat = min (size a b c).toNat (m + 1).toNat := by omega
    gi_wp2
    refine ⟨by simp, .inl ⟨_, _, rfl, run_takeDeferred hK, ?_⟩⟩
    exact ⟨_, results_tmp rfl _ _ _, v, (size a b c).toNat, W0.heap.size, rfl, hkk, by omega, ownsRow_putObj hrow _ hK rfl, hb0.trans ((hB.trans (belowK_b (w := W0) (Nat.le_refl _) W D _ _ hD' hK rfl rfl)).mono (by omega))⟩
  case stop =>
    rintro D cd pre W hD ⟨k, hk, rfl⟩ ⟨rfl, ⟨v, hv, hrow, -⟩, hB, hlen⟩ hK
    have hc := hv.cell
    have hD' : W0.heap.size ≤ D := by simp at hD; omega
    rw [nums_length] at hlen hrow
    have hkk : k = min (size a b c).toNat (m + 1).toNat := by omega
    gi_wp2
    refine ⟨by simp, .inl ⟨_, _, rfl, run_takeDeferred hK, ?_⟩⟩
    exact ⟨_, results_tmp rfl _ _ _, v, k, W0.heap.size, rfl, hkk, by omega, ownsRow_putObj hrow _ hK rfl, hb0.trans ((hB.trans (belowK_b (w := W0) (Nat.le_refl _) W D _ _ hD' hK rfl rfl)).mono (by omega))⟩
end Go.RX.Span

/- Ranges: Expand of the program and of the reference. -/
set_option linter.unusedVariables false
set_option linter.unusedSimpArgs false
set_option maxRecDepth 100000
namespace Go.RX.Span
open Go Go.RX

def exC (a b c n : Int) : Int := if n < -ofC a b c then 0 else max (ofC a b c + 2 * n) 0
def exE (a b c n : Int) : Int := if chk a b c ≠ 0 then chk a b c else if a > b then 0 else if n > 2000000 then 4 else mvE (a - n * absI c) (absI c) (exC a b c n)
def exLow (a b c n : Int) : Int := if chk a b c ≠ 0 then 0 else if a > b then 1 else if n > 2000000 then 0 else mvLow (a - n * absI c) (absI c) (exC a b c n)
def exHigh (a b c n : Int) : Int := if chk a b c ≠ 0 then 0 else if a > b then 0 else if n > 2000000 then 0 else mvHigh (a - n * absI c) (absI c) (exC a b c n)
def exStr (a b c n : Int) : Int := if chk a b c ≠ 0 then 0 else if a > b then 1 else if n > 2000000 then 0 else mvStr (a - n * absI c) (absI c) (exC a b c n) c
noncomputable def c_Expand : Con := fun args => match args with
  | [.agg [.lit (.int .i64 a), .lit (.int .i64 b), .lit (.int .i64 c)], .lit (.int .i64 n)] =>
    .ask (I64 a ∧ I64 b ∧ I64 c ∧ I64 n) (.ret (.tup [.agg [.lit (.int .i64 (lk exLow a b c n)), .lit (.int .i64 (lk exHigh a b c n)), .lit (.int .i64 (lk exStr a b c n))], .lit (.int .i64 (lk exE a b c n))]))
  | _ => .stuck 1

set_option maxRecDepth 100000 in
theorem t_Expand (a b c n : Int) : conB Go.Proofs.Try.prog (conOf k8) noLoops 10 34 [.agg [.lit (.int .i64 a), .lit (.int .i64 b), .lit (.int .i64 c)], .lit (.int .i64 n)] =
    T.ask (I64 a ∧ I64 b ∧ I64 c) (.br (U.ne (lk chk a b c) (0 : Int)) (.ret (.tup [.agg [.lit (.int .i64 0), .lit (.int .i64 0), .lit (.int .i64 0)], .lit (.int .i64 (lk chk a b c))]))
      (.ask (a ≤ b → c ≠ (0 : Int) ∧ (-9223372036854775807 : Int) ≤ c ∧ b - a < (9223372036854775807 : Int) ∧ I64 a ∧ I64 b ∧ I64 c) (.ask (lk ofB a b c < (0 : Int) → lk ofC a b c ≠ (0 :
      Int) → I64 (lk ofC a b c - (1 : Int)) ∧ I64 (lk ofB a b c * (lk ofC a b c - (1 : Int))) ∧ I64 (lk ofF a b c + lk ofB a b c * (lk ofC a b c - (1 : Int))) ∧ I64 (-lk ofB a b c)) (.br
      (U.eq (lk ofC a b c) (0 : Int)) (.ask ((0 : Int) < lk ofC a b c → I64 (lk ofC a b c - (1 : Int)) ∧ I64 (lk uB (lk ofF a b c) (lk ofB a b c) (lk ofC a b c) * (lk ofC a b c - (1 :
      Int))) ∧ I64 (lk uF (lk ofF a b c) (lk ofB a b c) (lk ofC a b c) + lk uB (lk ofF a b c) (lk ofB a b c) (lk ofC a b c) * (lk ofC a b c - (1 : Int)))) (.ret (.tup [.agg [.lit (.int
      .i64 (lk nLow (lk uF (lk ofF a b c) (lk ofB a b c) (lk ofC a b c)) (lk uB (lk ofF a b c) (lk ofB a b c) (lk ofC a b c)) (lk ofC a b c))), .lit (.int .i64 (lk nHigh (lk uF (lk ofF a
      b c) (lk ofB a b c) (lk ofC a b c)) (lk uB (lk ofF a b c) (lk ofB a b c) (lk ofC a b c)) (lk ofC a b c))), .lit (.int .i64 (lk nStr (lk uF (lk ofF a b c) (lk ofB a b c) (lk ofC a b
      c)) (lk uB (lk ofF a b c) (lk ofB a b c) (lk ofC a b c)) (lk ofC a b c)))], .lit (.int .i64 (lk nErr (lk uF (lk ofF a b c) (lk ofB a b c) (lk ofC a b c)) (lk uB (lk ofF a b c) (lk
      ofB a b c) (lk ofC a b c)) (lk ofC a b c)))]))) (.br (U.gt n (2000000 : Int)) (.ret (.tup [.agg [.lit (.int .i64 0), .lit (.int .i64 0), .lit (.int .i64 0)], .lit (.int .i64 4)]))
      (.br (U.lt n (U.sub .i64 0 (lk ofC a b c))) (.ask (c < (0 : Int) → (0 : Int) ≠ (0 : Int) → I64 ((0 : Int) - (1 : Int)) ∧ I64 ((0 : Int) * ((0 : Int) - (1 : Int))) ∧ I64 ((0 : Int) +
      (0 : Int) * ((0 : Int) - (1 : Int))) ∧ I64 (-0 : Int)) (.ask ((0 : Int) < (0 : Int) → I64 ((0 : Int) - (1 : Int)) ∧ I64 (lk kB (0 : Int) (0 : Int) (0 : Int) c * ((0 : Int) - (1 :
      Int))) ∧ I64 (lk kF (0 : Int) (0 : Int) (0 : Int) c + lk kB (0 : Int) (0 : Int) (0 : Int) c * ((0 : Int) - (1 : Int)))) (.ret (.tup [.agg [.lit (.int .i64 (lk nLow (lk kF (0 : Int)
      (0 : Int) (0 : Int) c) (lk kB (0 : Int) (0 : Int) (0 : Int) c) (0 : Int))), .lit (.int .i64 (lk nHigh (lk kF (0 : Int) (0 : Int) (0 : Int) c) (lk kB (0 : Int) (0 : Int) (0 : Int) c)
      (0 : Int))), .lit (.int .i64 (lk nStr (lk kF (0 : Int) (0 : Int) (0 : Int) c) (lk kB (0 : Int) (0 : Int) (0 : Int) c) (0 : Int)))], .lit (.int .i64 (lk nErr (lk kF (0 : Int) (0 :
      Int) (0 : Int) c) (lk kB (0 : Int) (0 : Int) (0 : Int) c) (0 : Int)))])))) (.ask (c < (0 : Int) → U.mm true (U.add .i64 (lk ofC a b c) (U.mul .i64 2 n)) (0 : Int) ≠ (0 : Int) → I64
      (U.mm true (U.add .i64 (lk ofC a b c) (U.mul .i64 2 n)) (0 : Int) - (1 : Int)) ∧ I64 (lk uB (lk ofF a b c) (lk ofB a b c) (lk ofC a b c) * (U.mm true (U.add .i64 (lk ofC a b c)
      (U.mul .i64 2 n)) (0 : Int) - (1 : Int))) ∧ I64 (U.sub .i64 (lk uF (lk ofF a b c) (lk ofB a b c) (lk ofC a b c)) (U.mul .i64 n (lk uB (lk ofF a b c) (lk ofB a b c) (lk ofC a b c)))
      + lk uB (lk ofF a b c) (lk ofB a b c) (lk ofC a b c) * (U.mm true (U.add .i64 (lk ofC a b c) (U.mul .i64 2 n)) (0 : Int) - (1 : Int))) ∧ I64 (-lk uB (lk ofF a b c) (lk ofB a b c)
      (lk ofC a b c))) (.ask ((0 : Int) < U.mm true (U.add .i64 (lk ofC a b c) (U.mul .i64 2 n)) (0 : Int) → I64 (U.mm true (U.add .i64 (lk ofC a b c) (U.mul .i64 2 n)) (0 : Int) - (1 :
      Int)) ∧ I64 (lk kB (U.sub .i64 (lk uF (lk ofF a b c) (lk ofB a b c) (lk ofC a b c)) (U.mul .i64 n (lk uB (lk ofF a b c) (lk ofB a b c) (lk ofC a b c)))) (lk uB (lk ofF a b c) (lk
      ofB a b c) (lk ofC a b c)) (U.mm true (U.add .i64 (lk ofC a b c) (U.mul .i64 2 n)) (0 : Int)) c * (U.mm true (U.add .i64 (lk ofC a b c) (U.mul .i64 2 n)) (0 : Int) - (1 : Int))) ∧
      I64 (lk kF (U.sub .i64 (lk uF (lk ofF a b c) (lk ofB a b c) (lk ofC a b c)) (U.mul .i64 n (lk uB (lk ofF a b c) (lk ofB a b c) (lk ofC a b c)))) (lk uB (lk ofF a b c) (lk ofB a b c)
      (lk ofC a b c)) (U.mm true (U.add .i64 (lk ofC a b c) (U.mul .i64 2 n)) (0 : Int)) c + lk kB (U.sub .i64 (lk uF (lk ofF a b c) (lk ofB a b c) (lk ofC a b c)) (U.mul .i64 n (lk uB
      (lk ofF a b c) (lk ofB a b c) (lk ofC a b c)))) (lk uB (lk ofF a b c) (lk ofB a b c) (lk ofC a b c)) (U.mm true (U.add .i64 (lk ofC a b c) (U.mul .i64 2 n)) (0 : Int)) c * (U.mm
      true (U.add .i64 (lk ofC a b c) (U.mul .i64 2 n)) (0 : Int) - (1 : Int)))) (.ret (.tup [.agg [.lit (.int .i64 (lk nLow (lk kF (U.sub .i64 (lk uF (lk ofF a b c) (lk ofB a b c) (lk
      ofC a b c)) (U.mul .i64 n (lk uB (lk ofF a b c) (lk ofB a b c) (lk ofC a b c)))) (lk uB (lk ofF a b c) (lk ofB a b c) (lk ofC a b c)) (U.mm true (U.add .i64 (lk ofC a b c) (U.mul
      .i64 2 n)) (0 : Int)) c) (lk kB (U.sub .i64 (lk uF (lk ofF a b c) (lk ofB a b c) (lk ofC a b c)) (U.mul .i64 n (lk uB (lk ofF a b c) (lk ofB a b c) (lk ofC a b c)))) (lk uB (lk ofF
      a b c) (lk ofB a b c) (lk ofC a b c)) (U.mm true (U.add .i64 (lk ofC a b c) (U.mul .i64 2 n)) (0 : Int)) c) (U.mm true (U.add .i64 (lk ofC a b c) (U.mul .i64 2 n)) (0 : Int)))),
      .lit (.int .i64 (lk nHigh (lk kF (U.sub .i64 (lk uF (lk ofF a b c) (lk ofB a b c) (lk ofC a b c)) (U.mul .i64 n (lk uB (lk ofF a b c) (lk ofB a b c) (lk ofC a b c)))) (lk uB (lk ofF
      a b c) (lk ofB a b c) (lk ofC a b c)) (U.mm true (U.add .i64 (lk ofC a b c) (U.mul .i64 2 n)) (0 : Int)) c) (lk kB (U.sub .i64 (lk uF (lk ofF a b c) (lk ofB a b c) (lk ofC a b c))
      (U.mul .i64 n (lk uB (lk ofF a b c) (lk ofB a b c) (lk ofC a b c)))) (lk uB (lk ofF a b c) (lk ofB a b c) (lk ofC a b c)) (U.mm true (U.add .i64 (lk ofC a b c) (U.mul .i64 2 n)) (0
      : Int)) c) (U.mm true (U.add .i64 (lk ofC a b c) (U.mul .i64 2 n)) (0 : Int)))), .lit (.int .i64 (lk nStr (lk kF (U.sub .i64 (lk uF (lk ofF a b c) (lk ofB a b c) (lk ofC a b c))
      (U.mul .i64 n (lk uB (lk ofF a b c) (lk ofB a b c) (lk ofC a b c)))) (lk uB (lk ofF a b c) (lk ofB a b c) (lk ofC a b c)) (U.mm true (U.add .i64 (lk ofC a b c) (U.mul .i64 2 n)) (0
      : Int)) c) (lk kB (U.sub .i64 (lk uF (lk ofF a b c) (lk ofB a b c) (lk ofC a b c)) (U.mul .i64 n (lk uB (lk ofF a b c) (lk ofB a b c) (lk ofC a b c)))) (lk uB (lk ofF a b c) (lk ofB
      a b c) (lk ofC a b c)) (U.mm true (U.add .i64 (lk ofC a b c) (U.mul .i64 2 n)) (0 : Int)) c) (U.mm true (U.add .i64 (lk ofC a b c) (U.mul .i64 2 n)) (0 : Int))))], .lit (.int .i64
      (lk nErr (lk kF (U.sub .i64 (lk uF (lk ofF a b c) (lk ofB a b c) (lk ofC a b c)) (U.mul .i64 n (lk uB (lk ofF a b c) (lk ofB a b c) (lk ofC a b c)))) (lk uB (lk ofF a b c) (lk ofB a
      b c) (lk ofC a b c)) (U.mm true (U.add .i64 (lk ofC a b c) (U.mul .i64 2 n)) (0 : Int)) c) (lk kB (U.sub .i64 (lk uF (lk ofF a b c) (lk ofB a b c) (lk ofC a b c)) (U.mul .i64 n (lk
      uB (lk ofF a b c) (lk ofB a b c) (lk ofC a b c)))) (lk uB (lk ofF a b c) (lk ofB a b c) (lk ofC a b c)) (U.mm true (U.add .i64 (lk ofC a b c) (U.mul .i64 2 n)) (0 : Int)) c) (U.mm
      true (U.add .i64 (lk ofC a b c) (U.mul .i64 2 n)) (0 : Int))))])))))))))) := by kernel_rfl
set_option maxHeartbeats 1000000 in
theorem Expand_ok : ConOK P 34 c_Expand := con_of (allOK mixed k8_ok) 10 34 fun args r h => by
  unfold c_Expand at h
  split at h
  · rename_i a b c n
    have hp := (T.is_ask h).1
    have h := (T.is_ask h).2
    obtain rfl := T.is_ret h
    rw [t_Expand]
    simp only [T.All, U.le_t, U.le_f, U.lt_t, U.lt_f, U.gt_t, U.gt_f, U.ge_t, U.ge_f, U.eq_t, U.eq_f, U.ne_t, U.ne_f, U.not_t, U.not_f, U.andb_t, U.andb_f, SV.lit.injEq, SV.agg.injEq, SV.tup.injEq, List.cons.injEq, Value.int.injEq, Value.bool.injEq, true_and, and_true, lk_eq, lim_t, lim_f, mm_min, mm_max]
    refine ⟨⟨hp.1, hp.2.1, hp.2.2.1⟩, fun h => ?_, fun h => ⟨of_ask (chk_zero.1 h) hp.1 hp.2.1 hp.2.2.1, ?_⟩⟩
    · simp [exE, exLow, exHigh, exStr, h]
    have hr := chk_zero.1 h
    have hl := hr.1
    by_cases hab : a ≤ b
    · obtain ⟨p1, p2, p3, p4, p5, p6, p7, p8, p9, p10⟩ := parts hr hab
      obtain ⟨u1, u2⟩ := up_of hr hab
      obtain ⟨s1, s2, s3, s4, s5⟩ := series_of hr hab
      have sl := s5 (ofC a b c - 1) (by omega) (by omega)
      rw [u1, u2]
      have m1 : I64 (ofB a b c * (ofC a b c - 1)) := by unfold I64; omega
      have n1 : ¬ a > b := by omega
      have e0 : U.sub .i64 0 (ofC a b c) = -ofC a b c := by rw [U.sub64 (by unfold I64; omega)]; omega
      rw [e0]
      refine ⟨fun _ _ => ⟨by unfold I64; omega, m1, by unfold I64; omega, by unfold I64; omega⟩, fun g => by omega, fun _ => ⟨fun g => ?_, fun g => ⟨fun g2 => ?_, fun g2 => ?_⟩⟩⟩
      · simp [exE, exLow, exHigh, exStr, h, n1, g]
      all_goals
        have n2 : ¬ n > 2000000 := by omega
      · refine ⟨fun _ g => absurd rfl g, fun g => by omega, ?_⟩
        have eC : exC a b c n = 0 := by unfold exC; rw [if_pos g2]
        simp [exE, exLow, exHigh, exStr, h, n1, n2, eC, mvE, mvLow, mvHigh, mvStr, nLow, nHigh, nStr, nErr]
      · have eC : exC a b c n = max (ofC a b c + 2 * n) 0 := by unfold exC; rw [if_neg (by omega)]
        have mb := mul_bnd (x := n) (y := absI c) (X := 2000001) (Y := 2000000) (by omega) (by omega)
        have ed : absI c * (ofC a b c + 2 * n - 1) = absI c * (ofC a b c - 1) + 2 * (n * absI c) := by
          rw [show ofC a b c + 2 * n - 1 = (ofC a b c - 1) + 2 * n by omega, Int.mul_add, Int.mul_comm (absI c) (2 * n), Int.mul_assoc]
        rw [U.mul64 (a := 2) (b := n) (by unfold I64; omega), U.add64 (a := ofC a b c) (b := 2 * n) (by unfold I64; omega), U.mul64 (a := n) (b := absI c) (by unfold I64; omega), U.sub64 (by unfold I64; omega)]
        obtain ⟨q1, q2, q3, q4⟩ := nrm_like (f := a - n * absI c) (s := absI c) (C := max (ofC a b c + 2 * n) 0) (c := c) p1
        rw [q1, q2, q3, q4]
        simp only [exE, exLow, exHigh, exStr, h, ne_eq, not_true_eq_false, if_false, if_neg n1, if_neg n2, eC, and_self, and_true]
        have em : max (ofC a b c + 2 * n) 0 ≠ 0 → max (ofC a b c + 2 * n) 0 = ofC a b c + 2 * n := fun g => by omega
        refine ⟨fun _ g => ?_, fun g => ?_⟩
        · rw [em g, ed]
          exact ⟨by unfold I64; omega, by unfold I64; omega, by unfold I64; omega, by unfold I64; omega⟩
        · obtain ⟨l1, l2⟩ := like_bnd (f := a - n * absI c) (s := absI c) (C := max (ofC a b c + 2 * n) 0) (c := c) (by omega)
          rw [em (by omega)] at l1 l2 ⊢
          rw [ed] at l1 l2
          exact ⟨by unfold I64; omega, by unfold I64; omega, by unfold I64; omega⟩
    · obtain ⟨f1, f2, f3⟩ := empty_of (c := c) hab
      rw [f1, f2, f3]
      refine ⟨fun g => absurd g (by omega), fun _ => ⟨fun g => absurd g (by omega), ?_⟩, fun g => absurd rfl g⟩
      have n1 : a > b := by omega
      simp [nLow, nHigh, nStr, nErr, exE, exLow, exHigh, exStr, h, n1]
  · exact h.elim

/-- The reference's last step: a range, if its numbers are in the limits. -/
theorem lim_tail {f hi s C c : Int} (hs : 1 ≤ s) (hs2 : s ≤ 2000000) (hC : 1 ≤ C) (hh : hi = f + s * (C - 1)) :
    (f ≤ hi → (f < -1000000 ∨ 1000000 < f → (0 = mvLow f s C ∧ 0 = mvHigh f s C ∧ 0 = mvStr f s C c) ∧ 4 = mvE f s C) ∧
      (-1000000 ≤ f ∧ f ≤ 1000000 → (hi < -1000000 ∨ 1000000 < hi → (0 = mvLow f s C ∧ 0 = mvHigh f s C ∧ 0 = mvStr f s C c) ∧ 4 = mvE f s C) ∧
        (-1000000 ≤ hi ∧ hi ≤ 1000000 → (f < hi → c < 0 → I64 (-s)) ∧ (rnL f hi s (U.lt c 0) = mvLow f s C ∧ rnH f hi s (U.lt c 0) = mvHigh f s C ∧ rnS f hi s (U.lt c 0) = mvStr f s C c) ∧ 0 = mvE f s C))) ∧
    (hi < f → (f < hi → c < 0 → I64 (-s)) ∧ (rnL f hi s (U.lt c 0) = mvLow f s C ∧ rnH f hi s (U.lt c 0) = mvHigh f s C ∧ rnS f hi s (U.lt c 0) = mvStr f s C c) ∧ 0 = mvE f s C) := by
  have h0 := mulle (x := 0) (y := C - 1) hs (by omega)
  rw [Int.mul_zero] at h0
  have n3 : ¬ C ≤ 0 := by omega
  have bad : mvE f s C = 4 → (0 = mvLow f s C ∧ 0 = mvHigh f s C ∧ 0 = mvStr f s C c) ∧ 4 = mvE f s C := fun e => by
    simp [mvLow, mvHigh, mvStr, e, n3]
  refine ⟨fun _ => ⟨fun g => bad ?_, fun g1 => ⟨fun g => bad ?_, fun g2 => ⟨fun _ _ => by unfold I64; omega, ?_, ?_⟩⟩⟩, fun g => by omega⟩
  · unfold mvE; rw [if_neg n3, if_neg (by omega)]
  · unfold mvE; rw [if_neg n3, if_neg (by omega)]
  all_goals
    have e : mvE f s C = 0 := by unfold mvE; rw [if_neg n3, if_pos (by omega)]
  · rw [hh]
    exact rn_mv hs hC e _ (U.lt_eq c 0)
  · exact e.symm

set_option maxRecDepth 100000 in
theorem t_rExpand (a b c n : Int) : conB Go.Proofs.Try.prog (conOf k8) noLoops 10 205 [.agg [.lit (.int .i64 a), .lit (.int .i64 b), .lit (.int .i64 c)], .lit (.int .i64 n)] =
    T.ask (I64 a ∧ I64 b ∧ I64 c) (.br (U.ne (lk chk a b c) (0 : Int)) (.ret (.tup [.agg [.lit (.int .i64 0), .lit (.int .i64 0), .lit (.int .i64 0)], .lit (.int .i64 (lk chk a b c))]))
      (.br (lk isE a b c) (.ret (.tup [.agg [.lit (.int .i64 1), .lit (.int .i64 0), .lit (.int .i64 1)], .lit (.int .i64 0)])) (.br (U.lt n (0 : Int)) (.ask (I64 a ∧ I64 b ∧ I64 c) (.ask
      ((2 : Int) ≠ (0 : Int)) (.br (U.le n (U.quo .i64 (U.sub .i64 0 (U.add .i64 (lk size a b c) (1 : Int))) (2 : Int))) (.ret (.tup [.agg [.lit (.int .i64 1), .lit (.int .i64 0), .lit
      (.int .i64 1)], .lit (.int .i64 0)])) (.br (U.gt n (2000000 : Int)) (.ret (.tup [.agg [.lit (.int .i64 0), .lit (.int .i64 0), .lit (.int .i64 0)], .lit (.int .i64 4)])) (.br (U.lt
      n (-2000000 : Int)) (.ret (.tup [.agg [.lit (.int .i64 0), .lit (.int .i64 0), .lit (.int .i64 0)], .lit (.int .i64 4)])) (.ask (I64 (-c)) (.ask (I64 (-c)) (.ask (I64 (-c)) (.br
      (U.le (U.sub .i64 a (U.mul .i64 n (lk absI c))) (U.add .i64 b (U.mul .i64 n (lk absI c)))) (.br (U.not (lk lim (U.sub .i64 a (U.mul .i64 n (lk absI c))))) (.ret (.tup [.agg [.lit
      (.int .i64 0), .lit (.int .i64 0), .lit (.int .i64 0)], .lit (.int .i64 4)])) (.br (U.not (lk lim (U.add .i64 b (U.mul .i64 n (lk absI c))))) (.ret (.tup [.agg [.lit (.int .i64 0),
      .lit (.int .i64 0), .lit (.int .i64 0)], .lit (.int .i64 4)])) (.ask (U.sub .i64 a (U.mul .i64 n (lk absI c)) < U.add .i64 b (U.mul .i64 n (lk absI c)) → U.lt c (0 : Int) = true →
      I64 (-lk absI c)) (.ret (.tup [.agg [.lit (.int .i64 (lk rnL (U.sub .i64 a (U.mul .i64 n (lk absI c))) (U.add .i64 b (U.mul .i64 n (lk absI c))) (lk absI c) (U.lt c (0 : Int)))),
      .lit (.int .i64 (lk rnH (U.sub .i64 a (U.mul .i64 n (lk absI c))) (U.add .i64 b (U.mul .i64 n (lk absI c))) (lk absI c) (U.lt c (0 : Int)))), .lit (.int .i64 (lk rnS (U.sub .i64 a
      (U.mul .i64 n (lk absI c))) (U.add .i64 b (U.mul .i64 n (lk absI c))) (lk absI c) (U.lt c (0 : Int))))], .lit (.int .i64 0)]))))) (.ask (U.sub .i64 a (U.mul .i64 n (lk absI c)) <
      U.add .i64 b (U.mul .i64 n (lk absI c)) → U.lt c (0 : Int) = true → I64 (-lk absI c)) (.ret (.tup [.agg [.lit (.int .i64 (lk rnL (U.sub .i64 a (U.mul .i64 n (lk absI c))) (U.add
      .i64 b (U.mul .i64 n (lk absI c))) (lk absI c) (U.lt c (0 : Int)))), .lit (.int .i64 (lk rnH (U.sub .i64 a (U.mul .i64 n (lk absI c))) (U.add .i64 b (U.mul .i64 n (lk absI c))) (lk
      absI c) (U.lt c (0 : Int)))), .lit (.int .i64 (lk rnS (U.sub .i64 a (U.mul .i64 n (lk absI c))) (U.add .i64 b (U.mul .i64 n (lk absI c))) (lk absI c) (U.lt c (0 : Int))))], .lit
      (.int .i64 0)])))))))))))) (.br (U.gt n (2000000 : Int)) (.ret (.tup [.agg [.lit (.int .i64 0), .lit (.int .i64 0), .lit (.int .i64 0)], .lit (.int .i64 4)])) (.br (U.lt n (-2000000
      : Int)) (.ret (.tup [.agg [.lit (.int .i64 0), .lit (.int .i64 0), .lit (.int .i64 0)], .lit (.int .i64 4)])) (.ask (I64 (-c)) (.ask (I64 (-c)) (.ask (I64 (-c)) (.br (U.le (U.sub
      .i64 a (U.mul .i64 n (lk absI c))) (U.add .i64 b (U.mul .i64 n (lk absI c)))) (.br (U.not (lk lim (U.sub .i64 a (U.mul .i64 n (lk absI c))))) (.ret (.tup [.agg [.lit (.int .i64 0),
      .lit (.int .i64 0), .lit (.int .i64 0)], .lit (.int .i64 4)])) (.br (U.not (lk lim (U.add .i64 b (U.mul .i64 n (lk absI c))))) (.ret (.tup [.agg [.lit (.int .i64 0), .lit (.int .i64
      0), .lit (.int .i64 0)], .lit (.int .i64 4)])) (.ask (U.sub .i64 a (U.mul .i64 n (lk absI c)) < U.add .i64 b (U.mul .i64 n (lk absI c)) → U.lt c (0 : Int) = true → I64 (-lk absI c))
      (.ret (.tup [.agg [.lit (.int .i64 (lk rnL (U.sub .i64 a (U.mul .i64 n (lk absI c))) (U.add .i64 b (U.mul .i64 n (lk absI c))) (lk absI c) (U.lt c (0 : Int)))), .lit (.int .i64 (lk
      rnH (U.sub .i64 a (U.mul .i64 n (lk absI c))) (U.add .i64 b (U.mul .i64 n (lk absI c))) (lk absI c) (U.lt c (0 : Int)))), .lit (.int .i64 (lk rnS (U.sub .i64 a (U.mul .i64 n (lk
      absI c))) (U.add .i64 b (U.mul .i64 n (lk absI c))) (lk absI c) (U.lt c (0 : Int))))], .lit (.int .i64 0)]))))) (.ask (U.sub .i64 a (U.mul .i64 n (lk absI c)) < U.add .i64 b (U.mul
      .i64 n (lk absI c)) → U.lt c (0 : Int) = true → I64 (-lk absI c)) (.ret (.tup [.agg [.lit (.int .i64 (lk rnL (U.sub .i64 a (U.mul .i64 n (lk absI c))) (U.add .i64 b (U.mul .i64 n
      (lk absI c))) (lk absI c) (U.lt c (0 : Int)))), .lit (.int .i64 (lk rnH (U.sub .i64 a (U.mul .i64 n (lk absI c))) (U.add .i64 b (U.mul .i64 n (lk absI c))) (lk absI c) (U.lt c (0 :
      Int)))), .lit (.int .i64 (lk rnS (U.sub .i64 a (U.mul .i64 n (lk absI c))) (U.add .i64 b (U.mul .i64 n (lk absI c))) (lk absI c) (U.lt c (0 : Int))))], .lit (.int .i64
      0)])))))))))))) := by kernel_rfl
set_option maxHeartbeats 1000000 in
theorem rExpand_ok : ConOK P 205 c_Expand := con_of (allOK mixed k8_ok) 10 205 fun args r h => by
  unfold c_Expand at h
  split at h
  · rename_i a b c n
    have hp := (T.is_ask h).1
    have h := (T.is_ask h).2
    obtain rfl := T.is_ret h
    rw [t_rExpand]
    simp only [T.All, U.le_t, U.le_f, U.lt_t, U.lt_f, U.gt_t, U.gt_f, U.ge_t, U.ge_f, U.eq_t, U.eq_f, U.ne_t, U.ne_f, U.not_t, U.not_f, U.andb_t, U.andb_f, SV.lit.injEq, SV.agg.injEq, SV.tup.injEq, List.cons.injEq, Value.int.injEq, Value.bool.injEq, true_and, and_true, lk_eq, lim_t, lim_f, isE_t, isE_f]
    have hp3 : I64 a ∧ I64 b ∧ I64 c := ⟨hp.1, hp.2.1, hp.2.2.1⟩
    refine ⟨hp3, fun h => ?_, fun h => ⟨fun he => ?_, fun he => ?_⟩⟩
    · simp [exE, exLow, exHigh, exStr, h]
    · obtain ⟨rfl, rfl, rfl⟩ := he
      simp [exE, exLow, exHigh, exStr, h]
    have hr := chk_zero.1 h
    have hl := hr.1
    have hab := right_le hr he
    obtain ⟨p1, p2, p3, p4, p5, p6, p7, p8, p9, p10⟩ := parts hr hab
    have n1 : ¬ a > b := by omega
    have hc5 : I64 (-c) := by unfold I64; omega
    have main : ¬ n > 2000000 → -ofC a b c ≤ n → 1 ≤ ofC a b c + 2 * n → U.sub .i64 a (U.mul .i64 n (absI c)) = a - n * absI c ∧ U.add .i64 b (U.mul .i64 n (absI c)) = b + n * absI c ∧ exC a b c n = ofC a b c + 2 * n ∧ b + n * absI c = a - n * absI c + absI c * (ofC a b c + 2 * n - 1) := fun g1 g2 g3 => by
      have mb := mul_bnd (x := n) (y := absI c) (X := 2000001) (Y := 2000000) (by omega) (by omega)
      have ed : absI c * (ofC a b c + 2 * n - 1) = absI c * (ofC a b c - 1) + 2 * (n * absI c) := by
        rw [show ofC a b c + 2 * n - 1 = (ofC a b c - 1) + 2 * n by omega, Int.mul_add, Int.mul_comm (absI c) (2 * n), Int.mul_assoc]
      rw [U.mul64 (by unfold I64; omega), U.sub64 (by unfold I64; omega), U.add64 (by unfold I64; omega)]
      refine ⟨rfl, rfl, ?_, by omega⟩
      unfold exC; rw [if_neg (by omega)]; omega
    refine ⟨fun hn => ⟨hp3, by omega, fun hq => ?_, fun hq => ⟨fun g => by omega, fun g => ⟨fun g2 => ?_, fun g2 => ⟨hc5, hc5, hc5, ?_⟩⟩⟩⟩, fun hn => ⟨fun g => ?_, fun g => ⟨fun g2 => by omega, fun g2 => ⟨hc5, hc5, hc5, ?_⟩⟩⟩⟩
    all_goals
      have eq : U.quo .i64 (U.sub .i64 0 (U.add .i64 (size a b c) 1)) 2 = -((ofC a b c + 1) / 2) := by
        rw [size_eq' hr, U.add64 (by unfold I64; omega), U.sub64 (by unfold I64; omega), show (0 : Int) - (ofC a b c + 1) = -(ofC a b c + 1) by omega]
        have : (-(ofC a b c + 1)).tdiv 2 = -((ofC a b c + 1) / 2) := by rw [Int.neg_tdiv, tdiv_pos (by omega)]
        rw [U.quo64 (by rw [this]; unfold I64; omega), this]
    · rw [eq] at hq
      have n2 : ¬ n > 2000000 := by omega
      have eC : exC a b c n = 0 := by unfold exC; split <;> omega
      simp [exE, exLow, exHigh, exStr, h, n1, n2, eC, mvE, mvLow, mvHigh, mvStr]
    · rw [eq] at hq; omega
    · rw [eq] at hq
      have n2 : ¬ n > 2000000 := by omega
      obtain ⟨e1, e2, e3, e4⟩ := main n2 (by omega) (by omega)
      rw [e1, e2]
      simp only [exE, exLow, exHigh, exStr, h, ne_eq, not_true_eq_false, if_false, if_neg n1, if_neg n2, e3]
      exact lim_tail p1 p2 (by omega) e4
    · have n2 : n > 2000000 := by omega
      simp [exE, exLow, exHigh, exStr, h, n1, n2]
    · have n2 : ¬ n > 2000000 := by omega
      obtain ⟨e1, e2, e3, e4⟩ := main n2 (by omega) (by omega)
      rw [e1, e2]
      simp only [exE, exLow, exHigh, exStr, h, ne_eq, not_true_eq_false, if_false, if_neg n1, if_neg n2, e3]
      exact lim_tail p1 p2 (by omega) e4
  · exact h.elim
end Go.RX.Span

/- Ranges: Exterior of the program and of the reference. -/
set_option linter.unusedVariables false
set_option linter.unusedSimpArgs false
set_option maxRecDepth 100000
namespace Go.RX.Span
open Go Go.RX

def xtF (a b c n : Int) : Int := if n ≥ 0 then b + absI c else a + max n (-3000000) * absI c
def xtC (n : Int) : Int := if n ≥ 0 then n else -(max n (-3000000))
def xtE (a b c n : Int) : Int := if chk a b c ≠ 0 then chk a b c else if a > b then 0 else if n > 2000000 then 4 else mvE (xtF a b c n) (absI c) (xtC n)
def xtLow (a b c n : Int) : Int := if chk a b c ≠ 0 then 0 else if a > b then 1 else if n > 2000000 then 0 else mvLow (xtF a b c n) (absI c) (xtC n)
def xtHigh (a b c n : Int) : Int := if chk a b c ≠ 0 then 0 else if a > b then 0 else if n > 2000000 then 0 else mvHigh (xtF a b c n) (absI c) (xtC n)
def xtStr (a b c n : Int) : Int := if chk a b c ≠ 0 then 0 else if a > b then 1 else if n > 2000000 then 0 else mvStr (xtF a b c n) (absI c) (xtC n) c
noncomputable def c_Exterior : Con := fun args => match args with
  | [.agg [.lit (.int .i64 a), .lit (.int .i64 b), .lit (.int .i64 c)], .lit (.int .i64 n)] =>
    .ask (I64 a ∧ I64 b ∧ I64 c ∧ I64 n) (.ret (.tup [.agg [.lit (.int .i64 (lk xtLow a b c n)), .lit (.int .i64 (lk xtHigh a b c n)), .lit (.int .i64 (lk xtStr a b c n))], .lit (.int .i64 (lk xtE a b c n))]))
  | _ => .stuck 1

set_option maxRecDepth 100000 in
theorem t_Exterior (a b c n : Int) : conB Go.Proofs.Try.prog (conOf k8) noLoops 10 37 [.agg [.lit (.int .i64 a), .lit (.int .i64 b), .lit (.int .i64 c)], .lit (.int .i64 n)] =
    T.ask (I64 a ∧ I64 b ∧ I64 c) (.br (U.ne (lk chk a b c) (0 : Int)) (.ret (.tup [.agg [.lit (.int .i64 0), .lit (.int .i64 0), .lit (.int .i64 0)], .lit (.int .i64 (lk chk a b c))]))
      (.ask (a ≤ b → c ≠ (0 : Int) ∧ (-9223372036854775807 : Int) ≤ c ∧ b - a < (9223372036854775807 : Int) ∧ I64 a ∧ I64 b ∧ I64 c) (.ask (lk ofB a b c < (0 : Int) → lk ofC a b c ≠ (0 :
      Int) → I64 (lk ofC a b c - (1 : Int)) ∧ I64 (lk ofB a b c * (lk ofC a b c - (1 : Int))) ∧ I64 (lk ofF a b c + lk ofB a b c * (lk ofC a b c - (1 : Int))) ∧ I64 (-lk ofB a b c)) (.br
      (U.eq (lk ofC a b c) (0 : Int)) (.ask ((0 : Int) < lk ofC a b c → I64 (lk ofC a b c - (1 : Int)) ∧ I64 (lk uB (lk ofF a b c) (lk ofB a b c) (lk ofC a b c) * (lk ofC a b c - (1 :
      Int))) ∧ I64 (lk uF (lk ofF a b c) (lk ofB a b c) (lk ofC a b c) + lk uB (lk ofF a b c) (lk ofB a b c) (lk ofC a b c) * (lk ofC a b c - (1 : Int)))) (.ret (.tup [.agg [.lit (.int
      .i64 (lk nLow (lk uF (lk ofF a b c) (lk ofB a b c) (lk ofC a b c)) (lk uB (lk ofF a b c) (lk ofB a b c) (lk ofC a b c)) (lk ofC a b c))), .lit (.int .i64 (lk nHigh (lk uF (lk ofF a
      b c) (lk ofB a b c) (lk ofC a b c)) (lk uB (lk ofF a b c) (lk ofB a b c) (lk ofC a b c)) (lk ofC a b c))), .lit (.int .i64 (lk nStr (lk uF (lk ofF a b c) (lk ofB a b c) (lk ofC a b
      c)) (lk uB (lk ofF a b c) (lk ofB a b c) (lk ofC a b c)) (lk ofC a b c)))], .lit (.int .i64 (lk nErr (lk uF (lk ofF a b c) (lk ofB a b c) (lk ofC a b c)) (lk uB (lk ofF a b c) (lk
      ofB a b c) (lk ofC a b c)) (lk ofC a b c)))]))) (.br (U.gt n (2000000 : Int)) (.ret (.tup [.agg [.lit (.int .i64 0), .lit (.int .i64 0), .lit (.int .i64 0)], .lit (.int .i64 4)]))
      (.br (U.ge n (0 : Int)) (.ask (I64 (lk ofC a b c - (1 : Int)) ∧ I64 (lk uB (lk ofF a b c) (lk ofB a b c) (lk ofC a b c) * (lk ofC a b c - (1 : Int))) ∧ I64 (lk uF (lk ofF a b c) (lk
      ofB a b c) (lk ofC a b c) + lk uB (lk ofF a b c) (lk ofB a b c) (lk ofC a b c) * (lk ofC a b c - (1 : Int)))) (.ask (c < (0 : Int) → n ≠ (0 : Int) → I64 (n - (1 : Int)) ∧ I64 (lk uB
      (lk ofF a b c) (lk ofB a b c) (lk ofC a b c) * (n - (1 : Int))) ∧ I64 (U.add .i64 (lk sLast (lk uF (lk ofF a b c) (lk ofB a b c) (lk ofC a b c)) (lk uB (lk ofF a b c) (lk ofB a b c)
      (lk ofC a b c)) (lk ofC a b c)) (lk uB (lk ofF a b c) (lk ofB a b c) (lk ofC a b c)) + lk uB (lk ofF a b c) (lk ofB a b c) (lk ofC a b c) * (n - (1 : Int))) ∧ I64 (-lk uB (lk ofF a
      b c) (lk ofB a b c) (lk ofC a b c))) (.ask ((0 : Int) < n → I64 (n - (1 : Int)) ∧ I64 (lk kB (U.add .i64 (lk sLast (lk uF (lk ofF a b c) (lk ofB a b c) (lk ofC a b c)) (lk uB (lk
      ofF a b c) (lk ofB a b c) (lk ofC a b c)) (lk ofC a b c)) (lk uB (lk ofF a b c) (lk ofB a b c) (lk ofC a b c))) (lk uB (lk ofF a b c) (lk ofB a b c) (lk ofC a b c)) n c * (n - (1 :
      Int))) ∧ I64 (lk kF (U.add .i64 (lk sLast (lk uF (lk ofF a b c) (lk ofB a b c) (lk ofC a b c)) (lk uB (lk ofF a b c) (lk ofB a b c) (lk ofC a b c)) (lk ofC a b c)) (lk uB (lk ofF a
      b c) (lk ofB a b c) (lk ofC a b c))) (lk uB (lk ofF a b c) (lk ofB a b c) (lk ofC a b c)) n c + lk kB (U.add .i64 (lk sLast (lk uF (lk ofF a b c) (lk ofB a b c) (lk ofC a b c)) (lk
      uB (lk ofF a b c) (lk ofB a b c) (lk ofC a b c)) (lk ofC a b c)) (lk uB (lk ofF a b c) (lk ofB a b c) (lk ofC a b c))) (lk uB (lk ofF a b c) (lk ofB a b c) (lk ofC a b c)) n c * (n
      - (1 : Int)))) (.ret (.tup [.agg [.lit (.int .i64 (lk nLow (lk kF (U.add .i64 (lk sLast (lk uF (lk ofF a b c) (lk ofB a b c) (lk ofC a b c)) (lk uB (lk ofF a b c) (lk ofB a b c) (lk
      ofC a b c)) (lk ofC a b c)) (lk uB (lk ofF a b c) (lk ofB a b c) (lk ofC a b c))) (lk uB (lk ofF a b c) (lk ofB a b c) (lk ofC a b c)) n c) (lk kB (U.add .i64 (lk sLast (lk uF (lk
      ofF a b c) (lk ofB a b c) (lk ofC a b c)) (lk uB (lk ofF a b c) (lk ofB a b c) (lk ofC a b c)) (lk ofC a b c)) (lk uB (lk ofF a b c) (lk ofB a b c) (lk ofC a b c))) (lk uB (lk ofF a
      b c) (lk ofB a b c) (lk ofC a b c)) n c) n)), .lit (.int .i64 (lk nHigh (lk kF (U.add .i64 (lk sLast (lk uF (lk ofF a b c) (lk ofB a b c) (lk ofC a b c)) (lk uB (lk ofF a b c) (lk
      ofB a b c) (lk ofC a b c)) (lk ofC a b c)) (lk uB (lk ofF a b c) (lk ofB a b c) (lk ofC a b c))) (lk uB (lk ofF a b c) (lk ofB a b c) (lk ofC a b c)) n c) (lk kB (U.add .i64 (lk
      sLast (lk uF (lk ofF a b c) (lk ofB a b c) (lk ofC a b c)) (lk uB (lk ofF a b c) (lk ofB a b c) (lk ofC a b c)) (lk ofC a b c)) (lk uB (lk ofF a b c) (lk ofB a b c) (lk ofC a b c)))
      (lk uB (lk ofF a b c) (lk ofB a b c) (lk ofC a b c)) n c) n)), .lit (.int .i64 (lk nStr (lk kF (U.add .i64 (lk sLast (lk uF (lk ofF a b c) (lk ofB a b c) (lk ofC a b c)) (lk uB (lk
      ofF a b c) (lk ofB a b c) (lk ofC a b c)) (lk ofC a b c)) (lk uB (lk ofF a b c) (lk ofB a b c) (lk ofC a b c))) (lk uB (lk ofF a b c) (lk ofB a b c) (lk ofC a b c)) n c) (lk kB
      (U.add .i64 (lk sLast (lk uF (lk ofF a b c) (lk ofB a b c) (lk ofC a b c)) (lk uB (lk ofF a b c) (lk ofB a b c) (lk ofC a b c)) (lk ofC a b c)) (lk uB (lk ofF a b c) (lk ofB a b c)
      (lk ofC a b c))) (lk uB (lk ofF a b c) (lk ofB a b c) (lk ofC a b c)) n c) n))], .lit (.int .i64 (lk nErr (lk kF (U.add .i64 (lk sLast (lk uF (lk ofF a b c) (lk ofB a b c) (lk ofC a
      b c)) (lk uB (lk ofF a b c) (lk ofB a b c) (lk ofC a b c)) (lk ofC a b c)) (lk uB (lk ofF a b c) (lk ofB a b c) (lk ofC a b c))) (lk uB (lk ofF a b c) (lk ofB a b c) (lk ofC a b c))
      n c) (lk kB (U.add .i64 (lk sLast (lk uF (lk ofF a b c) (lk ofB a b c) (lk ofC a b c)) (lk uB (lk ofF a b c) (lk ofB a b c) (lk ofC a b c)) (lk ofC a b c)) (lk uB (lk ofF a b c) (lk
      ofB a b c) (lk ofC a b c))) (lk uB (lk ofF a b c) (lk ofB a b c) (lk ofC a b c)) n c) n))]))))) (.ask (c < (0 : Int) → U.sub .i64 0 (U.mm true n (-3000000 : Int)) ≠ (0 : Int) → I64
      (U.sub .i64 0 (U.mm true n (-3000000 : Int)) - (1 : Int)) ∧ I64 (lk uB (lk ofF a b c) (lk ofB a b c) (lk ofC a b c) * (U.sub .i64 0 (U.mm true n (-3000000 : Int)) - (1 : Int))) ∧
      I64 (U.add .i64 (lk uF (lk ofF a b c) (lk ofB a b c) (lk ofC a b c)) (U.mul .i64 (U.mm true n (-3000000 : Int)) (lk uB (lk ofF a b c) (lk ofB a b c) (lk ofC a b c))) + lk uB (lk ofF
      a b c) (lk ofB a b c) (lk ofC a b c) * (U.sub .i64 0 (U.mm true n (-3000000 : Int)) - (1 : Int))) ∧ I64 (-lk uB (lk ofF a b c) (lk ofB a b c) (lk ofC a b c))) (.ask ((0 : Int) <
      U.sub .i64 0 (U.mm true n (-3000000 : Int)) → I64 (U.sub .i64 0 (U.mm true n (-3000000 : Int)) - (1 : Int)) ∧ I64 (lk kB (U.add .i64 (lk uF (lk ofF a b c) (lk ofB a b c) (lk ofC a b
      c)) (U.mul .i64 (U.mm true n (-3000000 : Int)) (lk uB (lk ofF a b c) (lk ofB a b c) (lk ofC a b c)))) (lk uB (lk ofF a b c) (lk ofB a b c) (lk ofC a b c)) (U.sub .i64 0 (U.mm true n
      (-3000000 : Int))) c * (U.sub .i64 0 (U.mm true n (-3000000 : Int)) - (1 : Int))) ∧ I64 (lk kF (U.add .i64 (lk uF (lk ofF a b c) (lk ofB a b c) (lk ofC a b c)) (U.mul .i64 (U.mm
      true n (-3000000 : Int)) (lk uB (lk ofF a b c) (lk ofB a b c) (lk ofC a b c)))) (lk uB (lk ofF a b c) (lk ofB a b c) (lk ofC a b c)) (U.sub .i64 0 (U.mm true n (-3000000 : Int))) c
      + lk kB (U.add .i64 (lk uF (lk ofF a b c) (lk ofB a b c) (lk ofC a b c)) (U.mul .i64 (U.mm true n (-3000000 : Int)) (lk uB (lk ofF a b c) (lk ofB a b c) (lk ofC a b c)))) (lk uB (lk
      ofF a b c) (lk ofB a b c) (lk ofC a b c)) (U.sub .i64 0 (U.mm true n (-3000000 : Int))) c * (U.sub .i64 0 (U.mm true n (-3000000 : Int)) - (1 : Int)))) (.ret (.tup [.agg [.lit (.int
      .i64 (lk nLow (lk kF (U.add .i64 (lk uF (lk ofF a b c) (lk ofB a b c) (lk ofC a b c)) (U.mul .i64 (U.mm true n (-3000000 : Int)) (lk uB (lk ofF a b c) (lk ofB a b c) (lk ofC a b
      c)))) (lk uB (lk ofF a b c) (lk ofB a b c) (lk ofC a b c)) (U.sub .i64 0 (U.mm true n (-3000000 : Int))) c) (lk kB (U.add .i64 (lk uF (lk ofF a b c) (lk ofB a b c) (lk ofC a b c))
      (U.mul .i64 (U.mm true n (-3000000 : Int)) (lk uB (lk ofF a b c) (lk ofB a b c) (lk ofC a b c)))) (lk uB (lk ofF a b c) (lk ofB a b c) (lk ofC a b c)) (U.sub .i64 0 (U.mm true n
      (-3000000 : Int))) c) (U.sub .i64 0 (U.mm true n (-3000000 : Int))))), .lit (.int .i64 (lk nHigh (lk kF (U.add .i64 (lk uF (lk ofF a b c) (lk ofB a b c) (lk ofC a b c)) (U.mul .i64
      (U.mm true n (-3000000 : Int)) (lk uB (lk ofF a b c) (lk ofB a b c) (lk ofC a b c)))) (lk uB (lk ofF a b c) (lk ofB a b c) (lk ofC a b c)) (U.sub .i64 0 (U.mm true n (-3000000 :
      Int))) c) (lk kB (U.add .i64 (lk uF (lk ofF a b c) (lk ofB a b c) (lk ofC a b c)) (U.mul .i64 (U.mm true n (-3000000 : Int)) (lk uB (lk ofF a b c) (lk ofB a b c) (lk ofC a b c))))
      (lk uB (lk ofF a b c) (lk ofB a b c) (lk ofC a b c)) (U.sub .i64 0 (U.mm true n (-3000000 : Int))) c) (U.sub .i64 0 (U.mm true n (-3000000 : Int))))), .lit (.int .i64 (lk nStr (lk
      kF (U.add .i64 (lk uF (lk ofF a b c) (lk ofB a b c) (lk ofC a b c)) (U.mul .i64 (U.mm true n (-3000000 : Int)) (lk uB (lk ofF a b c) (lk ofB a b c) (lk ofC a b c)))) (lk uB (lk ofF
      a b c) (lk ofB a b c) (lk ofC a b c)) (U.sub .i64 0 (U.mm true n (-3000000 : Int))) c) (lk kB (U.add .i64 (lk uF (lk ofF a b c) (lk ofB a b c) (lk ofC a b c)) (U.mul .i64 (U.mm true
      n (-3000000 : Int)) (lk uB (lk ofF a b c) (lk ofB a b c) (lk ofC a b c)))) (lk uB (lk ofF a b c) (lk ofB a b c) (lk ofC a b c)) (U.sub .i64 0 (U.mm true n (-3000000 : Int))) c)
      (U.sub .i64 0 (U.mm true n (-3000000 : Int)))))], .lit (.int .i64 (lk nErr (lk kF (U.add .i64 (lk uF (lk ofF a b c) (lk ofB a b c) (lk ofC a b c)) (U.mul .i64 (U.mm true n (-3000000
      : Int)) (lk uB (lk ofF a b c) (lk ofB a b c) (lk ofC a b c)))) (lk uB (lk ofF a b c) (lk ofB a b c) (lk ofC a b c)) (U.sub .i64 0 (U.mm true n (-3000000 : Int))) c) (lk kB (U.add
      .i64 (lk uF (lk ofF a b c) (lk ofB a b c) (lk ofC a b c)) (U.mul .i64 (U.mm true n (-3000000 : Int)) (lk uB (lk ofF a b c) (lk ofB a b c) (lk ofC a b c)))) (lk uB (lk ofF a b c) (lk
      ofB a b c) (lk ofC a b c)) (U.sub .i64 0 (U.mm true n (-3000000 : Int))) c) (U.sub .i64 0 (U.mm true n (-3000000 : Int)))))])))))))))) := by kernel_rfl
set_option maxHeartbeats 1000000 in
theorem Exterior_ok : ConOK P 37 c_Exterior := con_of (allOK mixed k8_ok) 10 37 fun args r h => by
  unfold c_Exterior at h
  split at h
  · rename_i a b c n
    have hp := (T.is_ask h).1
    have h := (T.is_ask h).2
    obtain rfl := T.is_ret h
    rw [t_Exterior]
    simp only [T.All, U.le_t, U.le_f, U.lt_t, U.lt_f, U.gt_t, U.gt_f, U.ge_t, U.ge_f, U.eq_t, U.eq_f, U.ne_t, U.ne_f, U.not_t, U.not_f, U.andb_t, U.andb_f, SV.lit.injEq, SV.agg.injEq, SV.tup.injEq, List.cons.injEq, Value.int.injEq, Value.bool.injEq, true_and, and_true, lk_eq, lim_t, lim_f, mm_min, mm_max]
    refine ⟨⟨hp.1, hp.2.1, hp.2.2.1⟩, fun h => ?_, fun h => ⟨of_ask (chk_zero.1 h) hp.1 hp.2.1 hp.2.2.1, ?_⟩⟩
    · simp [xtE, xtLow, xtHigh, xtStr, h]
    have hr := chk_zero.1 h
    have hl := hr.1
    by_cases hab : a ≤ b
    · obtain ⟨p1, p2, p3, p4, p5, p6, p7, p8, p9, p10⟩ := parts hr hab
      obtain ⟨u1, u2⟩ := up_of hr hab
      obtain ⟨s1, s2, s3, s4, s5⟩ := series_of hr hab
      have sl := s5 (ofC a b c - 1) (by omega) (by omega)
      rw [u1, u2]
      have m1 : I64 (ofB a b c * (ofC a b c - 1)) := by unfold I64; omega
      have n1 : ¬ a > b := by omega
      have eL : sLast a (absI c) (ofC a b c) = b := by unfold sLast; omega
      rw [eL]
      refine ⟨fun _ _ => ⟨by unfold I64; omega, m1, by unfold I64; omega, by unfold I64; omega⟩, fun g => by omega, fun _ => ⟨fun g => ?_, fun g => ⟨fun g2 => ?_, fun g2 => ?_⟩⟩⟩
      · simp [xtE, xtLow, xtHigh, xtStr, h, n1, g]
      all_goals
        have n2 : ¬ n > 2000000 := by omega
      · have eF : xtF a b c n = b + absI c := by unfold xtF; rw [if_pos g2]
        have eC : xtC n = n := by unfold xtC; rw [if_pos g2]
        have mb := mul_bnd (x := absI c) (y := n - 1) (X := 2000000) (Y := 2000000) (by omega) (by omega)
        rw [U.add64 (by unfold I64; omega)]
        obtain ⟨q1, q2, q3, q4⟩ := nrm_like (f := b + absI c) (s := absI c) (C := n) (c := c) p1
        rw [q1, q2, q3, q4]
        simp only [xtE, xtLow, xtHigh, xtStr, h, ne_eq, not_true_eq_false, if_false, if_neg n1, if_neg n2, eC, eF, and_self, and_true]
        refine ⟨⟨by unfold I64; omega, by unfold I64; omega, by unfold I64; omega⟩, fun _ _ => ⟨by unfold I64; omega, by unfold I64; omega, by unfold I64; omega, by unfold I64; omega⟩, fun g => ?_⟩
        obtain ⟨l1, l2⟩ := like_bnd (f := b + absI c) (s := absI c) (C := n) (c := c) (by omega)
        exact ⟨by unfold I64; omega, by unfold I64; omega, by unfold I64; omega⟩
      · have n3 : ¬ n ≥ 0 := by omega
        have eF : xtF a b c n = a + max n (-3000000) * absI c := by unfold xtF; rw [if_neg n3]
        have eC : xtC n = -(max n (-3000000)) := by unfold xtC; rw [if_neg n3]
        obtain ⟨M, hM⟩ : ∃ M, M = max n (-3000000) := ⟨_, rfl⟩
        rw [← hM] at eF eC ⊢
        have mb := mul_bnd (x := M) (y := absI c) (X := 3000000) (Y := 2000000) (by omega) (by omega)
        have mb2 := mul_bnd (x := absI c) (y := -M - 1) (X := 2000000) (Y := 3000000) (by omega) (by omega)
        have e0 : U.sub .i64 0 M = -M := by rw [U.sub64 (by unfold I64; omega)]; omega
        rw [e0, U.mul64 (by unfold I64; omega), U.add64 (by unfold I64; omega)]
        obtain ⟨q1, q2, q3, q4⟩ := nrm_like (f := a + M * absI c) (s := absI c) (C := -M) (c := c) p1
        rw [q1, q2, q3, q4]
        simp only [xtE, xtLow, xtHigh, xtStr, h, ne_eq, not_true_eq_false, if_false, if_neg n1, if_neg n2, eC, eF, and_self, and_true]
        refine ⟨fun _ _ => ⟨by unfold I64; omega, by unfold I64; omega, by unfold I64; omega, by unfold I64; omega⟩, fun g => ?_⟩
        obtain ⟨l1, l2⟩ := like_bnd (f := a + M * absI c) (s := absI c) (C := -M) (c := c) (by omega)
        exact ⟨by unfold I64; omega, by unfold I64; omega, by unfold I64; omega⟩
    · obtain ⟨f1, f2, f3⟩ := empty_of (c := c) hab
      rw [f1, f2, f3]
      refine ⟨fun g => absurd g (by omega), fun _ => ⟨fun g => absurd g (by omega), ?_⟩, fun g => absurd rfl g⟩
      have n1 : a > b := by omega
      simp [nLow, nHigh, nStr, nErr, xtE, xtLow, xtHigh, xtStr, h, n1]
  · exact h.elim

set_option maxRecDepth 100000 in
theorem t_rExterior (a b c n : Int) : conB Go.Proofs.Try.prog (conOf k8) noLoops 10 207 [.agg [.lit (.int .i64 a), .lit (.int .i64 b), .lit (.int .i64 c)], .lit (.int .i64 n)] =
    T.ask (I64 a ∧ I64 b ∧ I64 c) (.br (U.ne (lk chk a b c) (0 : Int)) (.ret (.tup [.agg [.lit (.int .i64 0), .lit (.int .i64 0), .lit (.int .i64 0)], .lit (.int .i64 (lk chk a b c))]))
      (.br (lk isE a b c) (.ret (.tup [.agg [.lit (.int .i64 1), .lit (.int .i64 0), .lit (.int .i64 1)], .lit (.int .i64 0)])) (.br (U.eq n (0 : Int)) (.ret (.tup [.agg [.lit (.int .i64
      1), .lit (.int .i64 0), .lit (.int .i64 1)], .lit (.int .i64 0)])) (.br (U.gt n (2000000 : Int)) (.ret (.tup [.agg [.lit (.int .i64 0), .lit (.int .i64 0), .lit (.int .i64 0)], .lit
      (.int .i64 4)])) (.br (U.lt n (-2000000 : Int)) (.ret (.tup [.agg [.lit (.int .i64 0), .lit (.int .i64 0), .lit (.int .i64 0)], .lit (.int .i64 4)])) (.br (U.gt n (0 : Int)) (.ask
      (I64 (-c)) (.ask (I64 (-c)) (.ask (I64 (-c)) (.br (U.le (U.add .i64 b (lk absI c)) (U.add .i64 b (U.mul .i64 n (lk absI c)))) (.br (U.not (lk lim (U.add .i64 b (lk absI c)))) (.ret
      (.tup [.agg [.lit (.int .i64 0), .lit (.int .i64 0), .lit (.int .i64 0)], .lit (.int .i64 4)])) (.br (U.not (lk lim (U.add .i64 b (U.mul .i64 n (lk absI c))))) (.ret (.tup [.agg
      [.lit (.int .i64 0), .lit (.int .i64 0), .lit (.int .i64 0)], .lit (.int .i64 4)])) (.ask (U.add .i64 b (lk absI c) < U.add .i64 b (U.mul .i64 n (lk absI c)) → U.lt c (0 : Int) =
      true → I64 (-lk absI c)) (.ret (.tup [.agg [.lit (.int .i64 (lk rnL (U.add .i64 b (lk absI c)) (U.add .i64 b (U.mul .i64 n (lk absI c))) (lk absI c) (U.lt c (0 : Int)))), .lit (.int
      .i64 (lk rnH (U.add .i64 b (lk absI c)) (U.add .i64 b (U.mul .i64 n (lk absI c))) (lk absI c) (U.lt c (0 : Int)))), .lit (.int .i64 (lk rnS (U.add .i64 b (lk absI c)) (U.add .i64 b
      (U.mul .i64 n (lk absI c))) (lk absI c) (U.lt c (0 : Int))))], .lit (.int .i64 0)]))))) (.ask (U.add .i64 b (lk absI c) < U.add .i64 b (U.mul .i64 n (lk absI c)) → U.lt c (0 : Int)
      = true → I64 (-lk absI c)) (.ret (.tup [.agg [.lit (.int .i64 (lk rnL (U.add .i64 b (lk absI c)) (U.add .i64 b (U.mul .i64 n (lk absI c))) (lk absI c) (U.lt c (0 : Int)))), .lit
      (.int .i64 (lk rnH (U.add .i64 b (lk absI c)) (U.add .i64 b (U.mul .i64 n (lk absI c))) (lk absI c) (U.lt c (0 : Int)))), .lit (.int .i64 (lk rnS (U.add .i64 b (lk absI c)) (U.add
      .i64 b (U.mul .i64 n (lk absI c))) (lk absI c) (U.lt c (0 : Int))))], .lit (.int .i64 0)]))))))) (.ask (I64 (-c)) (.ask (I64 (-c)) (.ask (I64 (-c)) (.br (U.le (U.add .i64 a (U.mul
      .i64 n (lk absI c))) (U.sub .i64 a (lk absI c))) (.br (U.not (lk lim (U.add .i64 a (U.mul .i64 n (lk absI c))))) (.ret (.tup [.agg [.lit (.int .i64 0), .lit (.int .i64 0), .lit
      (.int .i64 0)], .lit (.int .i64 4)])) (.br (U.not (lk lim (U.sub .i64 a (lk absI c)))) (.ret (.tup [.agg [.lit (.int .i64 0), .lit (.int .i64 0), .lit (.int .i64 0)], .lit (.int
      .i64 4)])) (.ask (U.add .i64 a (U.mul .i64 n (lk absI c)) < U.sub .i64 a (lk absI c) → U.lt c (0 : Int) = true → I64 (-lk absI c)) (.ret (.tup [.agg [.lit (.int .i64 (lk rnL (U.add
      .i64 a (U.mul .i64 n (lk absI c))) (U.sub .i64 a (lk absI c)) (lk absI c) (U.lt c (0 : Int)))), .lit (.int .i64 (lk rnH (U.add .i64 a (U.mul .i64 n (lk absI c))) (U.sub .i64 a (lk
      absI c)) (lk absI c) (U.lt c (0 : Int)))), .lit (.int .i64 (lk rnS (U.add .i64 a (U.mul .i64 n (lk absI c))) (U.sub .i64 a (lk absI c)) (lk absI c) (U.lt c (0 : Int))))], .lit (.int
      .i64 0)]))))) (.ask (U.add .i64 a (U.mul .i64 n (lk absI c)) < U.sub .i64 a (lk absI c) → U.lt c (0 : Int) = true → I64 (-lk absI c)) (.ret (.tup [.agg [.lit (.int .i64 (lk rnL
      (U.add .i64 a (U.mul .i64 n (lk absI c))) (U.sub .i64 a (lk absI c)) (lk absI c) (U.lt c (0 : Int)))), .lit (.int .i64 (lk rnH (U.add .i64 a (U.mul .i64 n (lk absI c))) (U.sub .i64
      a (lk absI c)) (lk absI c) (U.lt c (0 : Int)))), .lit (.int .i64 (lk rnS (U.add .i64 a (U.mul .i64 n (lk absI c))) (U.sub .i64 a (lk absI c)) (lk absI c) (U.lt c (0 : Int))))], .lit
      (.int .i64 0)]))))))))))))) := by kernel_rfl
set_option maxHeartbeats 1000000 in
theorem rExterior_ok : ConOK P 207 c_Exterior := con_of (allOK mixed k8_ok) 10 207 fun args r h => by
  unfold c_Exterior at h
  split at h
  · rename_i a b c n
    have hp := (T.is_ask h).1
    have h := (T.is_ask h).2
    obtain rfl := T.is_ret h
    rw [t_rExterior]
    simp only [T.All, U.le_t, U.le_f, U.lt_t, U.lt_f, U.gt_t, U.gt_f, U.ge_t, U.ge_f, U.eq_t, U.eq_f, U.ne_t, U.ne_f, U.not_t, U.not_f, U.andb_t, U.andb_f, SV.lit.injEq, SV.agg.injEq, SV.tup.injEq, List.cons.injEq, Value.int.injEq, Value.bool.injEq, true_and, and_true, lk_eq, lim_t, lim_f, isE_t, isE_f]
    have hp3 : I64 a ∧ I64 b ∧ I64 c := ⟨hp.1, hp.2.1, hp.2.2.1⟩
    refine ⟨hp3, fun h => ?_, fun h => ⟨fun he => ?_, fun he => ?_⟩⟩
    · simp [xtE, xtLow, xtHigh, xtStr, h]
    · obtain ⟨rfl, rfl, rfl⟩ := he
      simp [xtE, xtLow, xtHigh, xtStr, h]
    have hr := chk_zero.1 h
    have hl := hr.1
    have hab := right_le hr he
    obtain ⟨p1, p2, p3, p4, p5, p6, p7, p8, p9, p10⟩ := parts hr hab
    have n1 : ¬ a > b := by omega
    have hc5 : I64 (-c) := by unfold I64; omega
    refine ⟨fun h0 => ?_, fun h0 => ⟨fun g => ?_, fun g => ⟨fun g2 => ?_, fun g2 => ⟨fun g3 => ⟨hc5, hc5, hc5, ?_⟩, fun g3 => ⟨hc5, hc5, hc5, ?_⟩⟩⟩⟩⟩
    · have hk : chk a b c = 0 := h
      subst h0
      simp [xtE, xtLow, xtHigh, xtStr, hk, n1, xtC, mvE, mvLow, mvHigh, mvStr]
    · simp [xtE, xtLow, xtHigh, xtStr, h, n1, g]
    all_goals
      have n2 : ¬ n > 2000000 := by omega
    · have n3 : ¬ n ≥ 0 := by omega
      obtain ⟨M, hM⟩ : ∃ M, M = max n (-3000000) := ⟨_, rfl⟩
      have mm := mulle (s := absI c) (x := M) (y := -2000001) p1 (by omega)
      rw [Int.mul_comm (absI c) M] at mm
      have eC : xtC n = -M := by unfold xtC; rw [if_neg n3, hM]
      have eF : xtF a b c n = a + M * absI c := by unfold xtF; rw [if_neg n3, hM]
      have e : mvE (a + M * absI c) (absI c) (-M) = 4 := by
        unfold mvE; rw [if_neg (by omega), if_neg (by omega)]
      simp only [xtE, xtLow, xtHigh, xtStr, h, ne_eq, not_true_eq_false, if_false, if_neg n1, if_neg n2, mvLow, mvHigh, mvStr, eC, eF, e, if_neg (show ¬ -M ≤ 0 by omega)]
      simp
    · have eF : xtF a b c n = b + absI c := by unfold xtF; rw [if_pos (by omega)]
      have eC : xtC n = n := by unfold xtC; rw [if_pos (by omega)]
      have mb := mul_bnd (x := n) (y := absI c) (X := 2000001) (Y := 2000000) (by omega) (by omega)
      rw [U.add64 (a := b) (b := absI c) (by unfold I64; omega), U.mul64 (by unfold I64; omega), U.add64 (by unfold I64; omega)]
      simp only [xtE, xtLow, xtHigh, xtStr, h, ne_eq, not_true_eq_false, if_false, if_neg n1, if_neg n2, eC, eF]
      exact lim_tail p1 p2 (by omega) (by rw [Int.mul_sub, Int.mul_comm n (absI c)]; omega)
    · have n3 : ¬ n ≥ 0 := by omega
      have em : max n (-3000000) = n := by omega
      have eF : xtF a b c n = a + n * absI c := by unfold xtF; rw [if_neg n3, em]
      have eC : xtC n = -n := by unfold xtC; rw [if_neg n3, em]
      have mb := mul_bnd (x := n) (y := absI c) (X := 2000001) (Y := 2000000) (by omega) (by omega)
      rw [U.sub64 (a := a) (b := absI c) (by unfold I64; omega), U.mul64 (by unfold I64; omega), U.add64 (by unfold I64; omega)]
      simp only [xtE, xtLow, xtHigh, xtStr, h, ne_eq, not_true_eq_false, if_false, if_neg n1, if_neg n2, eC, eF]
      exact lim_tail p1 p2 (by omega) (by rw [Int.mul_sub, Int.mul_neg, Int.mul_comm n (absI c)]; omega)
  · exact h.elim
end Go.RX.Span

/- Ranges: Interior of the program and of the reference. -/
set_option linter.unusedVariables false
set_option linter.unusedSimpArgs false
set_option maxRecDepth 100000
namespace Go.RX.Span
open Go Go.RX

def inF (a b c n : Int) : Int := if n ≥ 0 then a + absI c * (ofC a b c - n) else a
def inE (a b c n : Int) : Int := if chk a b c ≠ 0 then chk a b c else if n > ofC a b c ∨ n < -ofC a b c then 5 else if n = 0 then 0 else mvE (inF a b c n) (absI c) (absI n)
def inLow (a b c n : Int) : Int := if chk a b c ≠ 0 then 0 else if n > ofC a b c ∨ n < -ofC a b c then 0 else if n = 0 then 1 else mvLow (inF a b c n) (absI c) (absI n)
def inHigh (a b c n : Int) : Int := if chk a b c ≠ 0 then 0 else if n > ofC a b c ∨ n < -ofC a b c then 0 else if n = 0 then 0 else mvHigh (inF a b c n) (absI c) (absI n)
def inStr (a b c n : Int) : Int := if chk a b c ≠ 0 then 0 else if n > ofC a b c ∨ n < -ofC a b c then 0 else if n = 0 then 1 else mvStr (inF a b c n) (absI c) (absI n) c
noncomputable def c_Interior : Con := fun args => match args with
  | [.agg [.lit (.int .i64 a), .lit (.int .i64 b), .lit (.int .i64 c)], .lit (.int .i64 n)] =>
    .ask (I64 a ∧ I64 b ∧ I64 c ∧ I64 n) (.ret (.tup [.agg [.lit (.int .i64 (lk inLow a b c n)), .lit (.int .i64 (lk inHigh a b c n)), .lit (.int .i64 (lk inStr a b c n))], .lit (.int .i64 (lk inE a b c n))]))
  | _ => .stuck 1
set_option maxRecDepth 100000 in
theorem t_Interior (a b c n : Int) : conB Go.Proofs.Try.prog (conOf k8) noLoops 10 36 [.agg [.lit (.int .i64 a), .lit (.int .i64 b), .lit (.int .i64 c)], .lit (.int .i64 n)] =
    T.ask (I64 a ∧ I64 b ∧ I64 c) (.br (U.ne (lk chk a b c) (0 : Int)) (.ret (.tup [.agg [.lit (.int .i64 0), .lit (.int .i64 0), .lit (.int .i64 0)], .lit (.int .i64 (lk chk a b c))]))
      (.ask (a ≤ b → c ≠ (0 : Int) ∧ (-9223372036854775807 : Int) ≤ c ∧ b - a < (9223372036854775807 : Int) ∧ I64 a ∧ I64 b ∧ I64 c) (.ask (lk ofB a b c < (0 : Int) → lk ofC a b c ≠ (0 :
      Int) → I64 (lk ofC a b c - (1 : Int)) ∧ I64 (lk ofB a b c * (lk ofC a b c - (1 : Int))) ∧ I64 (lk ofF a b c + lk ofB a b c * (lk ofC a b c - (1 : Int))) ∧ I64 (-lk ofB a b c)) (.br
      (U.gt n (lk ofC a b c)) (.ret (.tup [.agg [.lit (.int .i64 0), .lit (.int .i64 0), .lit (.int .i64 0)], .lit (.int .i64 5)])) (.br (U.lt n (U.sub .i64 0 (lk ofC a b c))) (.ret (.tup
      [.agg [.lit (.int .i64 0), .lit (.int .i64 0), .lit (.int .i64 0)], .lit (.int .i64 5)])) (.br (U.ge n (0 : Int)) (.ask (c < (0 : Int) → U.mm true n (U.sub .i64 0 n) ≠ (0 : Int) →
      I64 (U.mm true n (U.sub .i64 0 n) - (1 : Int)) ∧ I64 (lk uB (lk ofF a b c) (lk ofB a b c) (lk ofC a b c) * (U.mm true n (U.sub .i64 0 n) - (1 : Int))) ∧ I64 (U.add .i64 (lk uF (lk
      ofF a b c) (lk ofB a b c) (lk ofC a b c)) (U.mul .i64 (lk uB (lk ofF a b c) (lk ofB a b c) (lk ofC a b c)) (U.sub .i64 (lk ofC a b c) n)) + lk uB (lk ofF a b c) (lk ofB a b c) (lk
      ofC a b c) * (U.mm true n (U.sub .i64 0 n) - (1 : Int))) ∧ I64 (-lk uB (lk ofF a b c) (lk ofB a b c) (lk ofC a b c))) (.ask ((0 : Int) < U.mm true n (U.sub .i64 0 n) → I64 (U.mm
      true n (U.sub .i64 0 n) - (1 : Int)) ∧ I64 (lk kB (U.add .i64 (lk uF (lk ofF a b c) (lk ofB a b c) (lk ofC a b c)) (U.mul .i64 (lk uB (lk ofF a b c) (lk ofB a b c) (lk ofC a b c))
      (U.sub .i64 (lk ofC a b c) n))) (lk uB (lk ofF a b c) (lk ofB a b c) (lk ofC a b c)) (U.mm true n (U.sub .i64 0 n)) c * (U.mm true n (U.sub .i64 0 n) - (1 : Int))) ∧ I64 (lk kF
      (U.add .i64 (lk uF (lk ofF a b c) (lk ofB a b c) (lk ofC a b c)) (U.mul .i64 (lk uB (lk ofF a b c) (lk ofB a b c) (lk ofC a b c)) (U.sub .i64 (lk ofC a b c) n))) (lk uB (lk ofF a b
      c) (lk ofB a b c) (lk ofC a b c)) (U.mm true n (U.sub .i64 0 n)) c + lk kB (U.add .i64 (lk uF (lk ofF a b c) (lk ofB a b c) (lk ofC a b c)) (U.mul .i64 (lk uB (lk ofF a b c) (lk ofB
      a b c) (lk ofC a b c)) (U.sub .i64 (lk ofC a b c) n))) (lk uB (lk ofF a b c) (lk ofB a b c) (lk ofC a b c)) (U.mm true n (U.sub .i64 0 n)) c * (U.mm true n (U.sub .i64 0 n) - (1 :
      Int)))) (.ret (.tup [.agg [.lit (.int .i64 (lk nLow (lk kF (U.add .i64 (lk uF (lk ofF a b c) (lk ofB a b c) (lk ofC a b c)) (U.mul .i64 (lk uB (lk ofF a b c) (lk ofB a b c) (lk ofC
      a b c)) (U.sub .i64 (lk ofC a b c) n))) (lk uB (lk ofF a b c) (lk ofB a b c) (lk ofC a b c)) (U.mm true n (U.sub .i64 0 n)) c) (lk kB (U.add .i64 (lk uF (lk ofF a b c) (lk ofB a b
      c) (lk ofC a b c)) (U.mul .i64 (lk uB (lk ofF a b c) (lk ofB a b c) (lk ofC a b c)) (U.sub .i64 (lk ofC a b c) n))) (lk uB (lk ofF a b c) (lk ofB a b c) (lk ofC a b c)) (U.mm true n
      (U.sub .i64 0 n)) c) (U.mm true n (U.sub .i64 0 n)))), .lit (.int .i64 (lk nHigh (lk kF (U.add .i64 (lk uF (lk ofF a b c) (lk ofB a b c) (lk ofC a b c)) (U.mul .i64 (lk uB (lk ofF a
      b c) (lk ofB a b c) (lk ofC a b c)) (U.sub .i64 (lk ofC a b c) n))) (lk uB (lk ofF a b c) (lk ofB a b c) (lk ofC a b c)) (U.mm true n (U.sub .i64 0 n)) c) (lk kB (U.add .i64 (lk uF
      (lk ofF a b c) (lk ofB a b c) (lk ofC a b c)) (U.mul .i64 (lk uB (lk ofF a b c) (lk ofB a b c) (lk ofC a b c)) (U.sub .i64 (lk ofC a b c) n))) (lk uB (lk ofF a b c) (lk ofB a b c)
      (lk ofC a b c)) (U.mm true n (U.sub .i64 0 n)) c) (U.mm true n (U.sub .i64 0 n)))), .lit (.int .i64 (lk nStr (lk kF (U.add .i64 (lk uF (lk ofF a b c) (lk ofB a b c) (lk ofC a b c))
      (U.mul .i64 (lk uB (lk ofF a b c) (lk ofB a b c) (lk ofC a b c)) (U.sub .i64 (lk ofC a b c) n))) (lk uB (lk ofF a b c) (lk ofB a b c) (lk ofC a b c)) (U.mm true n (U.sub .i64 0 n))
      c) (lk kB (U.add .i64 (lk uF (lk ofF a b c) (lk ofB a b c) (lk ofC a b c)) (U.mul .i64 (lk uB (lk ofF a b c) (lk ofB a b c) (lk ofC a b c)) (U.sub .i64 (lk ofC a b c) n))) (lk uB
      (lk ofF a b c) (lk ofB a b c) (lk ofC a b c)) (U.mm true n (U.sub .i64 0 n)) c) (U.mm true n (U.sub .i64 0 n))))], .lit (.int .i64 (lk nErr (lk kF (U.add .i64 (lk uF (lk ofF a b c)
      (lk ofB a b c) (lk ofC a b c)) (U.mul .i64 (lk uB (lk ofF a b c) (lk ofB a b c) (lk ofC a b c)) (U.sub .i64 (lk ofC a b c) n))) (lk uB (lk ofF a b c) (lk ofB a b c) (lk ofC a b c))
      (U.mm true n (U.sub .i64 0 n)) c) (lk kB (U.add .i64 (lk uF (lk ofF a b c) (lk ofB a b c) (lk ofC a b c)) (U.mul .i64 (lk uB (lk ofF a b c) (lk ofB a b c) (lk ofC a b c)) (U.sub
      .i64 (lk ofC a b c) n))) (lk uB (lk ofF a b c) (lk ofB a b c) (lk ofC a b c)) (U.mm true n (U.sub .i64 0 n)) c) (U.mm true n (U.sub .i64 0 n))))])))) (.ask (c < (0 : Int) → U.mm
      true n (U.sub .i64 0 n) ≠ (0 : Int) → I64 (U.mm true n (U.sub .i64 0 n) - (1 : Int)) ∧ I64 (lk uB (lk ofF a b c) (lk ofB a b c) (lk ofC a b c) * (U.mm true n (U.sub .i64 0 n) - (1 :
      Int))) ∧ I64 (lk uF (lk ofF a b c) (lk ofB a b c) (lk ofC a b c) + lk uB (lk ofF a b c) (lk ofB a b c) (lk ofC a b c) * (U.mm true n (U.sub .i64 0 n) - (1 : Int))) ∧ I64 (-lk uB (lk
      ofF a b c) (lk ofB a b c) (lk ofC a b c))) (.ask ((0 : Int) < U.mm true n (U.sub .i64 0 n) → I64 (U.mm true n (U.sub .i64 0 n) - (1 : Int)) ∧ I64 (lk kB (lk uF (lk ofF a b c) (lk
      ofB a b c) (lk ofC a b c)) (lk uB (lk ofF a b c) (lk ofB a b c) (lk ofC a b c)) (U.mm true n (U.sub .i64 0 n)) c * (U.mm true n (U.sub .i64 0 n) - (1 : Int))) ∧ I64 (lk kF (lk uF
      (lk ofF a b c) (lk ofB a b c) (lk ofC a b c)) (lk uB (lk ofF a b c) (lk ofB a b c) (lk ofC a b c)) (U.mm true n (U.sub .i64 0 n)) c + lk kB (lk uF (lk ofF a b c) (lk ofB a b c) (lk
      ofC a b c)) (lk uB (lk ofF a b c) (lk ofB a b c) (lk ofC a b c)) (U.mm true n (U.sub .i64 0 n)) c * (U.mm true n (U.sub .i64 0 n) - (1 : Int)))) (.ret (.tup [.agg [.lit (.int .i64
      (lk nLow (lk kF (lk uF (lk ofF a b c) (lk ofB a b c) (lk ofC a b c)) (lk uB (lk ofF a b c) (lk ofB a b c) (lk ofC a b c)) (U.mm true n (U.sub .i64 0 n)) c) (lk kB (lk uF (lk ofF a b
      c) (lk ofB a b c) (lk ofC a b c)) (lk uB (lk ofF a b c) (lk ofB a b c) (lk ofC a b c)) (U.mm true n (U.sub .i64 0 n)) c) (U.mm true n (U.sub .i64 0 n)))), .lit (.int .i64 (lk nHigh
      (lk kF (lk uF (lk ofF a b c) (lk ofB a b c) (lk ofC a b c)) (lk uB (lk ofF a b c) (lk ofB a b c) (lk ofC a b c)) (U.mm true n (U.sub .i64 0 n)) c) (lk kB (lk uF (lk ofF a b c) (lk
      ofB a b c) (lk ofC a b c)) (lk uB (lk ofF a b c) (lk ofB a b c) (lk ofC a b c)) (U.mm true n (U.sub .i64 0 n)) c) (U.mm true n (U.sub .i64 0 n)))), .lit (.int .i64 (lk nStr (lk kF
      (lk uF (lk ofF a b c) (lk ofB a b c) (lk ofC a b c)) (lk uB (lk ofF a b c) (lk ofB a b c) (lk ofC a b c)) (U.mm true n (U.sub .i64 0 n)) c) (lk kB (lk uF (lk ofF a b c) (lk ofB a b
      c) (lk ofC a b c)) (lk uB (lk ofF a b c) (lk ofB a b c) (lk ofC a b c)) (U.mm true n (U.sub .i64 0 n)) c) (U.mm true n (U.sub .i64 0 n))))], .lit (.int .i64 (lk nErr (lk kF (lk uF
      (lk ofF a b c) (lk ofB a b c) (lk ofC a b c)) (lk uB (lk ofF a b c) (lk ofB a b c) (lk ofC a b c)) (U.mm true n (U.sub .i64 0 n)) c) (lk kB (lk uF (lk ofF a b c) (lk ofB a b c) (lk
      ofC a b c)) (lk uB (lk ofF a b c) (lk ofB a b c) (lk ofC a b c)) (U.mm true n (U.sub .i64 0 n)) c) (U.mm true n (U.sub .i64 0 n))))])))))))))) := by kernel_rfl
set_option maxHeartbeats 1000000 in
theorem Interior_ok : ConOK P 36 c_Interior := con_of (allOK mixed k8_ok) 10 36 fun args r h => by
  unfold c_Interior at h
  split at h
  · rename_i a b c n
    have hp := (T.is_ask h).1
    have h := (T.is_ask h).2
    obtain rfl := T.is_ret h
    rw [t_Interior]
    simp only [T.All, U.le_t, U.le_f, U.lt_t, U.lt_f, U.gt_t, U.gt_f, U.ge_t, U.ge_f, U.eq_t, U.eq_f, U.ne_t, U.ne_f, U.not_t, U.not_f, U.andb_t, U.andb_f, SV.lit.injEq, SV.agg.injEq, SV.tup.injEq, List.cons.injEq, Value.int.injEq, Value.bool.injEq, true_and, and_true, lk_eq, lim_t, lim_f, mm_min, mm_max]
    refine ⟨⟨hp.1, hp.2.1, hp.2.2.1⟩, fun h => ?_, fun h => ⟨of_ask (chk_zero.1 h) hp.1 hp.2.1 hp.2.2.1, ?_⟩⟩
    · simp [inE, inLow, inHigh, inStr, h]
    have hr := chk_zero.1 h
    have hl := hr.1
    have hcb := ofC_bnd hr
    have e0 : U.sub .i64 0 (ofC a b c) = -ofC a b c := by rw [U.sub64 (by unfold I64; omega)]; omega
    rw [e0]
    refine ⟨fun g1 g2 => ?_, fun g => ?_, fun g => ⟨fun g2 => ?_, fun g2 => ?_⟩⟩
    · have hab : a ≤ b := Decidable.byContradiction fun h' => by have := empty_of (c := c) h'; omega
      obtain ⟨s1, s2, s3, s4, s5⟩ := series_of hr hab
      have sl := s5 (ofC a b c - 1) (by omega) (by omega)
      exact ⟨by unfold I64; omega, by unfold I64; omega, by unfold I64; omega, by unfold I64; omega⟩
    · have : n > ofC a b c ∨ n < -ofC a b c := by omega
      simp [inE, inLow, inHigh, inStr, h, this]
    · have : n > ofC a b c ∨ n < -ofC a b c := by omega
      simp [inE, inLow, inHigh, inStr, h, this]
    · have hin : ¬ (n > ofC a b c ∨ n < -ofC a b c) := by omega
      have en : U.sub .i64 0 n = -n := by rw [U.sub64 (by unfold I64; omega)]; omega
      rw [en]
      by_cases hn0 : n = 0
      · subst hn0
        have em : max (0 : Int) (-0) = 0 := by omega
        rw [em]
        refine ⟨fun _ => ⟨fun _ g => absurd rfl g, fun g => by omega, ?_⟩, fun g => by omega⟩
        have hk : chk a b c = 0 := chk_zero.2 hr
        simp [inE, inLow, inHigh, inStr, hk, hin, nLow, nHigh, nStr, nErr]
        omega
      have hab : a ≤ b := Decidable.byContradiction fun h' => by have := empty_of (c := c) h'; omega
      obtain ⟨p1, p2, p3, p4, p5, p6, p7, p8, p9, p10⟩ := parts hr hab
      obtain ⟨u1, u2⟩ := up_of hr hab
      rw [u1, u2]
      have m2 := mulle (x := 0) (y := absI n - 1) p1 (by unfold absI; split <;> omega)
      have m3 := mulle (x := absI n - 1) (y := ofC a b c - 1) p1 (by unfold absI; split <;> omega)
      rw [Int.mul_zero] at m2
      have fin : ∀ f : Int, (a ≤ f ∧ f + absI c * (absI n - 1) ≤ b) → inF a b c n = f → max n (-n) = absI n →
          (c < 0 → max n (-n) ≠ 0 → I64 (max n (-n) - 1) ∧ I64 (absI c * (max n (-n) - 1)) ∧ I64 (f + absI c * (max n (-n) - 1)) ∧ I64 (-absI c)) ∧
          (0 < max n (-n) → I64 (max n (-n) - 1) ∧ I64 (kB f (absI c) (max n (-n)) c * (max n (-n) - 1)) ∧ I64 (kF f (absI c) (max n (-n)) c + kB f (absI c) (max n (-n)) c * (max n (-n) - 1))) ∧
          (nLow (kF f (absI c) (max n (-n)) c) (kB f (absI c) (max n (-n)) c) (max n (-n)) = inLow a b c n ∧ nHigh (kF f (absI c) (max n (-n)) c) (kB f (absI c) (max n (-n)) c) (max n (-n)) = inHigh a b c n ∧
            nStr (kF f (absI c) (max n (-n)) c) (kB f (absI c) (max n (-n)) c) (max n (-n)) = inStr a b c n) ∧ nErr (kF f (absI c) (max n (-n)) c) (kB f (absI c) (max n (-n)) c) (max n (-n)) = inE a b c n := fun f hf eF em => by
        rw [em]
        obtain ⟨q1, q2, q3, q4⟩ := nrm_like (f := f) (s := absI c) (C := absI n) (c := c) p1
        have hb : absI n ≤ 2000001 ∧ 0 < absI n := by unfold absI; split <;> omega
        obtain ⟨l1, l2⟩ := like_bnd (f := f) (s := absI c) (C := absI n) (c := c) (by omega)
        rw [q1, q2, q3, q4]
        simp only [inE, inLow, inHigh, inStr, h, ne_eq, not_true_eq_false, if_false, if_neg hin, if_neg hn0, eF, and_self, and_true]
        exact ⟨fun _ _ => ⟨by unfold I64; omega, by unfold I64; omega, by unfold I64; omega, by unfold I64; omega⟩, fun _ => ⟨by unfold I64; omega, by unfold I64; omega, by unfold I64; omega⟩⟩
      refine ⟨fun g => ?_, fun g => ?_⟩
      · have ea : absI n = n := absI_pos (by omega)
        have m4 : absI c * (ofC a b c - 1) = absI c * (ofC a b c - n) + absI c * (absI n - 1) := by rw [ea, ← Int.mul_add]; congr 1; omega
        have m5 := mulle (x := 0) (y := ofC a b c - n) p1 (by omega)
        rw [Int.mul_zero] at m5
        rw [U.sub64 (a := ofC a b c) (b := n) (by unfold I64; omega), U.mul64 (by unfold I64; omega), U.add64 (by unfold I64; omega)]
        exact fin _ (by omega) (by unfold inF; rw [if_pos g]) (by omega)
      · have ea : absI n = -n := absI_neg (by omega)
        exact fin _ (by omega) (by unfold inF; rw [if_neg (by omega)]) (by omega)
  · exact h.elim
set_option maxRecDepth 100000 in
theorem t_rInterior (a b c n : Int) : conB Go.Proofs.Try.prog (conOf k8) noLoops 10 206 [.agg [.lit (.int .i64 a), .lit (.int .i64 b), .lit (.int .i64 c)], .lit (.int .i64 n)] =
    T.ask (I64 a ∧ I64 b ∧ I64 c) (.br (U.ne (lk chk a b c) (0 : Int)) (.ret (.tup [.agg [.lit (.int .i64 0), .lit (.int .i64 0), .lit (.int .i64 0)], .lit (.int .i64 (lk chk a b c))]))
      (.ask (I64 a ∧ I64 b ∧ I64 c) (.br (U.gt n (lk size a b c)) (.ret (.tup [.agg [.lit (.int .i64 0), .lit (.int .i64 0), .lit (.int .i64 0)], .lit (.int .i64 5)])) (.br (U.lt n (U.sub
      .i64 0 (lk size a b c))) (.ret (.tup [.agg [.lit (.int .i64 0), .lit (.int .i64 0), .lit (.int .i64 0)], .lit (.int .i64 5)])) (.br (U.gt n (0 : Int)) (.ask (I64 (-c)) (.ask (I64
      (-c)) (.ask (U.sub .i64 b (U.mul .i64 (U.sub .i64 n (1 : Int)) (lk absI c)) < b → U.lt c (0 : Int) = true → I64 (-lk absI c)) (.ret (.tup [.agg [.lit (.int .i64 (lk rnL (U.sub .i64
      b (U.mul .i64 (U.sub .i64 n (1 : Int)) (lk absI c))) b (lk absI c) (U.lt c (0 : Int)))), .lit (.int .i64 (lk rnH (U.sub .i64 b (U.mul .i64 (U.sub .i64 n (1 : Int)) (lk absI c))) b
      (lk absI c) (U.lt c (0 : Int)))), .lit (.int .i64 (lk rnS (U.sub .i64 b (U.mul .i64 (U.sub .i64 n (1 : Int)) (lk absI c))) b (lk absI c) (U.lt c (0 : Int))))], .lit (.int .i64
      0)]))))) (.br (U.lt n (0 : Int)) (.ask (I64 (-c)) (.ask (I64 (-c)) (.ask (a < U.add .i64 a (U.mul .i64 (U.sub .i64 (U.sub .i64 0 n) (1 : Int)) (lk absI c)) → U.lt c (0 : Int) = true
      → I64 (-lk absI c)) (.ret (.tup [.agg [.lit (.int .i64 (lk rnL a (U.add .i64 a (U.mul .i64 (U.sub .i64 (U.sub .i64 0 n) (1 : Int)) (lk absI c))) (lk absI c) (U.lt c (0 : Int)))),
      .lit (.int .i64 (lk rnH a (U.add .i64 a (U.mul .i64 (U.sub .i64 (U.sub .i64 0 n) (1 : Int)) (lk absI c))) (lk absI c) (U.lt c (0 : Int)))), .lit (.int .i64 (lk rnS a (U.add .i64 a
      (U.mul .i64 (U.sub .i64 (U.sub .i64 0 n) (1 : Int)) (lk absI c))) (lk absI c) (U.lt c (0 : Int))))], .lit (.int .i64 0)]))))) (.ret (.tup [.agg [.lit (.int .i64 1), .lit (.int .i64
      0), .lit (.int .i64 1)], .lit (.int .i64 0)])))))))) := by kernel_rfl
set_option maxHeartbeats 1000000 in
theorem rInterior_ok : ConOK P 206 c_Interior := con_of (allOK mixed k8_ok) 10 206 fun args r h => by
  unfold c_Interior at h
  split at h
  · rename_i a b c n
    have hp := (T.is_ask h).1
    have h := (T.is_ask h).2
    obtain rfl := T.is_ret h
    rw [t_rInterior]
    simp only [T.All, U.le_t, U.le_f, U.lt_t, U.lt_f, U.gt_t, U.gt_f, U.ge_t, U.ge_f, U.eq_t, U.eq_f, U.ne_t, U.ne_f, U.not_t, U.not_f, U.andb_t, U.andb_f, SV.lit.injEq, SV.agg.injEq, SV.tup.injEq, List.cons.injEq, Value.int.injEq, Value.bool.injEq, true_and, and_true, lk_eq, lim_t, lim_f]
    have hp3 : I64 a ∧ I64 b ∧ I64 c := ⟨hp.1, hp.2.1, hp.2.2.1⟩
    refine ⟨hp3, fun h => ?_, fun h => ⟨hp3, ?_⟩⟩
    · simp [inE, inLow, inHigh, inStr, h]
    have hr := chk_zero.1 h
    have hl := hr.1
    have hcb := ofC_bnd hr
    have e0 : U.sub .i64 0 (ofC a b c) = -ofC a b c := by rw [U.sub64 (by unfold I64; omega)]; omega
    rw [size_eq' hr, e0]
    refine ⟨fun g => ?_, fun g => ⟨fun g2 => ?_, fun g2 => ?_⟩⟩
    · have : n > ofC a b c ∨ n < -ofC a b c := by omega
      simp [inE, inLow, inHigh, inStr, h, this]
    · have : n > ofC a b c ∨ n < -ofC a b c := by omega
      simp [inE, inLow, inHigh, inStr, h, this]
    have hin : ¬ (n > ofC a b c ∨ n < -ofC a b c) := by omega
    by_cases hn0 : n = 0
    · have hk := h
      subst hn0
      refine ⟨fun g => by omega, fun g => ⟨fun g => by omega, fun g => ?_⟩⟩
      simp [inE, inLow, inHigh, inStr, hk, hin]
      omega
    have hab : a ≤ b := Decidable.byContradiction fun h' => by have := empty_of (c := c) h'; omega
    obtain ⟨p1, p2, p3, p4, p5, p6, p7, p8, p9, p10⟩ := parts hr hab
    have hc5 : I64 (-c) := by unfold I64; omega
    have m2 := mulle (x := 0) (y := absI n - 1) p1 (by unfold absI; split <;> omega)
    have m3 := mulle (x := absI n - 1) (y := ofC a b c - 1) p1 (by unfold absI; split <;> omega)
    rw [Int.mul_zero] at m2
    have n1 : 1 ≤ absI n := by unfold absI; split <;> omega
    have main : ∀ f hi : Int, inF a b c n = f → hi = f + absI c * (absI n - 1) → a ≤ f → hi ≤ b →
        (rnL f hi (absI c) (U.lt c 0) = inLow a b c n ∧ rnH f hi (absI c) (U.lt c 0) = inHigh a b c n ∧ rnS f hi (absI c) (U.lt c 0) = inStr a b c n) ∧ 0 = inE a b c n := fun f hi eF eh b1 b2 => by
      have e : mvE f (absI c) (absI n) = 0 := by unfold mvE; rw [if_neg (by omega), if_pos (by omega)]
      simp only [inE, inLow, inHigh, inStr, h, ne_eq, not_true_eq_false, if_false, if_neg hin, if_neg hn0, eF]
      rw [eh]
      exact ⟨rn_mv p1 n1 e _ (U.lt_eq c 0), e.symm⟩
    refine ⟨fun g => ⟨hc5, hc5, ?_⟩, fun g => ⟨fun g3 => ⟨hc5, hc5, ?_⟩, fun g3 => by omega⟩⟩
    · have ea : absI n = n := absI_pos (by omega)
      have m4 : absI c * (ofC a b c - 1) = absI c * (ofC a b c - n) + absI c * (absI n - 1) := by rw [ea, ← Int.mul_add]; congr 1; omega
      rw [ea] at m2 m3 m4 n1 main
      have ec : (n - 1) * absI c = absI c * (n - 1) := Int.mul_comm _ _
      rw [U.sub64 (a := n) (b := 1) (by unfold I64; omega), U.mul64 (by rw [ec]; unfold I64; omega), ec, U.sub64 (by unfold I64; omega)]
      exact ⟨fun _ _ => by unfold I64; omega, main _ _ (by unfold inF; rw [if_pos (by omega)]; omega) (by omega) (by omega) (by omega)⟩
    · have ea : absI n = -n := absI_neg (by omega)
      rw [ea] at m2 m3 n1 main
      have en : U.sub .i64 0 n = -n := by rw [U.sub64 (by unfold I64; omega)]; omega
      have ec : (-n - 1) * absI c = absI c * (-n - 1) := Int.mul_comm _ _
      rw [en, U.sub64 (a := -n) (b := 1) (by unfold I64; omega), U.mul64 (by rw [ec]; unfold I64; omega), ec, U.add64 (by unfold I64; omega)]
      exact ⟨fun _ _ => by unfold I64; omega, main _ _ (by unfold inF; rw [if_neg (by omega)]) (by omega) (by omega) (by omega)⟩
  · exact h.elim
end Go.RX.Span

/- Ranges: what the law of changes returns. -/
set_option linter.unusedVariables false
set_option linter.unusedSimpArgs false
set_option maxRecDepth 100000
namespace Go.RX.Span
open Go Go.RX

noncomputable abbrev k9 : List (Nat × Con) := (109, c_By) :: (31, c_Translate) :: (204, c_Translate) :: (34, c_Expand) :: (205, c_Expand) :: (36, c_Interior) :: (206, c_Interior) :: (37, c_Exterior) :: (207, c_Exterior) :: k8 --%K
theorem k9_ok : ∀ p ∈ k9, ConOK P p.1 p.2 := by
  intro p hp
  simp only [k9, List.mem_cons] at hp
  rcases hp with rfl | rfl | rfl | rfl | rfl | rfl | rfl | rfl | rfl | hp
  · exact By_ok
  · exact Translate_ok
  · exact rTranslate_ok
  · exact Expand_ok
  · exact rExpand_ok
  · exact Interior_ok
  · exact rInterior_ok
  · exact Exterior_ok
  · exact rExterior_ok
  · exact k8_ok p (by simpa [k8] using hp)

end Go.RX.Span

/- Ranges: the contract of the numbers of a range, and of small ranges. -/
set_option linter.unusedVariables false
set_option linter.unusedSimpArgs false
set_option maxRecDepth 100000
namespace Go.RX.Span
open Go Go.RX Go.RowKit

def numsN (a b c m : Int) : Nat := min (size a b c).toNat (m + 1).toNat
/-- A slice of numbers that a function of its own made. -/
theorem rep_owned {n₀ : Nat} {w : World} {lv : Nat → Prop} (hlv : ∀ x, lv x → x < n₀) {v : Value} {k : Nat} {g : Nat → Int} {q : Nat} (hq : n₀ ≤ q) (hk : k ≤ top) (h : w.ownsRow q 3 1 v k ((List.range k).map fun i => .int .i64 (g i))) (bs : Bs) :
    Rep bs lv w (.row [.int .i64] k fun i => (g i, ())) v := by
  rcases h.2 with ⟨rfl, rfl⟩ | ⟨b, cap, cur, rfl, hb, hc, h1, h2, h3, h4⟩
  · exact ⟨none, 0, rfl, Nat.le_refl _, Nat.zero_le _, fun h => absurd h (Nat.lt_irrefl 0)⟩
  · refine ⟨some ⟨b, 0, none⟩, cap, rfl, h1, hk, fun _ => ⟨b, 0, rfl, (Array.getElem?_eq_some_iff.1 hc).1, fun hx => by have := hlv b hx; omega, fun i hi => ⟨⟨_, ?_, rfl⟩, trivial⟩⟩⟩
    have : cur.toList[i]? = some (.int .i64 (g i)) := by
      have e : (cur.toList.take (k * 1))[i]? = some (.int .i64 (g i)) := by rw [h4]; simp [hi]
      rwa [List.getElem?_take_of_lt (by omega)] at e
    simpa [World.cell?, show w.heap[b]? = _ from hc] using this

noncomputable def c_numbers : Con := fun args => match args with
  | [.agg [.lit (.int .i64 a), .lit (.int .i64 b), .lit (.int .i64 c)], .lit (.int .i64 m)] =>
    .ask (I64 a ∧ I64 b ∧ I64 c ∧ 0 ≤ m ∧ m ≤ 1000000) (.ret (.row [.int .i64] (lk numsN a b c m) (fun k => (lk num a b c k, ()))))
  | _ => .stuck 1
theorem numbers_ok : ConOK P 26 c_numbers := by
  intro args r h lv w vals hlv hr
  unfold c_numbers at h
  split at h
  · rename_i a b c m
    obtain ⟨ha, hb, hc, h0, h1⟩ := (T.is_ask h).1
    obtain rfl := T.is_ret (T.is_ask h).2
    obtain ⟨u, us, rfl, ⟨xs, rfl, u1, l1, rfl, e1, u2, l2, rfl, e2, u3, l3, rfl, e3, e4⟩, u4, l4, rfl, e5, e6⟩ := hr
    subst e4; subst e6
    rw [show u1 = .int .i64 a from e1, show u2 = .int .i64 b from e2, show u3 = .int .i64 c from e3, show u4 = .int .i64 m from e5]
    refine (callsIn_wide.1 (numbers_in 3 (by omega) a b c m ha hb hc h0 h1 w)).mono ?_
    rintro e w' ⟨v, k, q, rfl, hk, hq, hown, hbel⟩
    refine ⟨v, rfl, hbel, ?_⟩
    simp only [lk_eq]
    have e : numsN a b c m = k := by rw [hk]; rfl
    rw [e]
    refine rep_owned hlv hq ?_ (by simpa [nums, Function.comp_def] using hown) _
    have := size_le a b c
    simp only [top]; omega
  · exact h.elim

def smallB (a b c : Int) : Bool := decide (chk a b c = 0 ∧ size a b c ≤ 400)
noncomputable def c_small : Con := fun args => match args with
  | [.agg [.lit (.int .i64 a), .lit (.int .i64 b), .lit (.int .i64 c)]] => .ask (I64 a ∧ I64 b ∧ I64 c) (.ret (.lit (.bool (lk smallB a b c))))
  | _ => .stuck 1
set_option maxRecDepth 100000 in
theorem t_small (a b c : Int) : conB Go.Proofs.Try.prog (conOf k7) noLoops 10 20 [.agg [.lit (.int .i64 a), .lit (.int .i64 b), .lit (.int .i64 c)]] =
    T.ask (I64 a ∧ I64 b ∧ I64 c) (.br (U.eq (lk chk a b c) (0 : Int)) (.ask (I64 a ∧ I64 b ∧ I64 c) (.ret (.lit (.bool (U.le (lk size a b c) (400 : Int)))))) (.ret (.lit (.bool
      false)))) := by kernel_rfl
theorem small_ok : ConOK P 20 c_small := con_of (allOK mixed k7_ok) 10 20 fun args r h => by
  unfold c_small at h
  split at h
  · rename_i a b c
    have hp := (T.is_ask h).1
    have h := (T.is_ask h).2
    obtain rfl := T.is_ret h
    rw [t_small]
    by_cases h1 : chk a b c = 0 <;> by_cases h2 : size a b c ≤ 400 <;> simp [T.All, U.eq_eq, U.le_eq, U.ne_eq, lk_eq, hp, smallB, h1, h2]
  · exact h.elim
noncomputable abbrev k10 : List (Nat × Con) := (26, c_numbers) :: (20, c_small) :: k7
theorem k10_ok : ∀ p ∈ k10, ConOK P p.1 p.2 := by
  intro p hp
  simp only [k10, List.mem_cons] at hp
  rcases hp with rfl | rfl | hp
  · exact numbers_ok
  · exact small_ok
  · exact k7_ok p (by simpa [k7] using hp)
end Go.RX.Span

/- Ranges: the order of their numbers, in plain Lean. -/
set_option linter.unusedVariables false
set_option linter.unusedSimpArgs false
namespace Go.RX.Span
open Go Go.RX

section
variable {a b c : Int}
/-- The k-th number of a right range, by the sign of its stride. -/
theorem num_eq {k : Nat} (hr : Right a b c) (hab : a ≤ b) : num a b c k = (if c < 0 then b else a) + c * k := by
  obtain ⟨_, _, _, _, _, p6, p7, _⟩ := parts hr hab
  unfold num; rw [p6, p7]
theorem right_dvd' (hr : Right a b c) (hab : a ≤ b) : c ∣ b - a := by
  rcases hr.2 with h | h | h
  · omega
  · rw [show b - a = 0 by omega]; exact Int.dvd_zero _
  · exact Int.dvd_of_emod_eq_zero h.2.2
theorem num_between {k : Nat} (hr : Right a b c) (hab : a ≤ b) (hk : (k : Int) < ofC a b c) : a ≤ num a b c k ∧ num a b c k ≤ b := by
  obtain ⟨p1, p2, p3, p4, p5, p6, p7, p8, p9, p10⟩ := parts hr hab
  have m1 := mulle (s := absI c) (x := 0) (y := (k : Int)) p1 (by omega)
  have m2 := mulle (s := absI c) (x := (k : Int)) (y := ofC a b c - 1) p1 (by omega)
  rw [Int.mul_zero] at m1
  rw [num_eq hr hab]
  by_cases hc : c < 0
  · rw [if_pos hc]
    have e : c * k = -(absI c * k) := by rw [absI_neg hc, Int.neg_mul, Int.neg_neg]
    rw [e]
    generalize absI c * (k : Int) = z at *
    omega
  · rw [if_neg hc]
    have e : c * k = absI c * k := by rw [absI_pos hc]
    rw [e]
    generalize absI c * (k : Int) = z at *
    omega
theorem num_mod {k : Nat} (hr : Right a b c) (hab : a ≤ b) : (num a b c k - a) % c = 0 := by
  rw [num_eq hr hab]
  have hd := right_dvd' hr hab
  apply Int.emod_eq_zero_of_dvd
  by_cases hc : c < 0
  · rw [if_pos hc, show b + c * k - a = (b - a) + c * k by omega]
    exact Int.dvd_add hd (Int.dvd_mul_right c k)
  · rw [if_neg hc, show a + c * k - a = c * k by omega]
    exact Int.dvd_mul_right c k
theorem num_has {k : Nat} (hr : Right a b c) (hab : a ≤ b) (hk : (k : Int) < ofC a b c) : has a b c (num a b c k) = true := by
  have h1 := num_between hr hab hk
  unfold has
  exact decide_eq_true ⟨chk_zero.2 hr, h1.1, h1.2, num_mod hr hab⟩
theorem num_pos {k : Nat} (hr : Right a b c) (hab : a ≤ b) (hk : (k : Int) < ofC a b c) : pos a b c (num a b c k) = k := by
  have hc := right_c hr
  unfold pos
  rw [num_has hr hab hk, num_eq hr hab]
  simp only [if_true]
  by_cases h : c < 0
  · rw [if_pos h, if_pos h, show b - (b + c * (k : Int)) = (-c) * k by rw [Int.neg_mul]; omega]
    exact Int.mul_ediv_cancel_left _ (by omega)
  · rw [if_neg h, if_neg h, show a + c * (k : Int) - a = c * k by omega]
    exact Int.mul_ediv_cancel_left _ (by omega)
theorem num_nth {k : Nat} (hr : Right a b c) (hk : (k : Int) < ofC a b c) : nthE a b c k = 0 ∧ nth a b c k = num a b c k := by
  have e : nthE a b c k = 0 := by
    unfold nthE; rw [if_neg (by rw [chk_zero.2 hr]; simp), if_neg (by omega)]
  exact ⟨e, by unfold nth num; rw [e]; simp⟩
theorem num_step {k : Nat} (hr : Right a b c) (hab : a ≤ b) : num a b c (k + 1) - num a b c k = c := by
  rw [num_eq hr hab, num_eq hr hab]
  have : c * ((k + 1 : Nat) : Int) = c * k + c := by rw [Int.natCast_add]; simp [Int.mul_add]
  rw [this]; omega
theorem of_self (hr : Right a b c) (h1 : -1000000 ≤ c) (h2 : c ≤ 1000000) : ofErr a b c = 0 ∧ ofLow a b c = a ∧ ofHigh a b c = b ∧ ofStr a b c = c := by
  have hl := hr.1
  have hc0 : c ≠ 0 := by rcases hr.2 with h | h | h <;> omega
  have e : ofErr a b c = 0 := by
    unfold ofErr; rw [if_neg hc0, if_pos (by omega)]
  have eL : ofLow a b c = a := by
    unfold ofLow; rw [e]
    simp only [ne_eq, not_true_eq_false, if_false]
    by_cases hab : a > b
    · rw [if_pos hab]; rcases hr.2 with h | h | h <;> omega
    · rw [if_neg hab]
      by_cases hc : c < 0
      · rw [if_pos hc]
        have := Int.ediv_mul_cancel ((Int.neg_dvd).2 (right_dvd' hr (by omega)))
        rw [this]; omega
      · rw [if_neg hc]
  have eH : ofHigh a b c = b := by
    unfold ofHigh; rw [e]
    simp only [ne_eq, not_true_eq_false, if_false]
    by_cases hab : a > b
    · rw [if_pos hab]; rcases hr.2 with h | h | h <;> omega
    · rw [if_neg hab]
      by_cases hc : c < 0
      · rw [if_pos hc]
      · rw [if_neg hc]
        have := Int.ediv_mul_cancel (right_dvd' hr (by omega))
        rw [this]; omega
  refine ⟨e, eL, eH, ?_⟩
  unfold ofStr; rw [e, eL, eH]
  simp only [ne_eq, not_true_eq_false, if_false]
  rcases hr.2 with h | h | h
  · rw [if_pos (by omega)]; omega
  · rw [if_neg (by omega), if_pos h.1]; omega
  · rw [if_neg (by omega), if_neg (by omega)]
end
noncomputable abbrev E10 : Env := ⟨P, conOf k10, scall P (conOf k10) noLoops 10⟩
theorem E10_ok : EnvOK E10 := envOK (allOK mixed k10_ok) 10

structure XO where
  (a b c : Int) (n n1 : Nat) (f f1 : Nat → Els [.int .i64]) (len : Int) (k : Nat)
def PreO (n0 : Nat) (a b c : Int) (n n1 : Nat) (f f1 : Nat → Els [.int .i64]) (len : Int) : Prop :=
  n0 ≤ 1 ∧ I64 a ∧ I64 b ∧ I64 c ∧ Right a b c ∧ (n : Int) = ofC a b c ∧ (n1 : Int) = ofC a b c ∧ len = ofC a b c ∧ (∀ k, k < n → (f k).1 = num a b c k) ∧ (∀ k, k < n → (f1 k).1 = num a b c k)
noncomputable def gO : Nat → Few → T (Ex × Few)
  | n0, ([.ptr 0 0, .row [.int .i64] n f, .row [.int .i64] n1 f1, .lit (.int .i64 len), .ki .i64 (.ofNat 0)], [(0, some (.cells [.lit (.int .i64 a), .lit (.int .i64 b), .lit (.int .i64 c)] 23))]) =>
    .ask (PreO n0 a b c n n1 f f1 len) (.ret (.exit 0, ([.ptr 0 0, .row [.int .i64] n f, .any, .any, .any], [(0, some (.cells [.lit (.int .i64 a), .lit (.int .i64 b), .lit (.int .i64 c)] 23))])))
  | _, _ => .stuck 1
noncomputable def VO (x : XO) : Few := ([.ptr 0 0, .row [.int .i64] x.n x.f, .row [.int .i64] x.n1 x.f1, .lit (.int .i64 x.len), .lit (.int .i64 x.k)], [(0, some (.cells [.lit (.int .i64 x.a), .lit (.int .i64 x.b), .lit (.int .i64 x.c)] 23))])
noncomputable def OO (x : XO) : Ex × Few := (.exit 0, ([.ptr 0 0, .row [.int .i64] x.n x.f, .any, .any, .any], [(0, some (.cells [.lit (.int .i64 x.a), .lit (.int .i64 x.b), .lit (.int .i64 x.c)] 23))]))
def PhiO (n0 : Nat) (x : XO) : Prop := PreO n0 x.a x.b x.c x.n x.n1 x.f x.f1 x.len ∧ x.k ≤ x.n
end Go.RX.Span

/- Ranges: what By of By, and Count twice, come to, in plain Lean. -/
set_option linter.unusedVariables false
set_option linter.unusedSimpArgs false
namespace Go.RX.Span
open Go Go.RX

/-- A range upwards, out of its first number, its step and how many steps it has. -/
theorem rgU {F s q : Int} (hs : 1 ≤ s) (hq : 0 ≤ q) (h1 : -1000000 ≤ F) (h2 : F + s * q ≤ 1000000) :
    Right F (F + s * q) (if q = 0 then 1 else s) ∧ F ≤ F + s * q ∧ ofC F (F + s * q) (if q = 0 then 1 else s) = q + 1 ∧ ∀ j : Nat, (j : Int) ≤ q → num F (F + s * q) (if q = 0 then 1 else s) j = F + s * j := by
  have h0 := mulle (s := s) (x := 0) (y := q) hs hq
  rw [Int.mul_zero] at h0
  by_cases hz : q = 0
  · subst hz
    simp only [if_true, Int.mul_zero, Int.add_zero]
    have hr : Right F F 1 := ⟨by rw [Int.mul_zero] at h2; omega, .inr (.inl ⟨rfl, rfl⟩)⟩
    refine ⟨hr, Int.le_refl _, ?_, fun j hj => ?_⟩
    · simp [ofC]
    · obtain rfl : j = 0 := by omega
      rw [num_eq hr (Int.le_refl _)]; simp
  · rw [if_neg hz]
    have hsq := mulle (s := s) (x := 1) (y := q) hs (by omega)
    rw [Int.mul_one] at hsq
    have hr : Right F (F + s * q) s := ⟨by omega, .inr (.inr ⟨by omega, by omega, by rw [show F + s * q - F = s * q by omega]; exact Int.mul_emod_right s q⟩)⟩
    refine ⟨hr, by omega, ?_, fun j hj => ?_⟩
    · unfold ofC
      rw [if_neg (by omega), if_neg (by omega), show F + s * q - F = s * q by omega, Int.mul_ediv_cancel_left _ (by omega)]
    · rw [num_eq hr (by omega), if_neg (by omega)]
/-- And downwards. -/
theorem rgD {F s q : Int} (hs : 1 ≤ s) (hq : 0 ≤ q) (h1 : F ≤ 1000000) (h2 : -1000000 ≤ F - s * q) :
    Right (F - s * q) F (if q = 0 then 1 else -s) ∧ F - s * q ≤ F ∧ ofC (F - s * q) F (if q = 0 then 1 else -s) = q + 1 ∧ ∀ j : Nat, (j : Int) ≤ q → num (F - s * q) F (if q = 0 then 1 else -s) j = F - s * j := by
  have h0 := mulle (s := s) (x := 0) (y := q) hs hq
  rw [Int.mul_zero] at h0
  by_cases hz : q = 0
  · subst hz
    simp only [if_true, Int.mul_zero, Int.sub_zero]
    have hr : Right F F 1 := ⟨by rw [Int.mul_zero] at h2; omega, .inr (.inl ⟨rfl, rfl⟩)⟩
    refine ⟨hr, Int.le_refl _, ?_, fun j hj => ?_⟩
    · simp [ofC]
    · obtain rfl : j = 0 := by omega
      rw [num_eq hr (Int.le_refl _)]; simp
  · rw [if_neg hz]
    have hsq := mulle (s := s) (x := 1) (y := q) hs (by omega)
    rw [Int.mul_one] at hsq
    have hr : Right (F - s * q) F (-s) := ⟨by omega, .inr (.inr ⟨by omega, by omega, by
      rw [show F - (F - s * q) = (-s) * (-q) by rw [Int.neg_mul_neg]; omega]; exact Int.mul_emod_right (-s) (-q)⟩)⟩
    refine ⟨hr, by omega, ?_, fun j hj => ?_⟩
    · unfold ofC
      rw [if_neg (by omega), if_pos (by omega), show F - (F - s * q) = s * q by omega, Int.neg_neg, Int.mul_ediv_cancel_left _ (by omega)]
    · rw [num_eq hr (by omega), if_pos (by omega), Int.neg_mul]; omega

theorem by_empty {a b c n : Int} (hr : Right a b c) (hab : ¬ a ≤ b) (hn : n ≠ 0) (hl : -1000000 ≤ n ∧ n ≤ 1000000) : byErr a b c n = 0 ∧ byLow a b c n = 1 ∧ byHigh a b c n = 0 ∧ byStr a b c n = 1 := by
  obtain ⟨e1, e2, e3⟩ := empty_of (c := c) hab
  have e0 : byErr0 a b c n = 0 := by unfold byErr0; rw [if_neg (by rw [chk_zero.2 hr]; simp), if_neg hn, if_pos hl]
  have eC : byC a b c n ≤ 0 := by
    unfold byC; rw [e3]
    by_cases h : n < 0
    · rw [if_pos h]
      have : (0 + -n - 1) / -n = 0 := Int.ediv_eq_zero_of_lt (by omega) (by omega)
      omega
    · rw [if_neg h]
      have : (0 + n - 1) / n = 0 := Int.ediv_eq_zero_of_lt (by omega) (by omega)
      omega
  simp only [byErr, byLow, byHigh, byStr, e0, ne_eq, not_true_eq_false, if_false, nErr, nLow, nHigh, nStr, if_pos eC, and_self]
theorem empty_is {a b c : Int} (hr : Right a b c) (hab : ¬ a ≤ b) : a = 1 ∧ b = 0 ∧ c = 1 := by rcases hr.2 with h | h | h <;> omega
/-- By of a right range is a right range. -/
theorem by_right {a b c n : Int} (hr : Right a b c) (hn : n ≠ 0) (hl : -1000000 ≤ n ∧ n ≤ 1000000) : byErr a b c n = 0 ∧ Right (byLow a b c n) (byHigh a b c n) (byStr a b c n) := by
  by_cases hab : a ≤ b
  · obtain ⟨p1, p2, p3, p4, p5, p6, p7, p8, p9, p10⟩ := parts hr hab
    obtain ⟨q1, q2, q3⟩ := by_closed hr hab hn hl
    have hlim := hr.1
    have hm : 1 ≤ absI n := by unfold absI; split <;> omega
    have hd := div_up (C := ofC a b c) (m := absI n) (by omega) (by omega)
    have m0 := mulle (x := 0) (y := absI n * ((ofC a b c - 1) / absI n)) p1 (by omega)
    have m1 := mulle (x := absI n * ((ofC a b c - 1) / absI n)) (y := ofC a b c - 1) p1 (by omega)
    rw [Int.mul_zero] at m0
    have hsm : 1 ≤ absI c * absI n := by have := mulle (x := 1) (y := absI n) p1 hm; rw [Int.mul_one] at this; omega
    refine ⟨q1, ?_⟩
    by_cases hs : (c < 0 ↔ n < 0)
    · obtain ⟨r1, r2, r3⟩ := q2 hs
      rw [r1, r2, r3, ← Int.mul_assoc]
      exact (rgU (F := a) (s := absI c * absI n) (q := (ofC a b c - 1) / absI n) hsm hd.2.1 (by omega) (by rw [Int.mul_assoc]; omega)).1
    · obtain ⟨r1, r2, r3⟩ := q3 hs
      rw [r1, r2, r3, ← Int.mul_assoc]
      exact (rgD (F := b) (s := absI c * absI n) (q := (ofC a b c - 1) / absI n) hsm hd.2.1 (by omega) (by rw [Int.mul_assoc]; omega)).1
  · obtain ⟨e1, e2, e3, e4⟩ := by_empty hr hab hn hl
    rw [e2, e3, e4]
    exact ⟨e1, ⟨by omega, .inl ⟨rfl, rfl, rfl⟩⟩⟩

/-- The opposite of the opposite. -/
theorem by_back {a b c : Int} (hr : Right a b c) : byLow (byLow a b c (-1)) (byHigh a b c (-1)) (byStr a b c (-1)) (-1) = a ∧ byHigh (byLow a b c (-1)) (byHigh a b c (-1)) (byStr a b c (-1)) (-1) = b ∧ byStr (byLow a b c (-1)) (byHigh a b c (-1)) (byStr a b c (-1)) (-1) = c := by
  have ab1 : absI (-1) = 1 := rfl
  by_cases hab : a ≤ b
  · obtain ⟨p1, p2, p3, p4, p5, p6, p7, p8, p9, p10⟩ := parts hr hab
    obtain ⟨q1, q2, q3⟩ := by_closed hr hab (n := -1) (by omega) (by omega)
    have hlim := hr.1
    rw [ab1, Int.ediv_one, Int.one_mul, Int.mul_one, p5] at q2 q3
    by_cases hc : c < 0
    · obtain ⟨r1, r2, r3⟩ := q2 (by omega)
      have hz : ¬ ofC a b c - 1 = 0 := fun h => by rw [h, Int.mul_zero] at p5; have := p9 hc; omega
      rw [if_neg hz] at r3
      rw [r1, r2, r3, show a + (b - a) = b by omega]
      obtain ⟨g1, g2, g3, g4⟩ := rgU (F := a) (s := absI c) (q := ofC a b c - 1) p1 (by omega) (by omega) (by omega)
      rw [if_neg hz, p5, show a + (b - a) = b by omega] at g1 g3
      rw [p5, show a + (b - a) = b by omega] at g2
      obtain ⟨t1, t2, t3⟩ := by_closed g1 g2 (n := -1) (by omega) (by omega)
      have hac : absI (absI c) = absI c := absI_pos (by omega)
      obtain ⟨u1, u2, u3⟩ := t3 (by omega)
      rw [u1, u2, u3, hac, g3, ab1, show ofC a b c - 1 + 1 - 1 = ofC a b c - 1 by omega, Int.ediv_one, Int.one_mul, Int.mul_one, p5, if_neg hz]
      have := absI_neg hc
      omega
    · obtain ⟨r1, r2, r3⟩ := q3 (by omega)
      rw [r1, r2, r3]
      obtain ⟨g1, g2, g3, g4⟩ := rgD (F := b) (s := absI c) (q := ofC a b c - 1) p1 (by omega) (by omega) (by omega)
      rw [p5] at g1 g2 g3
      have hcp := absI_pos hc
      by_cases hz : ofC a b c - 1 = 0
      · rw [if_pos hz] at g1 g3 ⊢
        rw [hz, Int.mul_zero] at p5
        obtain ⟨t1, t2, t3⟩ := by_closed g1 g2 (n := -1) (by omega) (by omega)
        obtain ⟨u1, u2, u3⟩ := t3 (by omega)
        have hz' : ofC (b - (b - a)) b 1 - 1 = 0 := by rw [g3]; omega
        rw [u1, u2, u3, ab1, hz']
        have h1 := p10 (by omega)
        refine ⟨by simp; omega, rfl, by simp; omega⟩
      · rw [if_neg hz] at g1 g3 ⊢
        obtain ⟨t1, t2, t3⟩ := by_closed g1 g2 (n := -1) (by omega) (by omega)
        have hac : absI (-absI c) = absI c := by rw [absI_neg (by omega)]; omega
        obtain ⟨u1, u2, u3⟩ := t2 (by omega)
        rw [u1, u2, u3, hac, g3, ab1, show ofC a b c - 1 + 1 - 1 = ofC a b c - 1 by omega, Int.ediv_one, Int.one_mul, Int.mul_one, p5, if_neg hz]
        omega
  · obtain ⟨e1, e2, e3, e4⟩ := by_empty hr hab (n := -1) (by omega) (by omega)
    obtain ⟨h1, h2, h3⟩ := empty_is hr hab
    subst h1; subst h2; subst h3
    rw [e2, e3, e4]
    exact ⟨e2, e3, e4⟩

/-- By of By is By of the product. -/
theorem by_by {a b c m n : Int} (hr : Right a b c) (hm : 0 < m) (hn : 0 < n) (hl : m ≤ 1000) (hl' : n ≤ 1000) :
    byLow (byLow a b c m) (byHigh a b c m) (byStr a b c m) n = byLow a b c (m * n) ∧ byHigh (byLow a b c m) (byHigh a b c m) (byStr a b c m) n = byHigh a b c (m * n) ∧ byStr (byLow a b c m) (byHigh a b c m) (byStr a b c m) n = byStr a b c (m * n) := by
  have hmn1 : 1 ≤ m * n := by have := mulle (s := m) (x := 1) (y := n) (by omega) (by omega); rw [Int.mul_one] at this; omega
  have hmn2 : m * n ≤ 1000000 := by
    have h1 := mulle (s := m) (x := n) (y := 1000) (by omega) hl'
    omega
  by_cases hab : a ≤ b
  · obtain ⟨p1, p2, p3, p4, p5, p6, p7, p8, p9, p10⟩ := parts hr hab
    obtain ⟨q1, q2, q3⟩ := by_closed hr hab (n := m) (by omega) (by omega)
    obtain ⟨w1, w2, w3⟩ := by_closed hr hab (n := m * n) (by omega) (by omega)
    have hlim := hr.1
    have am : absI m = m := absI_pos (by omega)
    have an : absI n = n := absI_pos (by omega)
    have amn : absI (m * n) = m * n := absI_pos (by omega)
    rw [am] at q2 q3
    rw [amn] at w2 w3
    have hdd : (ofC a b c - 1) / (m * n) = (ofC a b c - 1) / m / n := (Int.ediv_ediv_of_nonneg (by omega)).symm
    rw [hdd] at w2 w3
    obtain ⟨Q, hQ⟩ : ∃ Q, Q = (ofC a b c - 1) / m := ⟨_, rfl⟩
    have hd := div_up (C := ofC a b c) (m := m) (by omega) (by omega)
    rw [← hQ] at q2 q3 w2 w3 hd
    have hQ0 : 0 ≤ Q := hd.2.1
    have m0 := mulle (x := 0) (y := m * Q) p1 (by omega)
    have m1 := mulle (x := m * Q) (y := ofC a b c - 1) p1 (by omega)
    rw [Int.mul_zero] at m0
    have hsm : 1 ≤ absI c * m := by have := mulle (x := 1) (y := m) p1 (by omega); rw [Int.mul_one] at this; omega
    by_cases hc : c < 0
    · obtain ⟨r1, r2, r3⟩ := q3 (by omega)
      obtain ⟨x1, x2, x3⟩ := w3 (by omega)
      rw [r1, r2, r3, x1, x2, x3]
      obtain ⟨g1, g2, g3, g4⟩ := rgD (F := b) (s := absI c * m) (q := Q) hsm hQ0 (by omega) (by rw [Int.mul_assoc]; omega)
      rw [Int.mul_assoc] at g1 g2 g3
      obtain ⟨t1, t2, t3⟩ := by_closed g1 g2 (n := n) (by omega) (by omega)
      rw [an, g3, show Q + 1 - 1 = Q by omega] at t2 t3
      by_cases hz : Q = 0
      · subst hz
        simp only [if_true] at t2 t3 ⊢
        obtain ⟨u1, u2, u3⟩ := t2 (by omega)
        rw [u1, u2, u3]
        simp
      · rw [if_neg hz] at t2 t3 ⊢
        obtain ⟨u1, u2, u3⟩ := t3 (by omega)
        have hac : absI (-(absI c * m)) = absI c * m := by rw [absI_neg (by omega)]; omega
        rw [u1, u2, u3, hac]
        refine ⟨by rw [Int.mul_assoc, Int.mul_assoc m n], rfl, by rw [Int.mul_assoc]⟩
    · obtain ⟨r1, r2, r3⟩ := q2 (by omega)
      obtain ⟨x1, x2, x3⟩ := w2 (by omega)
      rw [r1, r2, r3, x1, x2, x3]
      obtain ⟨g1, g2, g3, g4⟩ := rgU (F := a) (s := absI c * m) (q := Q) hsm hQ0 (by omega) (by rw [Int.mul_assoc]; omega)
      rw [Int.mul_assoc] at g1 g2 g3
      obtain ⟨t1, t2, t3⟩ := by_closed g1 g2 (n := n) (by omega) (by omega)
      rw [an, g3, show Q + 1 - 1 = Q by omega] at t2 t3
      by_cases hz : Q = 0
      · subst hz
        simp only [if_true] at t2 t3 ⊢
        obtain ⟨u1, u2, u3⟩ := t2 (by omega)
        rw [u1, u2, u3]
        simp
      · rw [if_neg hz] at t2 t3 ⊢
        obtain ⟨u1, u2, u3⟩ := t2 (by omega)
        have hac : absI (absI c * m) = absI c * m := absI_pos (by omega)
        rw [u1, u2, u3, hac]
        refine ⟨rfl, by rw [Int.mul_assoc, Int.mul_assoc m n], by rw [Int.mul_assoc]⟩
  · obtain ⟨e1, e2, e3, e4⟩ := by_empty hr hab (n := m) (by omega) (by omega)
    obtain ⟨f1, f2, f3, f4⟩ := by_empty hr hab (n := m * n) (by omega) (by omega)
    rw [e2, e3, e4, f2, f3, f4]
    have h1 : Right 1 0 1 := ⟨by omega, .inl ⟨rfl, rfl, rfl⟩⟩
    exact (by_empty h1 (by omega) (n := n) (by omega) (by omega)).2

theorem cnt_ok {a b c n : Int} (hr : Right a b c) (h1 : n ≤ ofC a b c) (h2 : -ofC a b c ≤ n) : cntE a b c n = 0 := by
  unfold cntE; rw [if_neg (by rw [chk_zero.2 hr]; simp), if_neg (by omega)]
theorem cnt_zero {a b c : Int} (hr : Right a b c) : cntLow a b c 0 = 1 ∧ cntHigh a b c 0 = 0 ∧ cntStr a b c 0 = 1 := by
  have hb := ofC_bnd hr
  have e := cnt_ok (n := 0) hr (by omega) (by omega)
  simp [cntLow, cntHigh, cntStr, e]
/-- A part of a range: from one number to another. -/
theorem cnt_part {a b c n F0 T0 : Int} (hr : Right a b c) (hab : a ≤ b) (h1 : n ≤ ofC a b c) (h2 : -ofC a b c ≤ n) (hn : n ≠ 0) (hF : cntFrom a b c n = F0) (hT : cntTo a b c n = T0) (h0 : 0 ≤ F0) (hFT : F0 ≤ T0) (hTC : T0 < ofC a b c) (hone : (n = 1 ∨ n = -1) ↔ T0 - F0 = 0) :
    Right (cntLow a b c n) (cntHigh a b c n) (cntStr a b c n) ∧ ofC (cntLow a b c n) (cntHigh a b c n) (cntStr a b c n) = T0 - F0 + 1 ∧ ∀ j : Nat, (j : Int) ≤ T0 - F0 → num (cntLow a b c n) (cntHigh a b c n) (cntStr a b c n) j = num a b c (F0.toNat + j) := by
  obtain ⟨p1, p2, p3, p4, p5, p6, p7, p8, p9, p10⟩ := parts hr hab
  have hlim := hr.1
  have e := cnt_ok hr h1 h2
  have m0 := mulle (x := 0) (y := F0) p1 h0
  have m1 := mulle (x := F0) (y := T0) p1 hFT
  have m2 := mulle (x := T0) (y := ofC a b c - 1) p1 (by omega)
  rw [Int.mul_zero] at m0
  have ms : absI c * (T0 - F0) = absI c * T0 - absI c * F0 := Int.mul_sub _ _ _
  have hj : ∀ j : Nat, ((F0.toNat + j : Nat) : Int) = F0 + j := fun j => by omega
  by_cases hc : c < 0
  · have hcs : c = -absI c := by rw [absI_neg hc]; omega
    have eL : cntLow a b c n = (b - absI c * F0) - absI c * (T0 - F0) := by
      unfold cntLow; rw [e, hT]; simp only [ne_eq, not_true_eq_false, if_false, if_neg hn, if_pos hc]; omega
    have eH : cntHigh a b c n = b - absI c * F0 := by
      unfold cntHigh; rw [e, hF]; simp only [ne_eq, not_true_eq_false, if_false, if_neg hn, if_pos hc]
    have eS : cntStr a b c n = if T0 - F0 = 0 then 1 else -absI c := by
      unfold cntStr; rw [e]; simp only [ne_eq, not_true_eq_false, if_false, if_neg hn]
      by_cases h : T0 - F0 = 0
      · rw [if_pos (hone.2 h), if_pos h]
      · rw [if_neg (fun g => h (hone.1 g)), if_neg h]; exact hcs
    rw [eL, eH, eS]
    obtain ⟨g1, g2, g3, g4⟩ := rgD (F := b - absI c * F0) (s := absI c) (q := T0 - F0) p1 (by omega) (by omega) (by omega)
    refine ⟨g1, g3, fun j hjq => ?_⟩
    rw [g4 j hjq, num_eq hr hab, if_pos hc, hj, Int.mul_add]
    have e1 : c * F0 = -(absI c * F0) := by rw [absI_neg hc, Int.neg_mul, Int.neg_neg]
    have e2 : c * (j : Int) = -(absI c * (j : Int)) := by rw [absI_neg hc, Int.neg_mul, Int.neg_neg]
    omega
  · have hcs : absI c = c := absI_pos hc
    have eL : cntLow a b c n = a + absI c * F0 := by
      unfold cntLow; rw [e, hF]; simp only [ne_eq, not_true_eq_false, if_false, if_neg hn, if_neg hc]
    have eH : cntHigh a b c n = (a + absI c * F0) + absI c * (T0 - F0) := by
      unfold cntHigh; rw [e, hT]; simp only [ne_eq, not_true_eq_false, if_false, if_neg hn, if_neg hc]; omega
    have eS : cntStr a b c n = if T0 - F0 = 0 then 1 else absI c := by
      unfold cntStr; rw [e]; simp only [ne_eq, not_true_eq_false, if_false, if_neg hn]
      by_cases h : T0 - F0 = 0
      · rw [if_pos (hone.2 h), if_pos h]
      · rw [if_neg (fun g => h (hone.1 g)), if_neg h]; exact hcs.symm
    rw [eL, eH, eS]
    obtain ⟨g1, g2, g3, g4⟩ := rgU (F := a + absI c * F0) (s := absI c) (q := T0 - F0) p1 (by omega) (by omega) (by omega)
    refine ⟨g1, g3, fun j hjq => ?_⟩
    rw [g4 j hjq, num_eq hr hab, if_neg hc, hj, Int.mul_add, hcs]
    omega

/-- The first numbers of a right range, and the others, are all. -/
theorem count_cat {a b c i : Int} (hr : Right a b c) (h0 : 0 ≤ i) (hi : i ≤ ofC a b c) :
    cntE a b c i = 0 ∧ cntE a b c (i - ofC a b c) = 0 ∧ Right (cntLow a b c i) (cntHigh a b c i) (cntStr a b c i) ∧ Right (cntLow a b c (i - ofC a b c)) (cntHigh a b c (i - ofC a b c)) (cntStr a b c (i - ofC a b c)) ∧
    ofC (cntLow a b c i) (cntHigh a b c i) (cntStr a b c i) = i ∧ ofC (cntLow a b c (i - ofC a b c)) (cntHigh a b c (i - ofC a b c)) (cntStr a b c (i - ofC a b c)) = ofC a b c - i ∧
    (∀ j : Nat, (j : Int) < i → num (cntLow a b c i) (cntHigh a b c i) (cntStr a b c i) j = num a b c j) ∧
    (∀ j : Nat, i + (j : Int) < ofC a b c → num (cntLow a b c (i - ofC a b c)) (cntHigh a b c (i - ofC a b c)) (cntStr a b c (i - ofC a b c)) j = num a b c (i.toNat + j)) := by
  have hb := ofC_bnd hr
  have hR0 : Right 1 0 1 := ⟨by omega, .inl ⟨rfl, rfl, rfl⟩⟩
  have hC0 : ofC 1 0 1 = 0 := rfl
  refine ⟨cnt_ok hr hi (by omega), cnt_ok hr (by omega) (by omega), ?_⟩
  have first : Right (cntLow a b c i) (cntHigh a b c i) (cntStr a b c i) ∧ ofC (cntLow a b c i) (cntHigh a b c i) (cntStr a b c i) = i ∧ (∀ j : Nat, (j : Int) < i → num (cntLow a b c i) (cntHigh a b c i) (cntStr a b c i) j = num a b c j) := by
    by_cases hz : i = 0
    · subst hz
      obtain ⟨z1, z2, z3⟩ := cnt_zero hr
      rw [z1, z2, z3]
      exact ⟨hR0, hC0, fun j hj => by omega⟩
    · have hab : a ≤ b := by
        by_cases hab : a ≤ b
        · exact hab
        · have := empty_of (c := c) hab; omega
      obtain ⟨g1, g2, g3⟩ := cnt_part (n := i) (F0 := 0) (T0 := i - 1) hr hab hi (by omega) hz (by unfold cntFrom; rw [if_neg (by omega)]) (by unfold cntTo; rw [if_neg (by omega)]) (by omega) (by omega) (by omega) (by omega)
      exact ⟨g1, by omega, fun j hj => by rw [g3 j (by omega)]; congr 1; simp⟩
  have last : Right (cntLow a b c (i - ofC a b c)) (cntHigh a b c (i - ofC a b c)) (cntStr a b c (i - ofC a b c)) ∧ ofC (cntLow a b c (i - ofC a b c)) (cntHigh a b c (i - ofC a b c)) (cntStr a b c (i - ofC a b c)) = ofC a b c - i ∧
      (∀ j : Nat, i + (j : Int) < ofC a b c → num (cntLow a b c (i - ofC a b c)) (cntHigh a b c (i - ofC a b c)) (cntStr a b c (i - ofC a b c)) j = num a b c (i.toNat + j)) := by
    by_cases hz : i = ofC a b c
    · rw [show i - ofC a b c = 0 by omega]
      obtain ⟨z1, z2, z3⟩ := cnt_zero hr
      rw [z1, z2, z3]
      exact ⟨hR0, by rw [hC0]; omega, fun j hj => by omega⟩
    · have hab : a ≤ b := by
        by_cases hab : a ≤ b
        · exact hab
        · have := empty_of (c := c) hab; omega
      obtain ⟨g1, g2, g3⟩ := cnt_part (n := i - ofC a b c) (F0 := i) (T0 := ofC a b c - 1) hr hab (by omega) (by omega) (by omega) (by unfold cntFrom; rw [if_pos (by omega)]; omega) (by unfold cntTo; rw [if_pos (by omega)]) (by omega) (by omega) (by omega) (by omega)
      exact ⟨g1, by omega, fun j hj => g3 j (by omega)⟩
  exact ⟨first.1, last.1, first.2.1, last.2.1, first.2.2, last.2.2⟩
end Go.RX.Span

