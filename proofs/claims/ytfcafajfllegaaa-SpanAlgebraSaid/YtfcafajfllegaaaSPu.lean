/- Ranges: the contract of the numbers of a range, and of small ranges. -/
import Derived.Test.YtfcafajfllegaaaSPt
import Derived.Test.YtfcafajfllegaaaSPr
import Derived.Test.YtfcafajfllegaaaRXt
set_option linter.unusedVariables false
set_option linter.unusedSimpArgs false
set_option maxRecDepth 100000
namespace Go.RX.Span
open Go Go.RX Go.RowKit

def numsN (a b c m : Int) : Nat := min (size a b c).toNat (m + 1).toNat
/-- A slice of numbers that a function of its own made. -/
theorem rep_owned {n₀ : Nat} {w : World} {lv : Nat → Prop} (hlv : ∀ x, lv x → x < n₀) {v : Value} {k : Nat} {g : Nat → Int} {q : Nat} (hq : n₀ ≤ q) (hk : k ≤ top) (h : w.ownsRow q 3 1 v k ((List.range k).map fun i => .int .i64 (g i))) (bs : Bs) :
    Rep bs lv w (.row [.int .i64] k fun i => (g i, ())) v := by
  rcases h.2 with ⟨rfl, rfl⟩ | ⟨b, cap, cur, rfl, hb, hc, h1, h2, h3, h4⟩
  · exact ⟨none, 0, rfl, Nat.le_refl _, Nat.zero_le _, fun h => absurd h (Nat.lt_irrefl 0)⟩
  · refine ⟨some ⟨b, 0, none⟩, cap, rfl, h1, hk, fun _ => ⟨b, 0, rfl, (Array.getElem?_eq_some_iff.1 hc).1, fun hx => by have := hlv b hx; omega, fun i hi => ⟨⟨_, ?_, rfl⟩, trivial⟩⟩⟩
    have : cur.toList[i]? = some (.int .i64 (g i)) := by
      have e : (cur.toList.take (k * 1))[i]? = some (.int .i64 (g i)) := by rw [h4]; simp [hi]
      rwa [List.getElem?_take_of_lt (by omega)] at e
    simpa [World.cell?, show w.heap[b]? = _ from hc] using this

noncomputable def c_numbers : Con := fun args => match args with
  | [.agg [.lit (.int .i64 a), .lit (.int .i64 b), .lit (.int .i64 c)], .lit (.int .i64 m)] =>
    .ask (I64 a ∧ I64 b ∧ I64 c ∧ 0 ≤ m ∧ m ≤ 1000000) (.ret (.row [.int .i64] (lk numsN a b c m) (fun k => (lk num a b c k, ()))))
  | _ => .stuck 1
theorem numbers_ok : ConOK P 33 c_numbers := by
  intro args r h lv w vals hlv hr
  unfold c_numbers at h
  split at h
  · rename_i a b c m
    obtain ⟨ha, hb, hc, h0, h1⟩ := (T.is_ask h).1
    obtain rfl := T.is_ret (T.is_ask h).2
    obtain ⟨u, us, rfl, ⟨xs, rfl, u1, l1, rfl, e1, u2, l2, rfl, e2, u3, l3, rfl, e3, e4⟩, u4, l4, rfl, e5, e6⟩ := hr
    subst e4; subst e6
    rw [show u1 = .int .i64 a from e1, show u2 = .int .i64 b from e2, show u3 = .int .i64 c from e3, show u4 = .int .i64 m from e5]
    refine (callsIn_wide.1 (numbers_in 3 (by omega) a b c m ha hb hc h0 h1 w)).mono ?_
    rintro e w' ⟨v, k, q, rfl, hk, hq, hown, hbel⟩
    refine ⟨v, rfl, hbel, ?_⟩
    simp only [lk_eq]
    have e : numsN a b c m = k := by rw [hk]; rfl
    rw [e]
    refine rep_owned hlv hq ?_ (by simpa [nums, Function.comp_def] using hown) _
    have := size_le a b c
    simp only [top]; omega
  · exact h.elim

def smallB (a b c : Int) : Bool := decide (chk a b c = 0 ∧ size a b c ≤ 400)
noncomputable def c_small : Con := fun args => match args with
  | [.agg [.lit (.int .i64 a), .lit (.int .i64 b), .lit (.int .i64 c)]] => .ask (I64 a ∧ I64 b ∧ I64 c) (.ret (.lit (.bool (lk smallB a b c))))
  | _ => .stuck 1
set_option maxRecDepth 100000 in
theorem t_small (a b c : Int) : conB Go.Proofs.Try.prog (conOf k7) noLoops 10 32 [.agg [.lit (.int .i64 a), .lit (.int .i64 b), .lit (.int .i64 c)]] =
    T.ask (I64 a ∧ I64 b ∧ I64 c)
    (T.br (U.eq (lk chk a b c) (0 : Int))
      (T.ask (I64 a ∧ I64 b ∧ I64 c) (T.ret (SV.lit (Value.bool (U.le (lk size a b c) (400 : Int))))))
      (T.ret (SV.lit (Value.bool false)))) := by kernel_rfl
theorem small_ok : ConOK P 32 c_small := con_of (allOK mixed k7_ok) 10 32 fun args r h => by
  unfold c_small at h
  split at h
  · rename_i a b c
    have hp := (T.is_ask h).1
    have h := (T.is_ask h).2
    obtain rfl := T.is_ret h
    rw [t_small]
    by_cases h1 : chk a b c = 0 <;> by_cases h2 : size a b c ≤ 400 <;> simp [T.All, U.eq_eq, U.le_eq, U.ne_eq, lk_eq, hp, smallB, h1, h2]
  · exact h.elim
noncomputable abbrev k10 : List (Nat × Con) := (33, c_numbers) :: (32, c_small) :: (35, c_Count) :: k7
theorem k10_ok : ∀ p ∈ k10, ConOK P p.1 p.2 := by
  intro p hp
  simp only [k10, List.mem_cons] at hp
  rcases hp with rfl | rfl | rfl | hp
  · exact numbers_ok
  · exact small_ok
  · exact Count_ok
  · exact k7_ok p (by simpa [k7] using hp)
end Go.RX.Span
