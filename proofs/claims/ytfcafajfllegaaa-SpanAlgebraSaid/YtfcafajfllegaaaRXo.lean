/- What the walks' users want: locks for specifications, tests read, numbers that lie in their range. -/
import Derived.Test.YtfcafajfllegaaaRXn
set_option linter.unusedVariables false
namespace Go.RX
open Go Go.RowKit

theorem lkN {α : Type} (a : α) : Nonempty {b : α // b = a} := ⟨⟨a, rfl⟩⟩
/-- A term behind a lock. -/
noncomputable def lk {α : Type} (a : α) : α := (Classical.choice (lkN a)).1
theorem lk_eq {α : Type} (a : α) : lk a = a := (Classical.choice (lkN a)).2

theorem T.is_ask {α : Type} {p : Prop} {t : T α} {a : α} (h : (T.ask p t).Is a) : p ∧ t.Is a := h
theorem T.is_ret {α : Type} {x a : α} (h : (T.ret x).Is a) : x = a := h

def I64 (a : Int) : Prop := -9223372036854775808 ≤ a ∧ a ≤ 9223372036854775807

namespace U
theorem le_t {a b : Int} : (le a b = true) = (a ≤ b) := by rw [le_eq]; simp
theorem le_f {a b : Int} : (le a b = false) = (b < a) := by rw [le_eq]; simp
theorem lt_t {a b : Int} : (lt a b = true) = (a < b) := by rw [lt_eq]; simp
theorem lt_f {a b : Int} : (lt a b = false) = (b ≤ a) := by rw [lt_eq]; simp
theorem gt_t {a b : Int} : (gt a b = true) = (b < a) := by rw [gt_eq]; simp
theorem gt_f {a b : Int} : (gt a b = false) = (a ≤ b) := by rw [gt_eq]; simp
theorem ge_t {a b : Int} : (ge a b = true) = (b ≤ a) := by rw [ge_eq]; simp
theorem ge_f {a b : Int} : (ge a b = false) = (a < b) := by rw [ge_eq]; simp
theorem eq_t {a b : Int} : (eq a b = true) = (a = b) := by rw [eq_eq]; simp
theorem eq_f {a b : Int} : (eq a b = false) = (a ≠ b) := by rw [eq_eq]; simp
theorem ne_t {a b : Int} : (ne a b = true) = (a ≠ b) := by rw [ne_eq]; simp
theorem ne_f {a b : Int} : (ne a b = false) = (a = b) := by rw [ne_eq]; simp
theorem not_t {a : Bool} : (not a = true) = (a = false) := by rw [not_eq]; simp
theorem not_f {a : Bool} : (not a = false) = (a = true) := by rw [not_eq]; simp
theorem andb_t {a b : Bool} : (andb a b = true) = (a = true ∧ b = true) := by rw [andb_eq]; simp
theorem andb_f {a b : Bool} : (andb a b = false) = (a = true → b = false) := by rw [andb_eq]; cases a <;> simp
theorem beq_t {a b : Bool} : (beq a b = true) = (a = b) := by rw [beq_eq]; simp
theorem beq_f {a b : Bool} : (beq a b = false) = (a ≠ b) := by rw [beq_eq]; simp
theorem add64 {a b : Int} (h : I64 (a + b)) : add .i64 a b = a + b := by rw [add_eq]; exact IntWalk.i64_in _ h
theorem sub64 {a b : Int} (h : I64 (a - b)) : sub .i64 a b = a - b := by rw [sub_eq]; exact IntWalk.i64_in _ h
theorem mul64 {a b : Int} (h : I64 (a * b)) : mul .i64 a b = a * b := by rw [mul_eq]; exact IntWalk.i64_in _ h
theorem quo64 {a b : Int} (h : I64 (a.tdiv b)) : quo .i64 a b = a.tdiv b := by rw [quo_eq]; exact IntWalk.i64_in _ h
theorem rem64 {a b : Int} : rem a b = a.tmod b := rem_eq a b
end U

/-- Contracts in a list. -/
def conOf (l : List (Nat × Con)) : FuncId → Option Con := fun f => List.lookup f l

theorem conOf_ok {P : Program} : ∀ {l : List (Nat × Con)}, (∀ p ∈ l, ConOK P p.1 p.2) → ∀ f c, conOf l f = some c → ConOK P f c
  | [], _, f, c, h => by simp [conOf] at h
  | (g, d) :: l, hl, f, c, h => by
    unfold conOf at h
    rw [List.lookup_cons] at h
    split at h
    · rename_i hfg
      have : f = g := by simpa using hfg
      subst this
      cases h
      exact hl (f, d) (by simp)
    · exact conOf_ok (fun p hp => hl p (by simp [hp])) f c h

/-- No loops are claimed of any function: where those that are gone into have none. -/
def noLoops : FuncId → Loops := fun _ => []
theorem noLoops_ok (P : Program) : ∀ f fn c, P.funcs[f]? = some fn → fn.body = some c → LoopsOK P (noLoops f) c :=
  fun f fn c _ _ l _ k g _ h => by simp [noLoops] at h

theorem allOK {P : Program} (hm : P.follows .mixedOrders = true) {l : List (Nat × Con)} (h : ∀ p ∈ l, ConOK P p.1 p.2) : AllOK P (conOf l) noLoops :=
  ⟨hm, conOf_ok h, noLoops_ok P⟩
end Go.RX
