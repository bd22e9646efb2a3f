/- Symbolic values of a walk, what they say of a world, and how that is kept. Plain definitions and lemmas; no program in sight. -/
import Derived.Below
import Derived.WalkKit
set_option linter.unusedVariables false
set_option linter.unusedSimpArgs false
namespace Go.RX
open Go Go.RowKit

/-! Operations on numbers and Bools behind a lock: no evaluation opens them. -/
namespace U
theorem wrapN : Nonempty {f : IntKind → Int → Int // f = fun k a => k.wrap a} := ⟨⟨_, rfl⟩⟩
noncomputable def wrap : IntKind → Int → Int := (Classical.choice wrapN).1
theorem wrap_eq (k : IntKind) (a : Int) : wrap k a = k.wrap a := by unfold wrap; rw [(Classical.choice wrapN).2]
theorem addN : Nonempty {f : IntKind → Int → Int → Int // f = fun k a b => k.wrap (a + b)} := ⟨⟨_, rfl⟩⟩
noncomputable def add : IntKind → Int → Int → Int := (Classical.choice addN).1
theorem add_eq (k : IntKind) (a b : Int) : add k a b = k.wrap (a + b) := by unfold add; rw [(Classical.choice addN).2]
theorem subN : Nonempty {f : IntKind → Int → Int → Int // f = fun k a b => k.wrap (a - b)} := ⟨⟨_, rfl⟩⟩
noncomputable def sub : IntKind → Int → Int → Int := (Classical.choice subN).1
theorem sub_eq (k : IntKind) (a b : Int) : sub k a b = k.wrap (a - b) := by unfold sub; rw [(Classical.choice subN).2]
theorem mulN : Nonempty {f : IntKind → Int → Int → Int // f = fun k a b => k.wrap (a * b)} := ⟨⟨_, rfl⟩⟩
noncomputable def mul : IntKind → Int → Int → Int := (Classical.choice mulN).1
theorem mul_eq (k : IntKind) (a b : Int) : mul k a b = k.wrap (a * b) := by unfold mul; rw [(Classical.choice mulN).2]
theorem quoN : Nonempty {f : IntKind → Int → Int → Int // f = fun k a b => k.wrap (a.tdiv b)} := ⟨⟨_, rfl⟩⟩
noncomputable def quo : IntKind → Int → Int → Int := (Classical.choice quoN).1
theorem quo_eq (k : IntKind) (a b : Int) : quo k a b = k.wrap (a.tdiv b) := by unfold quo; rw [(Classical.choice quoN).2]
theorem remN : Nonempty {f : Int → Int → Int // f = fun a b => a.tmod b} := ⟨⟨_, rfl⟩⟩
noncomputable def rem : Int → Int → Int := (Classical.choice remN).1
theorem rem_eq (a b : Int) : rem a b = a.tmod b := by unfold rem; rw [(Classical.choice remN).2]
theorem andN : Nonempty {f : IntKind → Int → Int → Int // f = fun k a b => k.wrap (BitVec.ofInt k.bits a &&& BitVec.ofInt k.bits b).toNat} := ⟨⟨_, rfl⟩⟩
noncomputable def and : IntKind → Int → Int → Int := (Classical.choice andN).1
theorem and_eq (k : IntKind) (a b : Int) : and k a b = k.wrap (BitVec.ofInt k.bits a &&& BitVec.ofInt k.bits b).toNat := by unfold and; rw [(Classical.choice andN).2]
theorem orN : Nonempty {f : IntKind → Int → Int → Int // f = fun k a b => k.wrap (BitVec.ofInt k.bits a ||| BitVec.ofInt k.bits b).toNat} := ⟨⟨_, rfl⟩⟩
noncomputable def or : IntKind → Int → Int → Int := (Classical.choice orN).1
theorem or_eq (k : IntKind) (a b : Int) : or k a b = k.wrap (BitVec.ofInt k.bits a ||| BitVec.ofInt k.bits b).toNat := by unfold or; rw [(Classical.choice orN).2]
theorem xorN : Nonempty {f : IntKind → Int → Int → Int // f = fun k a b => k.wrap (BitVec.ofInt k.bits a ^^^ BitVec.ofInt k.bits b).toNat} := ⟨⟨_, rfl⟩⟩
noncomputable def xor : IntKind → Int → Int → Int := (Classical.choice xorN).1
theorem xor_eq (k : IntKind) (a b : Int) : xor k a b = k.wrap (BitVec.ofInt k.bits a ^^^ BitVec.ofInt k.bits b).toNat := by unfold xor; rw [(Classical.choice xorN).2]
theorem mmN : Nonempty {f : Bool → Int → Int → Int // f = fun mx x y => if mx then (if y > x then y else x) else (if y < x then y else x)} := ⟨⟨_, rfl⟩⟩
noncomputable def mm : Bool → Int → Int → Int := (Classical.choice mmN).1
theorem mm_eq (mx : Bool) (x y : Int) : mm mx x y = (if mx then (if y > x then y else x) else (if y < x then y else x)) := by unfold mm; rw [(Classical.choice mmN).2]
theorem toNatN : Nonempty {f : Int → Nat // f = fun a => a.toNat} := ⟨⟨_, rfl⟩⟩
noncomputable def toNat : Int → Nat := (Classical.choice toNatN).1
theorem toNat_eq (a : Int) : toNat a = a.toNat := by unfold toNat; rw [(Classical.choice toNatN).2]
theorem eqN : Nonempty {f : Int → Int → Bool // f = fun a b => a == b} := ⟨⟨_, rfl⟩⟩
noncomputable def eq : Int → Int → Bool := (Classical.choice eqN).1
theorem eq_eq (a b : Int) : eq a b = (a == b) := by unfold eq; rw [(Classical.choice eqN).2]
theorem neN : Nonempty {f : Int → Int → Bool // f = fun a b => a != b} := ⟨⟨_, rfl⟩⟩
noncomputable def ne : Int → Int → Bool := (Classical.choice neN).1
theorem ne_eq (a b : Int) : ne a b = (a != b) := by unfold ne; rw [(Classical.choice neN).2]
theorem ltN : Nonempty {f : Int → Int → Bool // f = fun a b => decide (a < b)} := ⟨⟨_, rfl⟩⟩
noncomputable def lt : Int → Int → Bool := (Classical.choice ltN).1
theorem lt_eq (a b : Int) : lt a b = decide (a < b) := by unfold lt; rw [(Classical.choice ltN).2]
theorem leN : Nonempty {f : Int → Int → Bool // f = fun a b => decide (a ≤ b)} := ⟨⟨_, rfl⟩⟩
noncomputable def le : Int → Int → Bool := (Classical.choice leN).1
theorem le_eq (a b : Int) : le a b = decide (a ≤ b) := by unfold le; rw [(Classical.choice leN).2]
theorem gtN : Nonempty {f : Int → Int → Bool // f = fun a b => decide (a > b)} := ⟨⟨_, rfl⟩⟩
noncomputable def gt : Int → Int → Bool := (Classical.choice gtN).1
theorem gt_eq (a b : Int) : gt a b = decide (a > b) := by unfold gt; rw [(Classical.choice gtN).2]
theorem geN : Nonempty {f : Int → Int → Bool // f = fun a b => decide (a ≥ b)} := ⟨⟨_, rfl⟩⟩
noncomputable def ge : Int → Int → Bool := (Classical.choice geN).1
theorem ge_eq (a b : Int) : ge a b = decide (a ≥ b) := by unfold ge; rw [(Classical.choice geN).2]
theorem beqN : Nonempty {f : Bool → Bool → Bool // f = fun a b => a == b} := ⟨⟨_, rfl⟩⟩
noncomputable def beq : Bool → Bool → Bool := (Classical.choice beqN).1
theorem beq_eq (a b : Bool) : beq a b = (a == b) := by unfold beq; rw [(Classical.choice beqN).2]
theorem notN : Nonempty {f : Bool → Bool // f = fun a => !a} := ⟨⟨_, rfl⟩⟩
noncomputable def not : Bool → Bool := (Classical.choice notN).1
theorem not_eq (a : Bool) : not a = (!a) := by unfold not; rw [(Classical.choice notN).2]
theorem andbN : Nonempty {f : Bool → Bool → Bool // f = fun a b => a && b} := ⟨⟨_, rfl⟩⟩
noncomputable def andb : Bool → Bool → Bool := (Classical.choice andbN).1
theorem andb_eq (a b : Bool) : andb a b = (a && b) := by unfold andb; rw [(Classical.choice andbN).2]
theorem pickN : Nonempty {f : Bool → Bool → Bool → Bool // f = fun c a b => cond c a b} := ⟨⟨_, rfl⟩⟩
noncomputable def pick : Bool → Bool → Bool → Bool := (Classical.choice pickN).1
theorem pick_eq (c a b : Bool) : pick c a b = (cond c a b) := by unfold pick; rw [(Classical.choice pickN).2]
theorem seqN : Nonempty {f : ByteArray → ByteArray → Bool // f = fun a b => a.toList == b.toList} := ⟨⟨_, rfl⟩⟩
noncomputable def seq : ByteArray → ByteArray → Bool := (Classical.choice seqN).1
theorem seq_eq (a b : ByteArray) : seq a b = (a.toList == b.toList) := by unfold seq; rw [(Classical.choice seqN).2]
theorem catN (α : Type) : Nonempty {h : Nat → (Nat → α) → (Nat → α) → Nat → α // h = fun n f g i => if i < n then f i else g (i - n)} := ⟨⟨_, rfl⟩⟩
noncomputable def cat {α : Type} : Nat → (Nat → α) → (Nat → α) → Nat → α := (Classical.choice (catN α)).1
theorem cat_eq {α : Type} (n : Nat) (f g : Nat → α) (i : Nat) : cat n f g i = if i < n then f i else g (i - n) := by unfold cat; rw [(Classical.choice (catN α)).2]
theorem updN (α : Type) : Nonempty {h : (Nat → α) → Nat → α → Nat → α // h = fun f i a j => if j = i then a else f j} := ⟨⟨_, rfl⟩⟩
noncomputable def upd {α : Type} : (Nat → α) → Nat → α → Nat → α := (Classical.choice (updN α)).1
theorem upd_eq {α : Type} (f : Nat → α) (i : Nat) (a : α) (j : Nat) : upd f i a j = if j = i then a else f j := by unfold upd; rw [(Classical.choice (updN α)).2]
theorem nthN (α : Type) : Nonempty {h : List α → α → Nat → α // h = fun l d i => l.getD i d} := ⟨⟨_, rfl⟩⟩
noncomputable def nth {α : Type} : List α → α → Nat → α := (Classical.choice (nthN α)).1
theorem nth_eq {α : Type} (l : List α) (d : α) (i : Nat) : nth l d i = l.getD i d := by unfold nth; rw [(Classical.choice (nthN α)).2]
theorem iszN : Nonempty {f : Nat → Bool // f = fun n => decide (n = 0)} := ⟨⟨_, rfl⟩⟩
noncomputable def isz : Nat → Bool := (Classical.choice iszN).1
theorem isz_eq (n : Nat) : isz n = decide (n = 0) := by unfold isz; rw [(Classical.choice iszN).2]
theorem shlN : Nonempty {f : IntKind → Int → Int → Int // f = fun k a n => k.wrap (a * 2 ^ min n.toNat k.bits)} := ⟨⟨_, rfl⟩⟩
noncomputable def shl : IntKind → Int → Int → Int := (Classical.choice shlN).1
theorem shl_eq (k : IntKind) (a n : Int) : shl k a n = k.wrap (a * 2 ^ min n.toNat k.bits) := by unfold shl; rw [(Classical.choice shlN).2]
theorem shrN : Nonempty {f : IntKind → Int → Int → Int // f = fun k a n => a.fdiv (2 ^ min n.toNat k.bits)} := ⟨⟨_, rfl⟩⟩
noncomputable def shr : IntKind → Int → Int → Int := (Classical.choice shrN).1
theorem shr_eq (k : IntKind) (a n : Int) : shr k a n = a.fdiv (2 ^ min n.toNat k.bits) := by unfold shr; rw [(Classical.choice shrN).2]
end U

/-! Rows: what an element is made of, and the data of elements. -/
/-- What a cell holds: a number, a Bool, a string, a slice. -/
inductive Sh where
  | int (k : IntKind)
  | bool
  | str
  | sl (ss : List Sh)
mutual
def eqSh : Sh → Sh → Bool
  | .int k, .int k' => decide (k = k')
  | .bool, .bool => true
  | .str, .str => true
  | .sl ss, .sl ss' => eqShs ss ss'
  | _, _ => false
def eqShs : List Sh → List Sh → Bool
  | [], [] => true
  | s :: ss, s' :: ss' => eqSh s s' && eqShs ss ss'
  | _, _ => false
end
mutual
theorem eqSh_eq : ∀ (s s' : Sh), eqSh s s' = true → s = s'
  | .int k, .int k', h => by simp [eqSh] at h; rw [h]
  | .bool, .bool, _ => rfl
  | .str, .str, _ => rfl
  | .sl ss, .sl ss', h => by rw [eqShs_eq ss ss' (by simpa [eqSh] using h)]
  | .int _, .bool, h | .int _, .str, h | .int _, .sl _, h | .bool, .int _, h | .bool, .str, h | .bool, .sl _, h | .str, .int _, h | .str, .bool, h | .str, .sl _, h | .sl _, .int _, h | .sl _, .bool, h | .sl _, .str, h => by simp [eqSh] at h
theorem eqShs_eq : ∀ (s s' : List Sh), eqShs s s' = true → s = s'
  | [], [], _ => rfl
  | s :: ss, s' :: ss', h => by
    simp only [eqShs, Bool.and_eq_true] at h
    rw [eqSh_eq s s' h.1, eqShs_eq ss ss' h.2]
  | [], _ :: _, h | _ :: _, [], h => by simp [eqShs] at h
end
mutual
/-- The data of a cell; of a slice: its length and its elements. -/
def El : Sh → Type
  | .int _ => Int
  | .bool => Bool
  | .str => ByteArray
  | .sl ss => Nat × (Nat → Els ss)
/-- The data of an element. -/
def Els : List Sh → Type
  | [] => Unit
  | s :: ss => El s × Els ss
end
mutual
def zeroE : (s : Sh) → El s
  | .int _ => (0 : Int)
  | .bool => false
  | .str => ByteArray.empty
  | .sl ss => (0, fun _ => zeroEs ss)
def zeroEs : (ss : List Sh) → Els ss
  | [] => ()
  | s :: ss => (zeroE s, zeroEs ss)
end

/-- A symbolic value: numbers and Bools are Lean terms; pointers name blocks of the call's own by small numbers. -/
inductive SV where
  | any
  | lit (v : Value)
  | kb (b : Bool)
  | ki (k : IntKind) (n : Int)
  | ptr (b off : Nat)
  | agg (cs : List SV)
  | tup (vs : List SV)
  | fn (f : Fn) (first cap : List SV)
  | own (z : Bool) (b n : Nat)
  | optr (b i off k : Nat)
  | row (ss : List Sh) (n : Nat) (f : Nat → Els ss)
  | rptr (ss : List Sh) (n : Nat) (f : Nat → Els ss) (i off : Nat)
  | csl (b off n : Nat) (ss : List Sh)

instance : Inhabited SV := ⟨.any⟩

/-- A tree of ways: tests over Bools, demands, results. -/
inductive T (α : Type) : Type where
  | ret (a : α)
  | br (c : Bool) (t e : T α)
  | ask (p : Prop) (t : T α)
  | stuck (why : Nat)

namespace T
variable {α β : Type}
def bind : T α → (α → T β) → T β
  | ret a, f => f a
  | br c t e, f => br c (bind t f) (bind e f)
  | ask p t, f => ask p (bind t f)
  | stuck n, _ => stuck n
def Is : T α → α → Prop
  | ret a, x => a = x
  | br c t e, x => (c = true ∧ Is t x) ∨ (c = false ∧ Is e x)
  | ask p t, x => p ∧ Is t x
  | stuck _, _ => False
def All (K : α → Prop) : T α → Prop
  | ret a => K a
  | br c t e => (c = true → All K t) ∧ (c = false → All K e)
  | ask p t => p ∧ All K t
  | stuck _ => False
theorem is_of_all {K : α → Prop} : ∀ {t : T α}, All K t → ∃ a, Is t a ∧ K a
  | ret a, h => ⟨a, rfl, h⟩
  | br c t e, h => by
    cases c with
    | true => obtain ⟨a, h1, h2⟩ := is_of_all (h.1 rfl); exact ⟨a, .inl ⟨rfl, h1⟩, h2⟩
    | false => obtain ⟨a, h1, h2⟩ := is_of_all (h.2 rfl); exact ⟨a, .inr ⟨rfl, h1⟩, h2⟩
  | ask p t, h => by obtain ⟨a, h1, h2⟩ := is_of_all h.2; exact ⟨a, ⟨h.1, h1⟩, h2⟩
  | stuck _, h => h.elim
theorem all_of_is {K : α → Prop} : ∀ {t : T α} {a : α}, Is t a → K a → All K t
  | ret a, x, h, k => by cases h; exact k
  | br c t e, x, h, k => by
    rcases h with ⟨rfl, h⟩ | ⟨rfl, h⟩
    · exact ⟨fun _ => all_of_is h k, fun h => by cases h⟩
    · exact ⟨fun h => (by cases h), fun _ => all_of_is h k⟩
  | ask p t, x, h, k => ⟨h.1, all_of_is h.2 k⟩
  | stuck _, x, h, k => h.elim
theorem is_bind : ∀ {t : T α} {f : α → T β} {b : β}, Is (bind t f) b → ∃ a, Is t a ∧ Is (f a) b
  | ret a, f, b, h => ⟨a, rfl, h⟩
  | br c t e, f, b, h => by
    rcases h with ⟨hc, h⟩ | ⟨hc, h⟩
    · obtain ⟨a, h1, h2⟩ := is_bind h; exact ⟨a, .inl ⟨hc, h1⟩, h2⟩
    · obtain ⟨a, h1, h2⟩ := is_bind h; exact ⟨a, .inr ⟨hc, h1⟩, h2⟩
  | ask p t, f, b, h => by obtain ⟨a, h1, h2⟩ := is_bind h.2; exact ⟨a, ⟨h.1, h1⟩, h2⟩
  | stuck _, f, b, h => h.elim
theorem bind_is : ∀ {t : T α} {f : α → T β} {a : α} {b : β}, Is t a → Is (f a) b → Is (bind t f) b
  | ret _, f, a, b, h, k => by cases h; exact k
  | br _ _ _, f, a, b, h, k => h.imp (fun h => ⟨h.1, bind_is h.2 k⟩) (fun h => ⟨h.1, bind_is h.2 k⟩)
  | ask _ _, f, a, b, h, k => ⟨h.1, bind_is h.2 k⟩
  | stuck _, f, a, b, h, k => h.elim
theorem all_mono {K K' : α → Prop} (hk : ∀ a, K a → K' a) : ∀ {t : T α}, All K t → All K' t
  | ret a, h => hk _ h
  | br c t e, h => ⟨fun hc => all_mono hk (h.1 hc), fun hc => all_mono hk (h.2 hc)⟩
  | ask p t, h => ⟨h.1, all_mono hk h.2⟩
  | stuck _, h => h
theorem is_unique : ∀ {t : T α} {a b : α}, Is t a → Is t b → a = b
  | ret _, a, b, h, k => h.symm.trans k
  | br c t e, a, b, h, k => by
    cases c
    · exact is_unique (h.resolve_left (by simp)).2 (k.resolve_left (by simp)).2
    · exact is_unique (h.resolve_right (by simp)).2 (k.resolve_right (by simp)).2
  | ask p t, a, b, h, k => is_unique h.2 k.2
  | stuck _, _, _, h, _ => h.elim
end T

/-- Where the blocks of the call's own lie: number; of a row: how many elements it holds at most, and how many it has. -/
abbrev Bs := Nat → Option (Nat × Nat × Nat)

/-- The greatest number of elements of a slice that is spoken of. -/
def top : Nat := 140737488351232

mutual
/-- What the data of a cell says of a value. -/
def RepE (lv : Nat → Prop) (w : World) : (s : Sh) → El s → Value → Prop
  | .int k, d, v => v = .int k d
  | .bool, d, v => v = .bool d
  | .str, d, v => v = .string d
  | .sl ss, d, v => ∃ a cap, v = .slice a d.1 cap ∧ d.1 ≤ cap ∧ d.1 ≤ top ∧ (0 < d.1 → ∃ x off, a = some ⟨x, off, none⟩ ∧ x < w.heap.size ∧ ¬ lv x ∧
      ∀ i, i < d.1 → RepC lv w (fun o => w.cell? ⟨x, o, none⟩) ss (d.2 i) (off + i * ss.length))
/-- What the data of an element says of the cells from a place on. -/
def RepC (lv : Nat → Prop) (w : World) (g : Nat → Option Value) : (ss : List Sh) → Els ss → Nat → Prop
  | [], _, _ => True
  | s :: ss, d, o => (∃ u, g o = some u ∧ RepE lv w s d.1 u) ∧ RepC lv w g ss d.2 (o + 1)
end

mutual
/-- What a symbolic value says of a value. -/
def Rep (bs : Bs) (lv : Nat → Prop) (w : World) : SV → Value → Prop
  | .any, _ => True
  | .lit u, v => v = u
  | .kb b, v => v = .bool b
  | .ki k n, v => v = .int k n
  | .ptr b off, v => ∃ x c, bs b = some (x, c) ∧ v = .pointer (some ⟨x, off, none⟩)
  | .agg cs, v => ∃ us : List Value, v = .agg us.toArray ∧ RepL bs lv w cs us
  | .tup cs, v => ∃ us : List Value, v = .tuple us.toArray ∧ RepL bs lv w cs us
  | .fn f as cs, v => ∃ us ts : List Value, v = .func f us.toArray ts.toArray ∧ RepL bs lv w as us ∧ RepL bs lv w cs ts
  | .own z b n, v => (z = true ∧ n = 0 ∧ v = .slice none 0 0) ∨ (z = false ∧ ∃ x c, bs b = some (x, c, n) ∧ v = .slice (some ⟨x, 0, none⟩) n c ∧ n ≤ c ∧ n ≤ top)
  | .optr b i off k, v => ∃ x c, bs b = some (x, c) ∧ v = .pointer (some ⟨x, i * k + off, none⟩)
  | .row ss n f, v => RepE lv w (.sl ss) (n, f) v
  | .rptr ss n f i o, v => ∃ x off, v = .pointer (some ⟨x, off + i * ss.length + o, none⟩) ∧ i < n ∧ x < w.heap.size ∧ ¬ lv x ∧
      ∀ i, i < n → RepC lv w (fun o => w.cell? ⟨x, o, none⟩) ss (f i) (off + i * ss.length)
  | .csl b off n _, v => ∃ x c cap, bs b = some (x, c) ∧ v = .slice (some ⟨x, off, none⟩) n cap ∧ n ≤ cap ∧ n ≤ top
def RepL (bs : Bs) (lv : Nat → Prop) (w : World) : List SV → List Value → Prop
  | [], vs => vs = []
  | s :: ss, vs => ∃ u us, vs = u :: us ∧ Rep bs lv w s u ∧ RepL bs lv w ss us
end

section
variable {bs bs' : Bs} {lv lv' : Nat → Prop} {w w' : World}

theorem cell?_of_heap {x : Nat} (h : w'.heap[x]? = w.heap[x]?) (o : Nat) : w'.cell? ⟨x, o, none⟩ = w.cell? ⟨x, o, none⟩ :=
  World.cell?_of_block (w := w) h

mutual
theorem RepE.ext (hl : ∀ x, x < w.heap.size → lv' x → lv x)
    (hw : ∀ x, x < w.heap.size → ¬ lv x → w'.heap[x]? = w.heap[x]?) (hs : w.heap.size ≤ w'.heap.size) :
    ∀ (s : Sh) (d : El s) (v : Value), RepE lv w s d v → RepE lv' w' s d v
  | .int _, _, _, h => h
  | .bool, _, _, h => h
  | .str, _, _, h => h
  | .sl ss, d, v, ⟨a, cap, h1, h2, h2', h3⟩ => ⟨a, cap, h1, h2, h2', fun hn => by
      obtain ⟨x, off, g1, g2, g3, g4⟩ := h3 hn
      exact ⟨x, off, g1, Nat.lt_of_lt_of_le g2 hs, fun hx => g3 (hl x g2 hx), fun i hi =>
        RepC.ext hl hw hs ss (d.2 i) _ _ _ (fun j hj u hu => (cell?_of_heap (hw x g2 g3) _).trans hu) (g4 i hi)⟩⟩
theorem RepC.ext (hl : ∀ x, x < w.heap.size → lv' x → lv x)
    (hw : ∀ x, x < w.heap.size → ¬ lv x → w'.heap[x]? = w.heap[x]?) (hs : w.heap.size ≤ w'.heap.size) :
    ∀ (ss : List Sh) (d : Els ss) (o : Nat) (g g' : Nat → Option Value), (∀ j, j < ss.length → ∀ u, g (o + j) = some u → g' (o + j) = some u) → RepC lv w g ss d o → RepC lv' w' g' ss d o
  | [], _, _, _, _, _, _ => trivial
  | s :: ss, d, o, g, g', hg, ⟨⟨u, h1, h2⟩, h3⟩ => ⟨⟨u, hg 0 (by simp) u h1, RepE.ext hl hw hs s d.1 u h2⟩,
      RepC.ext hl hw hs ss d.2 (o + 1) g g' (fun j hj u hu => by
        rw [Nat.add_assoc, Nat.add_comm 1 j] at hu ⊢
        exact hg (j + 1) (by simp; omega) u hu) h3⟩
end

/-- The elements behind the length don't count. -/
theorem RepE.row_congr {ss : List Sh} {n : Nat} {f f' : Nat → Els ss} {v : Value} (h : RepE lv w (.sl ss) (n, f) v) (hf : ∀ i, i < n → f i = f' i) : RepE lv w (.sl ss) (n, f') v := by
  obtain ⟨a, cap, h1, h2, h2', h3⟩ := h
  refine ⟨a, cap, h1, h2, h2', fun hn => ?_⟩
  obtain ⟨x, off, g1, g2, g3, g4⟩ := h3 hn
  refine ⟨x, off, g1, g2, g3, fun i hi => ?_⟩
  have := g4 i hi
  show RepC lv w _ ss (f' i) _
  rw [← hf i hi]; exact this

mutual
theorem Rep.ext {bs bs' : Bs} (hb : ∀ b x, bs b = some x → bs' b = some x) (hl : ∀ x, x < w.heap.size → lv' x → lv x)
    (hw : ∀ x, x < w.heap.size → ¬ lv x → w'.heap[x]? = w.heap[x]?) (hs : w.heap.size ≤ w'.heap.size) :
    ∀ (s : SV) (v : Value), Rep bs lv w s v → Rep bs' lv' w' s v
  | .any, _, _ => trivial
  | .lit _, _, h => h
  | .kb _, _, h => h
  | .ki _ _, _, h => h
  | .ptr _ _, _, ⟨x, c, h1, h2⟩ => ⟨x, c, hb _ _ h1, h2⟩
  | .agg cs, _, ⟨us, h1, h2⟩ => ⟨us, h1, RepL.ext hb hl hw hs cs us h2⟩
  | .tup cs, _, ⟨us, h1, h2⟩ => ⟨us, h1, RepL.ext hb hl hw hs cs us h2⟩
  | .fn _ as cs, _, ⟨us, ts, h1, h2, h3⟩ => ⟨us, ts, h1, RepL.ext hb hl hw hs as us h2, RepL.ext hb hl hw hs cs ts h3⟩
  | .own _ _ _, _, h => h.imp id (fun ⟨h0, x, c, h1, h2⟩ => ⟨h0, x, c, hb _ _ h1, h2⟩)
  | .optr _ _ _ _, _, ⟨x, c, h1, h2⟩ => ⟨x, c, hb _ _ h1, h2⟩
  | .row ss n f, v, h => RepE.ext hl hw hs (.sl ss) (n, f) v h
  | .rptr ss n f i o, _, ⟨x, off, g1, g0, g2, g3, g4⟩ => ⟨x, off, g1, g0, Nat.lt_of_lt_of_le g2 hs, fun hx => g3 (hl x g2 hx), fun i hi =>
      RepC.ext hl hw hs ss (f i) _ _ _ (fun j hj u hu => (cell?_of_heap (hw x g2 g3) _).trans hu) (g4 i hi)⟩
  | .csl _ _ _ _, _, ⟨x, c, cap, h1, h2⟩ => ⟨x, c, cap, hb _ _ h1, h2⟩
theorem RepL.ext {bs bs' : Bs} (hb : ∀ b x, bs b = some x → bs' b = some x) (hl : ∀ x, x < w.heap.size → lv' x → lv x)
    (hw : ∀ x, x < w.heap.size → ¬ lv x → w'.heap[x]? = w.heap[x]?) (hs : w.heap.size ≤ w'.heap.size) :
    ∀ (s : List SV) (v : List Value), RepL bs lv w s v → RepL bs' lv' w' s v
  | [], _, h => h
  | s :: ss, _, ⟨u, us, h1, h2, h3⟩ => ⟨u, us, h1, Rep.ext hb hl hw hs s u h2, RepL.ext hb hl hw hs ss us h3⟩
end

theorem RepL.length : ∀ {ss : List SV} {vs : List Value}, RepL bs lv w ss vs → vs.length = ss.length
  | [], _, h => by cases h; rfl
  | s :: ss, _, ⟨u, us, h1, h2, h3⟩ => by subst h1; simp [RepL.length h3]

theorem RepL.get : ∀ {ss : List SV} {vs : List Value}, RepL bs lv w ss vs → ∀ (i : Nat) (s : SV), ss[i]? = some s → ∃ v, vs[i]? = some v ∧ Rep bs lv w s v
  | [], _, h, i, s, hs => by simp at hs
  | s :: ss, _, ⟨u, us, h1, h2, h3⟩, i, t, ht => by
    subst h1
    cases i with
    | zero => simp at ht; subst ht; exact ⟨u, rfl, h2⟩
    | succ i => simpa using h3.get i t (by simpa using ht)

theorem RepL.nil : RepL bs lv w [] [] := by unfold RepL; rfl
theorem RepL.cons {s : SV} {u : Value} {ss : List SV} {us : List Value} (h : Rep bs lv w s u) (h' : RepL bs lv w ss us) : RepL bs lv w (s :: ss) (u :: us) :=
  ⟨u, us, rfl, h, h'⟩
theorem repL_nil {vs : List Value} (h : RepL bs lv w [] vs) : vs = [] := h
theorem repL_cons {s : SV} {ss : List SV} {vs : List Value} (h : RepL bs lv w (s :: ss) vs) : ∃ u us, vs = u :: us ∧ Rep bs lv w s u ∧ RepL bs lv w ss us := h
theorem RepL.append : ∀ {ss : List SV} {vs : List Value} {ts : List SV} {us : List Value}, RepL bs lv w ss vs → RepL bs lv w ts us → RepL bs lv w (ss ++ ts) (vs ++ us)
  | [], _, ts, us, h, h' => by cases h; exact h'
  | s :: ss, _, ts, us, ⟨u, us', h1, h2, h3⟩, h' => by subst h1; exact .cons h2 (RepL.append h3 h')
theorem RepL.drop : ∀ (n : Nat) {ss : List SV} {vs : List Value}, RepL bs lv w ss vs → RepL bs lv w (ss.drop n) (vs.drop n)
  | 0, _, _, h => h
  | n + 1, [], _, h => by cases h; exact .nil
  | n + 1, s :: ss, _, ⟨u, us, h1, h2, h3⟩ => by subst h1; exact RepL.drop n h3
theorem RepL.take : ∀ (n : Nat) {ss : List SV} {vs : List Value}, RepL bs lv w ss vs → RepL bs lv w (ss.take n) (vs.take n)
  | 0, _, _, h => .nil
  | n + 1, [], _, h => by cases h; exact .nil
  | n + 1, s :: ss, _, ⟨u, us, h1, h2, h3⟩ => by subst h1; exact .cons h2 (RepL.take n h3)
theorem RepL.set : ∀ {ss : List SV} {vs : List Value} (i : Nat) {s : SV} {v : Value}, RepL bs lv w ss vs → Rep bs lv w s v → RepL bs lv w (ss.set i s) (vs.set i v)
  | [], _, i, s, v, h, h' => by cases h; exact .nil
  | t :: ss, _, 0, s, v, ⟨u, us, h1, h2, h3⟩, h' => by subst h1; exact .cons h' h3
  | t :: ss, _, i + 1, s, v, ⟨u, us, h1, h2, h3⟩, h' => by subst h1; exact .cons h2 (RepL.set i h3 h')
theorem RepL.getD {ss : List SV} {vs : List Value} (h : RepL bs lv w ss vs) (i : Nat) : Rep bs lv w (ss.getD i (.lit undef)) (vs.getD i undef) := by
  rw [List.getD_eq_getElem?_getD, List.getD_eq_getElem?_getD]
  cases hs : ss[i]? with
  | none =>
    have : vs[i]? = none := by rw [List.getElem?_eq_none_iff] at hs ⊢; rw [h.length]; exact hs
    rw [this]; exact rfl
  | some s => obtain ⟨v, hv, hr⟩ := h.get i s hs; rw [hv]; exact hr
theorem RepL.of_forall {ss : List SV} {vs : List Value} (hl : vs.length = ss.length) (h : ∀ (i : Nat) (s : SV) (v : Value), ss[i]? = some s → vs[i]? = some v → Rep bs lv w s v) : RepL bs lv w ss vs := by
  induction ss generalizing vs with
  | nil => cases vs with
    | nil => exact .nil
    | cons v vs => simp at hl
  | cons s ss ih => cases vs with
    | nil => simp at hl
    | cons v vs => exact .cons (h 0 s v rfl rfl) (ih (by simpa using hl) fun i s v h1 h2 => h (i + 1) s v (by simpa using h1) (by simpa using h2))
theorem RepL.replicate_lit (n : Nat) (v : Value) : RepL bs lv w (List.replicate n (.lit v)) (List.replicate n v) := by
  induction n with
  | zero => exact .nil
  | succ n ih => simp only [List.replicate_succ]; exact .cons rfl ih
theorem RepL.map_lit (vs : List Value) : RepL bs lv w (vs.map .lit) vs := by
  induction vs with
  | nil => exact .nil
  | cons v vs ih => simp only [List.map_cons]; exact .cons rfl ih
end

/-- The cells of a symbolic value. -/
def SV.cells : SV → List SV
  | .agg cs => cs
  | s => [s]

/-- A value written out as a symbolic one. -/
def SV.ofVal : Value → SV
  | .agg cs => .agg (cs.toList.map .lit)
  | .bool b => .kb b
  | .int k n => .ki k n
  | v => .lit v
theorem rep_ofVal {bs : Bs} {lv : Nat → Prop} {w : World} (v : Value) : Rep bs lv w (.ofVal v) v := by
  cases v <;> first | exact rfl | exact ⟨_, by simp, .map_lit _⟩

mutual
/-- Whether a value names no memory. -/
def SV.flat : SV → Bool
  | .lit _ | .kb _ | .ki _ _ => true
  | .agg cs => SV.flatL cs
  | .tup cs => SV.flatL cs
  | .fn _ as cs => SV.flatL as && SV.flatL cs
  | _ => false
def SV.flatL : List SV → Bool
  | [] => true
  | s :: ss => s.flat && SV.flatL ss
end
mutual
theorem Rep.flat {bs bs' : Bs} {lv lv' : Nat → Prop} {w w' : World} : ∀ (s : SV) (v : Value), s.flat = true → Rep bs lv w s v → Rep bs' lv' w' s v
  | .any, _, h, _ => trivial
  | .lit _, _, _, h => h
  | .kb _, _, _, h => h
  | .ki _ _, _, _, h => h
  | .ptr _ _, _, h, _ => by simp [SV.flat] at h
  | .agg cs, _, hf, ⟨us, h1, h2⟩ => ⟨us, h1, RepL.flat cs us (by simpa [SV.flat] using hf) h2⟩
  | .tup cs, _, hf, ⟨us, h1, h2⟩ => ⟨us, h1, RepL.flat cs us (by simpa [SV.flat] using hf) h2⟩
  | .fn _ as cs, _, hf, ⟨us, ts, h1, h2, h3⟩ => by
    simp only [SV.flat, Bool.and_eq_true] at hf
    exact ⟨us, ts, h1, RepL.flat as us hf.1 h2, RepL.flat cs ts hf.2 h3⟩
  | .own _ _ _, _, h, _ => by simp [SV.flat] at h
  | .optr _ _ _ _, _, h, _ => by simp [SV.flat] at h
  | .row _ _ _, _, h, _ => by simp [SV.flat] at h
  | .csl _ _ _ _, _, h, _ => by simp [SV.flat] at h
  | .rptr _ _ _ _ _, _, h, _ => by simp [SV.flat] at h
theorem RepL.flat {bs bs' : Bs} {lv lv' : Nat → Prop} {w w' : World} : ∀ (s : List SV) (v : List Value), SV.flatL s = true → RepL bs lv w s v → RepL bs' lv' w' s v
  | [], _, _, h => h
  | s :: ss, _, hf, ⟨u, us, h1, h2, h3⟩ => by
    simp only [SV.flatL, Bool.and_eq_true] at hf
    exact ⟨u, us, h1, Rep.flat s u hf.1 h2, RepL.flat ss us hf.2 h3⟩
end

mutual
/-- Whether a value names no block of the call's own. -/
def SV.closed : SV → Bool
  | .lit _ | .kb _ | .ki _ _ | .row _ _ _ | .rptr _ _ _ _ _ => true
  | .agg cs => SV.closedL cs
  | .tup cs => SV.closedL cs
  | .fn _ as cs => SV.closedL as && SV.closedL cs
  | _ => false
def SV.closedL : List SV → Bool
  | [] => true
  | s :: ss => s.closed && SV.closedL ss
end
mutual
theorem Rep.closed {bs bs' : Bs} {lv : Nat → Prop} {w : World} : ∀ (s : SV) (v : Value), s.closed = true → Rep bs lv w s v → Rep bs' lv w s v
  | .any, _, h, _ => trivial
  | .lit _, _, _, h => h
  | .kb _, _, _, h => h
  | .ki _ _, _, _, h => h
  | .ptr _ _, _, h, _ => by simp [SV.closed] at h
  | .agg cs, _, hf, ⟨us, h1, h2⟩ => ⟨us, h1, RepL.closed cs us (by simpa [SV.closed] using hf) h2⟩
  | .tup cs, _, hf, ⟨us, h1, h2⟩ => ⟨us, h1, RepL.closed cs us (by simpa [SV.closed] using hf) h2⟩
  | .fn _ as cs, _, hf, ⟨us, ts, h1, h2, h3⟩ => by
    simp only [SV.closed, Bool.and_eq_true] at hf
    exact ⟨us, ts, h1, RepL.closed as us hf.1 h2, RepL.closed cs ts hf.2 h3⟩
  | .own _ _ _, _, h, _ => by simp [SV.closed] at h
  | .optr _ _ _ _, _, h, _ => by simp [SV.closed] at h
  | .row _ _ _, _, _, h => h
  | .csl _ _ _ _, _, h, _ => by simp [SV.closed] at h
  | .rptr _ _ _ _ _, _, _, h => h
theorem RepL.closed {bs bs' : Bs} {lv : Nat → Prop} {w : World} : ∀ (s : List SV) (v : List Value), SV.closedL s = true → RepL bs lv w s v → RepL bs' lv w s v
  | [], _, _, h => h
  | s :: ss, _, hf, ⟨u, us, h1, h2, h3⟩ => by
    simp only [SV.closedL, Bool.and_eq_true] at hf
    exact ⟨u, us, h1, Rep.closed s u hf.1 h2, RepL.closed ss us hf.2 h3⟩
end

/-- Whether a symbolic value can't stand for an aggregate. -/
def SV.scalar : SV → Bool
  | .kb _ | .ki _ _ | .ptr _ _ | .fn _ _ _ | .own _ _ _ | .optr _ _ _ _ | .row _ _ _ | .rptr _ _ _ _ _ | .csl _ _ _ _ => true
  | .lit v => match v with | .agg _ | .tuple _ => false | _ => true
  | _ => false

theorem cells_rep {bs : Bs} {lv : Nat → Prop} {w : World} {s : SV} {v : Value} (h : Rep bs lv w s v) (hs : s.scalar = true) : v.cells = #[v] ∧ s.cells = [s] := by
  refine ⟨?_, by cases s <;> first | rfl | simp [SV.scalar] at hs⟩
  cases s with
  | any => simp [SV.scalar] at hs
  | lit u => obtain rfl : v = u := h; cases v <;> first | rfl | simp [SV.scalar] at hs
  | kb b => cases h; rfl
  | ki k n => cases h; rfl
  | ptr b off => obtain ⟨_, _, _, rfl⟩ := h; rfl
  | agg cs => simp [SV.scalar] at hs
  | tup cs => simp [SV.scalar] at hs
  | fn f a c => obtain ⟨_, _, rfl, _⟩ := h; rfl
  | own z b n => rcases h with ⟨_, _, rfl⟩ | ⟨_, _, _, _, rfl, _⟩ <;> rfl
  | optr _ _ _ _ => obtain ⟨_, _, _, rfl⟩ := h; rfl
  | row _ _ _ => obtain ⟨_, _, rfl, _⟩ := h; rfl
  | csl _ _ _ _ => obtain ⟨_, _, _, _, rfl, _⟩ := h; rfl
  | rptr _ _ _ _ _ => obtain ⟨_, _, rfl, _⟩ := h; rfl

/-! ### The data of elements and symbolic values -/
def toSV : (s : Sh) → El s → SV
  | .int k, d => .lit (.int k d)
  | .bool, d => .lit (.bool d)
  | .str, d => .lit (.string d)
  | .sl ss, d => .row ss d.1 d.2
theorem toSV_rep {lv : Nat → Prop} {w : World} : ∀ (s : Sh) (d : El s) (v : Value), RepE lv w s d v → ∀ bs : Bs, Rep bs lv w (toSV s d) v
  | .int _, _, _, h, _ => h
  | .bool, _, _, h, _ => h
  | .str, _, _, h, _ => h
  | .sl _, _, _, h, _ => h
theorem repE_one {lv : Nat → Prop} {w : World} : ∀ (s : Sh) (d : El s) (v : Value), RepE lv w s d v → v.oneCell' = true
  | .int _, _, _, h => by rw [show _ = _ from h]; rfl
  | .bool, _, _, h => by rw [show _ = _ from h]; rfl
  | .str, _, _, h => by rw [show _ = _ from h]; rfl
  | .sl _, _, _, ⟨_, _, h, _⟩ => by rw [h]; rfl

def getE : (ss : List Sh) → Els ss → Nat → Option SV
  | [], _, _ => none
  | s :: ss, d, 0 => some (toSV s d.1)
  | s :: ss, d, j + 1 => getE ss d.2 j
theorem getE_rep {lv : Nat → Prop} {w : World} {g : Nat → Option Value} : ∀ (ss : List Sh) (d : Els ss) (o j : Nat) (s : SV), RepC lv w g ss d o → getE ss d j = some s → ∃ u, g (o + j) = some u ∧ ∀ bs : Bs, Rep bs lv w s u
  | [], _, _, _, _, _, h => by simp [getE] at h
  | s :: ss, d, o, 0, sv, ⟨⟨u, h1, h2⟩, _⟩, h => by
    simp only [getE, Option.some.injEq] at h
    subst h
    exact ⟨u, h1, toSV_rep s d.1 u h2⟩
  | s :: ss, d, o, j + 1, sv, ⟨_, h3⟩, h => by
    obtain ⟨u, h1, h2⟩ := getE_rep ss d.2 (o + 1) j sv h3 (by simpa [getE] using h)
    exact ⟨u, by rw [← h1]; congr 1; omega, h2⟩

theorem repC_one {lv : Nat → Prop} {w : World} {g : Nat → Option Value} : ∀ (ss : List Sh) (d : Els ss) (o j : Nat), RepC lv w g ss d o → j < ss.length → ∃ u, g (o + j) = some u ∧ u.oneCell' = true
  | [], _, _, _, _, h => by simp at h
  | s :: ss, d, o, 0, ⟨⟨u, h1, h2⟩, _⟩, h => ⟨u, h1, repE_one s d.1 u h2⟩
  | s :: ss, d, o, j + 1, ⟨_, h3⟩, h => by
    obtain ⟨u, h1, h2⟩ := repC_one ss d.2 (o + 1) j h3 (by simpa using h)
    exact ⟨u, by rw [← h1]; congr 1; omega, h2⟩

def castEls {ss ss' : List Sh} (h : eqShs ss ss' = true) (f : Nat → Els ss) : Nat → Els ss' := (eqShs_eq ss ss' h) ▸ f
theorem castEls_rep {lv : Nat → Prop} {w : World} {ss ss' : List Sh} (h : eqShs ss ss' = true) (n : Nat) (f : Nat → Els ss) (v : Value) (hr : RepE lv w (.sl ss) (n, f) v) : RepE lv w (.sl ss') (n, castEls h f) v := by
  have e := eqShs_eq ss ss' h
  subst e
  exact hr

def SV.asI : SV → Option (IntKind × Int)
  | .lit (.int k n) => some (k, n)
  | .ki k n => some (k, n)
  | _ => none
/-- The data of a value. -/
def ofSV : (s : Sh) → SV → Option (El s)
  | .int k, x => match x.asI with | some (k', a) => if k = k' then some a else none | none => none
  | .bool, x => match x with | .lit (.bool b) => some b | .kb b => some b | _ => none
  | .str, x => match x with | .lit (.string b) => some b | _ => none
  | .sl ss, x => match x with
    | .row ss' n f => if h : eqShs ss' ss = true then some (n, castEls h f) else none
    | .lit (.slice none 0 0) => some (0, fun _ => zeroEs ss)
    | _ => none
theorem ofSV_rep {bs : Bs} {lv : Nat → Prop} {w : World} : ∀ (s : Sh) (x : SV) (d : El s) (v : Value), ofSV s x = some d → Rep bs lv w x v → RepE lv w s d v
  | .int k, x, d, v, h, hr => by
    simp only [ofSV] at h
    split at h
    · rename_i k' a ha
      split at h
      · rename_i hk; subst hk
        cases h
        cases x <;> simp [SV.asI] at ha
        · rename_i u
          cases u <;> simp [SV.asI] at ha
          obtain ⟨rfl, rfl⟩ := ha
          exact hr
        · obtain ⟨rfl, rfl⟩ := ha
          exact hr
      · cases h
    · cases h
  | .bool, x, d, v, h, hr => by
    simp only [ofSV] at h
    split at h <;> cases h <;> exact hr
  | .str, x, d, v, h, hr => by
    simp only [ofSV] at h
    split at h <;> cases h; exact hr
  | .sl ss, x, d, v, h, hr => by
    simp only [ofSV] at h
    split at h
    · split at h
      · rename_i ss' n f he
        cases h
        exact castEls_rep he n f v hr
      · cases h
    · cases h
      exact ⟨none, 0, hr, Nat.le_refl _, Nat.zero_le _, fun h => absurd h (by simp)⟩
    · cases h

/-- Some columns of an element anew. -/
def setE : (ss : List Sh) → Els ss → Nat → List SV → Option (Els ss)
  | [], _, _, [] => some ()
  | [], _, _, _ :: _ => none
  | s :: ss, d, 0, [] => some d
  | s :: ss, d, 0, v :: vs => match ofSV s v, setE ss d.2 0 vs with | some a, some r => some (a, r) | _, _ => none
  | s :: ss, d, j + 1, vs => match setE ss d.2 j vs with | some r => some (d.1, r) | none => none
theorem setE_rep {bs : Bs} {lv lv' : Nat → Prop} {w w' : World} (hE : ∀ s d v, RepE lv w s d v → RepE lv' w' s d v) : ∀ (ss : List Sh) (d d' : Els ss) (j : Nat) (vs : List SV) (us : List Value) (o : Nat) (g g' : Nat → Option Value), setE ss d j vs = some d' → RepL bs lv w vs us →
    RepC lv w g ss d o → (∀ i, i < us.length → g' (o + j + i) = us[i]?) → (∀ i, i < ss.length → ¬ (j ≤ i ∧ i < j + us.length) → ∀ u, g (o + i) = some u → g' (o + i) = some u) → RepC lv' w' g' ss d' o
  | [], _, _, _, vs, _, _, _, _, h, _, _, _, _ => trivial
  | s :: ss, d, d', 0, [], us, o, g, g', h, hr, hc, h1, h2 => by
    simp only [setE, Option.some.injEq] at h
    subst h
    have : us = [] := hr
    subst this
    obtain ⟨⟨u, c1, c2⟩, c3⟩ := hc
    have := setE_rep (bs := bs) hE ss d.2 d.2 0 [] [] (o + 1) g g' (by cases ss <;> rfl) .nil c3 (fun i hi => by simp at hi) (fun i hi _ u hu => by
      rw [Nat.add_assoc, Nat.add_comm 1 i] at hu ⊢
      exact h2 (i + 1) (by simp; omega) (by simp) u hu)
    exact ⟨⟨u, h2 0 (by simp) (by simp) u c1, hE _ _ _ c2⟩, this⟩
  | s :: ss, d, d', 0, v :: vs, us, o, g, g', h, hr, hc, h1, h2 => by
    obtain ⟨u, us', rfl, hv, hvs⟩ := hr
    simp only [setE] at h
    split at h
    · rename_i a r ha hr'
      cases h
      obtain ⟨_, c3⟩ := hc
      refine ⟨⟨u, by have := h1 0 (by simp); simpa using this, hE _ _ _ (ofSV_rep s v a u ha hv)⟩, ?_⟩
      refine setE_rep hE ss d.2 r 0 vs us' (o + 1) g g' hr' hvs c3 (fun i hi => ?_) (fun i hi hni u hu => ?_)
      · have := h1 (i + 1) (by simp; omega)
        rw [show o + 1 + 0 + i = o + 0 + (i + 1) by omega, this]; simp
      · rw [Nat.add_assoc, Nat.add_comm 1 i] at hu ⊢
        exact h2 (i + 1) (by simp; omega) (by simp; omega) u hu
    · cases h
  | s :: ss, d, d', j + 1, vs, us, o, g, g', h, hr, hc, h1, h2 => by
    simp only [setE] at h
    split at h
    · rename_i r hr'
      cases h
      obtain ⟨⟨u, c1, c2⟩, c3⟩ := hc
      refine ⟨⟨u, h2 0 (by simp) (by omega) u c1, hE _ _ _ c2⟩, ?_⟩
      refine setE_rep hE ss d.2 r j vs us (o + 1) g g' hr' hr c3 (fun i hi => ?_) (fun i hi hni u hu => ?_)
      · rw [show o + 1 + j + i = o + (j + 1) + i by omega]; exact h1 i hi
      · rw [Nat.add_assoc, Nat.add_comm 1 i] at hu ⊢
        exact h2 (i + 1) (by simp; omega) (by omega) u hu
    · cases h

end Go.RX
