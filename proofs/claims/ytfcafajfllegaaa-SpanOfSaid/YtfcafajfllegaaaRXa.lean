/- Symbolic values of a walk, what they say of a world, and how that is kept. Plain definitions and lemmas; no program in sight. -/
import Derived.Below
import Derived.WalkKit
set_option linter.unusedVariables false
namespace Go.RX
open Go Go.RowKit

/-! Operations on numbers and Bools behind a lock: no evaluation opens them. -/
namespace U
theorem wrapN : Nonempty {f : IntKind → Int → Int // f = fun k a => k.wrap a} := ⟨⟨_, rfl⟩⟩
noncomputable def wrap : IntKind → Int → Int := (Classical.choice wrapN).1
theorem wrap_eq (k : IntKind) (a : Int) : wrap k a = k.wrap a := by unfold wrap; rw [(Classical.choice wrapN).2]
theorem addN : Nonempty {f : IntKind → Int → Int → Int // f = fun k a b => k.wrap (a + b)} := ⟨⟨_, rfl⟩⟩
noncomputable def add : IntKind → Int → Int → Int := (Classical.choice addN).1
theorem add_eq (k : IntKind) (a b : Int) : add k a b = k.wrap (a + b) := by unfold add; rw [(Classical.choice addN).2]
theorem subN : Nonempty {f : IntKind → Int → Int → Int // f = fun k a b => k.wrap (a - b)} := ⟨⟨_, rfl⟩⟩
noncomputable def sub : IntKind → Int → Int → Int := (Classical.choice subN).1
theorem sub_eq (k : IntKind) (a b : Int) : sub k a b = k.wrap (a - b) := by unfold sub; rw [(Classical.choice subN).2]
theorem mulN : Nonempty {f : IntKind → Int → Int → Int // f = fun k a b => k.wrap (a * b)} := ⟨⟨_, rfl⟩⟩
noncomputable def mul : IntKind → Int → Int → Int := (Classical.choice mulN).1
theorem mul_eq (k : IntKind) (a b : Int) : mul k a b = k.wrap (a * b) := by unfold mul; rw [(Classical.choice mulN).2]
theorem quoN : Nonempty {f : IntKind → Int → Int → Int // f = fun k a b => k.wrap (a.tdiv b)} := ⟨⟨_, rfl⟩⟩
noncomputable def quo : IntKind → Int → Int → Int := (Classical.choice quoN).1
theorem quo_eq (k : IntKind) (a b : Int) : quo k a b = k.wrap (a.tdiv b) := by unfold quo; rw [(Classical.choice quoN).2]
theorem remN : Nonempty {f : Int → Int → Int // f = fun a b => a.tmod b} := ⟨⟨_, rfl⟩⟩
noncomputable def rem : Int → Int → Int := (Classical.choice remN).1
theorem rem_eq (a b : Int) : rem a b = a.tmod b := by unfold rem; rw [(Classical.choice remN).2]
theorem andN : Nonempty {f : IntKind → Int → Int → Int // f = fun k a b => k.wrap (BitVec.ofInt k.bits a &&& BitVec.ofInt k.bits b).toNat} := ⟨⟨_, rfl⟩⟩
noncomputable def and : IntKind → Int → Int → Int := (Classical.choice andN).1
theorem and_eq (k : IntKind) (a b : Int) : and k a b = k.wrap (BitVec.ofInt k.bits a &&& BitVec.ofInt k.bits b).toNat := by unfold and; rw [(Classical.choice andN).2]
theorem orN : Nonempty {f : IntKind → Int → Int → Int // f = fun k a b => k.wrap (BitVec.ofInt k.bits a ||| BitVec.ofInt k.bits b).toNat} := ⟨⟨_, rfl⟩⟩
noncomputable def or : IntKind → Int → Int → Int := (Classical.choice orN).1
theorem or_eq (k : IntKind) (a b : Int) : or k a b = k.wrap (BitVec.ofInt k.bits a ||| BitVec.ofInt k.bits b).toNat := by unfold or; rw [(Classical.choice orN).2]
theorem xorN : Nonempty {f : IntKind → Int → Int → Int // f = fun k a b => k.wrap (BitVec.ofInt k.bits a ^^^ BitVec.ofInt k.bits b).toNat} := ⟨⟨_, rfl⟩⟩
noncomputable def xor : IntKind → Int → Int → Int := (Classical.choice xorN).1
theorem xor_eq (k : IntKind) (a b : Int) : xor k a b = k.wrap (BitVec.ofInt k.bits a ^^^ BitVec.ofInt k.bits b).toNat := by unfold xor; rw [(Classical.choice xorN).2]
theorem mmN : Nonempty {f : Bool → Int → Int → Int // f = fun mx x y => if mx then (if y > x then y else x) else (if y < x then y else x)} := ⟨⟨_, rfl⟩⟩
noncomputable def mm : Bool → Int → Int → Int := (Classical.choice mmN).1
theorem mm_eq (mx : Bool) (x y : Int) : mm mx x y = (if mx then (if y > x then y else x) else (if y < x then y else x)) := by unfold mm; rw [(Classical.choice mmN).2]
theorem toNatN : Nonempty {f : Int → Nat // f = fun a => a.toNat} := ⟨⟨_, rfl⟩⟩
noncomputable def toNat : Int → Nat := (Classical.choice toNatN).1
theorem toNat_eq (a : Int) : toNat a = a.toNat := by unfold toNat; rw [(Classical.choice toNatN).2]
theorem eqN : Nonempty {f : Int → Int → Bool // f = fun a b => a == b} := ⟨⟨_, rfl⟩⟩
noncomputable def eq : Int → Int → Bool := (Classical.choice eqN).1
theorem eq_eq (a b : Int) : eq a b = (a == b) := by unfold eq; rw [(Classical.choice eqN).2]
theorem neN : Nonempty {f : Int → Int → Bool // f = fun a b => a != b} := ⟨⟨_, rfl⟩⟩
noncomputable def ne : Int → Int → Bool := (Classical.choice neN).1
theorem ne_eq (a b : Int) : ne a b = (a != b) := by unfold ne; rw [(Classical.choice neN).2]
theorem ltN : Nonempty {f : Int → Int → Bool // f = fun a b => decide (a < b)} := ⟨⟨_, rfl⟩⟩
noncomputable def lt : Int → Int → Bool := (Classical.choice ltN).1
theorem lt_eq (a b : Int) : lt a b = decide (a < b) := by unfold lt; rw [(Classical.choice ltN).2]
theorem leN : Nonempty {f : Int → Int → Bool // f = fun a b => decide (a ≤ b)} := ⟨⟨_, rfl⟩⟩
noncomputable def le : Int → Int → Bool := (Classical.choice leN).1
theorem le_eq (a b : Int) : le a b = decide (a ≤ b) := by unfold le; rw [(Classical.choice leN).2]
theorem gtN : Nonempty {f : Int → Int → Bool // f = fun a b => decide (a > b)} := ⟨⟨_, rfl⟩⟩
noncomputable def gt : Int → Int → Bool := (Classical.choice gtN).1
theorem gt_eq (a b : Int) : gt a b = decide (a > b) := by unfold gt; rw [(Classical.choice gtN).2]
theorem geN : Nonempty {f : Int → Int → Bool // f = fun a b => decide (a ≥ b)} := ⟨⟨_, rfl⟩⟩
noncomputable def ge : Int → Int → Bool := (Classical.choice geN).1
theorem ge_eq (a b : Int) : ge a b = decide (a ≥ b) := by unfold ge; rw [(Classical.choice geN).2]
theorem beqN : Nonempty {f : Bool → Bool → Bool // f = fun a b => a == b} := ⟨⟨_, rfl⟩⟩
noncomputable def beq : Bool → Bool → Bool := (Classical.choice beqN).1
theorem beq_eq (a b : Bool) : beq a b = (a == b) := by unfold beq; rw [(Classical.choice beqN).2]
theorem notN : Nonempty {f : Bool → Bool // f = fun a => !a} := ⟨⟨_, rfl⟩⟩
noncomputable def not : Bool → Bool := (Classical.choice notN).1
theorem not_eq (a : Bool) : not a = (!a) := by unfold not; rw [(Classical.choice notN).2]
theorem andbN : Nonempty {f : Bool → Bool → Bool // f = fun a b => a && b} := ⟨⟨_, rfl⟩⟩
noncomputable def andb : Bool → Bool → Bool := (Classical.choice andbN).1
theorem andb_eq (a b : Bool) : andb a b = (a && b) := by unfold andb; rw [(Classical.choice andbN).2]
theorem pickN : Nonempty {f : Bool → Bool → Bool → Bool // f = fun c a b => cond c a b} := ⟨⟨_, rfl⟩⟩
noncomputable def pick : Bool → Bool → Bool → Bool := (Classical.choice pickN).1
theorem pick_eq (c a b : Bool) : pick c a b = (cond c a b) := by unfold pick; rw [(Classical.choice pickN).2]
theorem seqN : Nonempty {f : ByteArray → ByteArray → Bool // f = fun a b => a.toList == b.toList} := ⟨⟨_, rfl⟩⟩
noncomputable def seq : ByteArray → ByteArray → Bool := (Classical.choice seqN).1
theorem seq_eq (a b : ByteArray) : seq a b = (a.toList == b.toList) := by unfold seq; rw [(Classical.choice seqN).2]
end U

/-- A symbolic value: numbers and Bools are Lean terms; pointers name blocks of the call's own by small numbers. -/
inductive SV where
  | any
  | lit (v : Value)
  | kb (b : Bool)
  | ki (k : IntKind) (n : Int)
  | ptr (b off : Nat)
  | agg (cs : List SV)
  | tup (vs : List SV)
  | fn (f : Fn) (first cap : List SV)
  | own (z : Bool) (b n : Nat)
  | optr (b i off k : Nat)
  | row (n k : Nat) (c : Nat → Nat → SV)
  | rptr (n k : Nat) (c : Nat → Nat → SV) (i off : Nat)

instance : Inhabited SV := ⟨.any⟩

/-- A tree of ways: tests over Bools, demands, results. -/
inductive T (α : Type) : Type where
  | ret (a : α)
  | br (c : Bool) (t e : T α)
  | ask (p : Prop) (t : T α)
  | stuck (why : Nat)

namespace T
variable {α β : Type}
def bind : T α → (α → T β) → T β
  | ret a, f => f a
  | br c t e, f => br c (bind t f) (bind e f)
  | ask p t, f => ask p (bind t f)
  | stuck n, _ => stuck n
def Is : T α → α → Prop
  | ret a, x => a = x
  | br c t e, x => (c = true ∧ Is t x) ∨ (c = false ∧ Is e x)
  | ask p t, x => p ∧ Is t x
  | stuck _, _ => False
def All (K : α → Prop) : T α → Prop
  | ret a => K a
  | br c t e => (c = true → All K t) ∧ (c = false → All K e)
  | ask p t => p ∧ All K t
  | stuck _ => False
theorem is_of_all {K : α → Prop} : ∀ {t : T α}, All K t → ∃ a, Is t a ∧ K a
  | ret a, h => ⟨a, rfl, h⟩
  | br c t e, h => by
    cases c with
    | true => obtain ⟨a, h1, h2⟩ := is_of_all (h.1 rfl); exact ⟨a, .inl ⟨rfl, h1⟩, h2⟩
    | false => obtain ⟨a, h1, h2⟩ := is_of_all (h.2 rfl); exact ⟨a, .inr ⟨rfl, h1⟩, h2⟩
  | ask p t, h => by obtain ⟨a, h1, h2⟩ := is_of_all h.2; exact ⟨a, ⟨h.1, h1⟩, h2⟩
  | stuck _, h => h.elim
theorem all_of_is {K : α → Prop} : ∀ {t : T α} {a : α}, Is t a → K a → All K t
  | ret a, x, h, k => by cases h; exact k
  | br c t e, x, h, k => by
    rcases h with ⟨rfl, h⟩ | ⟨rfl, h⟩
    · exact ⟨fun _ => all_of_is h k, fun h => by cases h⟩
    · exact ⟨fun h => (by cases h), fun _ => all_of_is h k⟩
  | ask p t, x, h, k => ⟨h.1, all_of_is h.2 k⟩
  | stuck _, x, h, k => h.elim
theorem is_bind : ∀ {t : T α} {f : α → T β} {b : β}, Is (bind t f) b → ∃ a, Is t a ∧ Is (f a) b
  | ret a, f, b, h => ⟨a, rfl, h⟩
  | br c t e, f, b, h => by
    rcases h with ⟨hc, h⟩ | ⟨hc, h⟩
    · obtain ⟨a, h1, h2⟩ := is_bind h; exact ⟨a, .inl ⟨hc, h1⟩, h2⟩
    · obtain ⟨a, h1, h2⟩ := is_bind h; exact ⟨a, .inr ⟨hc, h1⟩, h2⟩
  | ask p t, f, b, h => by obtain ⟨a, h1, h2⟩ := is_bind h.2; exact ⟨a, ⟨h.1, h1⟩, h2⟩
  | stuck _, f, b, h => h.elim
theorem bind_is : ∀ {t : T α} {f : α → T β} {a : α} {b : β}, Is t a → Is (f a) b → Is (bind t f) b
  | ret _, f, a, b, h, k => by cases h; exact k
  | br _ _ _, f, a, b, h, k => h.imp (fun h => ⟨h.1, bind_is h.2 k⟩) (fun h => ⟨h.1, bind_is h.2 k⟩)
  | ask _ _, f, a, b, h, k => ⟨h.1, bind_is h.2 k⟩
  | stuck _, f, a, b, h, k => h.elim
theorem all_mono {K K' : α → Prop} (hk : ∀ a, K a → K' a) : ∀ {t : T α}, All K t → All K' t
  | ret a, h => hk _ h
  | br c t e, h => ⟨fun hc => all_mono hk (h.1 hc), fun hc => all_mono hk (h.2 hc)⟩
  | ask p t, h => ⟨h.1, all_mono hk h.2⟩
  | stuck _, h => h
theorem is_unique : ∀ {t : T α} {a b : α}, Is t a → Is t b → a = b
  | ret _, a, b, h, k => h.symm.trans k
  | br c t e, a, b, h, k => by
    cases c
    · exact is_unique (h.resolve_left (by simp)).2 (k.resolve_left (by simp)).2
    · exact is_unique (h.resolve_right (by simp)).2 (k.resolve_right (by simp)).2
  | ask p t, a, b, h, k => is_unique h.2 k.2
  | stuck _, _, _, h, _ => h.elim
end T

/-- Where the blocks of the call's own lie: number; of a row: how many elements it holds at most, and how many it has. -/
abbrev Bs := Nat → Option (Nat × Nat × Nat)

/-- The greatest number of elements of a slice that is spoken of. -/
def top : Nat := 140737488351232

mutual
/-- What a symbolic value says of a value. -/
def Rep (bs : Bs) (lv : Nat → Prop) (w : World) : SV → Value → Prop
  | .any, _ => True
  | .lit u, v => v = u
  | .kb b, v => v = .bool b
  | .ki k n, v => v = .int k n
  | .ptr b off, v => ∃ x c, bs b = some (x, c) ∧ v = .pointer (some ⟨x, off, none⟩)
  | .agg cs, v => ∃ us : List Value, v = .agg us.toArray ∧ RepL bs lv w cs us
  | .tup cs, v => ∃ us : List Value, v = .tuple us.toArray ∧ RepL bs lv w cs us
  | .fn f as cs, v => ∃ us ts : List Value, v = .func f us.toArray ts.toArray ∧ RepL bs lv w as us ∧ RepL bs lv w cs ts
  | .own z b n, v => (z = true ∧ n = 0 ∧ v = .slice none 0 0) ∨ (z = false ∧ ∃ x c, bs b = some (x, c, n) ∧ v = .slice (some ⟨x, 0, none⟩) n c ∧ n ≤ c ∧ n ≤ top)
  | .optr b i off k, v => ∃ x c, bs b = some (x, c) ∧ v = .pointer (some ⟨x, i * k + off, none⟩)
  | .row n k c, v => ∃ a cap, v = .slice a n cap ∧ n ≤ cap ∧ n ≤ top ∧ (0 < n → ∃ x off, a = some ⟨x, off, none⟩ ∧ x < w.heap.size ∧ ¬ lv x ∧
      ∀ i, i < n → ∀ j, j < k → ∃ u, w.cell? ⟨x, off + i * k + j, none⟩ = some u ∧ u.oneCell' = true ∧ Rep (fun _ => none) lv w (c i j) u)
  | .rptr n k c i o, v => ∃ x off, v = .pointer (some ⟨x, off + i * k + o, none⟩) ∧ i < n ∧ x < w.heap.size ∧ ¬ lv x ∧
      ∀ i, i < n → ∀ j, j < k → ∃ u, w.cell? ⟨x, off + i * k + j, none⟩ = some u ∧ u.oneCell' = true ∧ Rep (fun _ => none) lv w (c i j) u
def RepL (bs : Bs) (lv : Nat → Prop) (w : World) : List SV → List Value → Prop
  | [], vs => vs = []
  | s :: ss, vs => ∃ u us, vs = u :: us ∧ Rep bs lv w s u ∧ RepL bs lv w ss us
end

section
variable {bs bs' : Bs} {lv lv' : Nat → Prop} {w w' : World}

theorem cell?_of_heap {x : Nat} (h : w'.heap[x]? = w.heap[x]?) (o : Nat) : w'.cell? ⟨x, o, none⟩ = w.cell? ⟨x, o, none⟩ :=
  World.cell?_of_block (w := w) h

mutual
theorem Rep.ext {bs bs' : Bs} (hb : ∀ b x, bs b = some x → bs' b = some x) (hl : ∀ x, x < w.heap.size → lv' x → lv x)
    (hw : ∀ x, x < w.heap.size → ¬ lv x → w'.heap[x]? = w.heap[x]?) (hs : w.heap.size ≤ w'.heap.size) :
    ∀ (s : SV) (v : Value), Rep bs lv w s v → Rep bs' lv' w' s v
  | .any, _, _ => trivial
  | .lit _, _, h => h
  | .kb _, _, h => h
  | .ki _ _, _, h => h
  | .ptr _ _, _, ⟨x, c, h1, h2⟩ => ⟨x, c, hb _ _ h1, h2⟩
  | .agg cs, _, ⟨us, h1, h2⟩ => ⟨us, h1, RepL.ext hb hl hw hs cs us h2⟩
  | .tup cs, _, ⟨us, h1, h2⟩ => ⟨us, h1, RepL.ext hb hl hw hs cs us h2⟩
  | .fn _ as cs, _, ⟨us, ts, h1, h2, h3⟩ => ⟨us, ts, h1, RepL.ext hb hl hw hs as us h2, RepL.ext hb hl hw hs cs ts h3⟩
  | .own _ _ _, _, h => h.imp id (fun ⟨h0, x, c, h1, h2⟩ => ⟨h0, x, c, hb _ _ h1, h2⟩)
  | .optr _ _ _ _, _, ⟨x, c, h1, h2⟩ => ⟨x, c, hb _ _ h1, h2⟩
  | .row n k c, _, ⟨a, cap, h1, h2, h2', h3⟩ => ⟨a, cap, h1, h2, h2', fun hn => by
      obtain ⟨x, off, g1, g2, g3, g4⟩ := h3 hn
      refine ⟨x, off, g1, Nat.lt_of_lt_of_le g2 hs, fun hx => g3 (hl x g2 hx), fun i hi j hj => ?_⟩
      obtain ⟨u, k1, k3, k2⟩ := g4 i hi j hj
      exact ⟨u, (cell?_of_heap (hw x g2 g3) _).trans k1, k3, Rep.ext (fun _ _ h => h) hl hw hs (c i j) u k2⟩⟩
  | .rptr n k c i o, _, ⟨x, off, g1, g0, g2, g3, g4⟩ => ⟨x, off, g1, g0, Nat.lt_of_lt_of_le g2 hs, fun hx => g3 (hl x g2 hx), fun i hi j hj => by
      obtain ⟨u, k1, k3, k2⟩ := g4 i hi j hj
      exact ⟨u, (cell?_of_heap (hw x g2 g3) _).trans k1, k3, Rep.ext (fun _ _ h => h) hl hw hs (c i j) u k2⟩⟩
theorem RepL.ext {bs bs' : Bs} (hb : ∀ b x, bs b = some x → bs' b = some x) (hl : ∀ x, x < w.heap.size → lv' x → lv x)
    (hw : ∀ x, x < w.heap.size → ¬ lv x → w'.heap[x]? = w.heap[x]?) (hs : w.heap.size ≤ w'.heap.size) :
    ∀ (s : List SV) (v : List Value), RepL bs lv w s v → RepL bs' lv' w' s v
  | [], _, h => h
  | s :: ss, _, ⟨u, us, h1, h2, h3⟩ => ⟨u, us, h1, Rep.ext hb hl hw hs s u h2, RepL.ext hb hl hw hs ss us h3⟩
end

theorem RepL.length : ∀ {ss : List SV} {vs : List Value}, RepL bs lv w ss vs → vs.length = ss.length
  | [], _, h => by cases h; rfl
  | s :: ss, _, ⟨u, us, h1, h2, h3⟩ => by subst h1; simp [RepL.length h3]

theorem RepL.get : ∀ {ss : List SV} {vs : List Value}, RepL bs lv w ss vs → ∀ (i : Nat) (s : SV), ss[i]? = some s → ∃ v, vs[i]? = some v ∧ Rep bs lv w s v
  | [], _, h, i, s, hs => by simp at hs
  | s :: ss, _, ⟨u, us, h1, h2, h3⟩, i, t, ht => by
    subst h1
    cases i with
    | zero => simp at ht; subst ht; exact ⟨u, rfl, h2⟩
    | succ i => simpa using h3.get i t (by simpa using ht)

theorem RepL.nil : RepL bs lv w [] [] := by unfold RepL; rfl
theorem RepL.cons {s : SV} {u : Value} {ss : List SV} {us : List Value} (h : Rep bs lv w s u) (h' : RepL bs lv w ss us) : RepL bs lv w (s :: ss) (u :: us) :=
  ⟨u, us, rfl, h, h'⟩
theorem repL_nil {vs : List Value} (h : RepL bs lv w [] vs) : vs = [] := h
theorem repL_cons {s : SV} {ss : List SV} {vs : List Value} (h : RepL bs lv w (s :: ss) vs) : ∃ u us, vs = u :: us ∧ Rep bs lv w s u ∧ RepL bs lv w ss us := h
theorem RepL.append : ∀ {ss : List SV} {vs : List Value} {ts : List SV} {us : List Value}, RepL bs lv w ss vs → RepL bs lv w ts us → RepL bs lv w (ss ++ ts) (vs ++ us)
  | [], _, ts, us, h, h' => by cases h; exact h'
  | s :: ss, _, ts, us, ⟨u, us', h1, h2, h3⟩, h' => by subst h1; exact .cons h2 (RepL.append h3 h')
theorem RepL.drop : ∀ (n : Nat) {ss : List SV} {vs : List Value}, RepL bs lv w ss vs → RepL bs lv w (ss.drop n) (vs.drop n)
  | 0, _, _, h => h
  | n + 1, [], _, h => by cases h; exact .nil
  | n + 1, s :: ss, _, ⟨u, us, h1, h2, h3⟩ => by subst h1; exact RepL.drop n h3
theorem RepL.take : ∀ (n : Nat) {ss : List SV} {vs : List Value}, RepL bs lv w ss vs → RepL bs lv w (ss.take n) (vs.take n)
  | 0, _, _, h => .nil
  | n + 1, [], _, h => by cases h; exact .nil
  | n + 1, s :: ss, _, ⟨u, us, h1, h2, h3⟩ => by subst h1; exact .cons h2 (RepL.take n h3)
theorem RepL.set : ∀ {ss : List SV} {vs : List Value} (i : Nat) {s : SV} {v : Value}, RepL bs lv w ss vs → Rep bs lv w s v → RepL bs lv w (ss.set i s) (vs.set i v)
  | [], _, i, s, v, h, h' => by cases h; exact .nil
  | t :: ss, _, 0, s, v, ⟨u, us, h1, h2, h3⟩, h' => by subst h1; exact .cons h' h3
  | t :: ss, _, i + 1, s, v, ⟨u, us, h1, h2, h3⟩, h' => by subst h1; exact .cons h2 (RepL.set i h3 h')
theorem RepL.getD {ss : List SV} {vs : List Value} (h : RepL bs lv w ss vs) (i : Nat) : Rep bs lv w (ss.getD i (.lit undef)) (vs.getD i undef) := by
  rw [List.getD_eq_getElem?_getD, List.getD_eq_getElem?_getD]
  cases hs : ss[i]? with
  | none =>
    have : vs[i]? = none := by rw [List.getElem?_eq_none_iff] at hs ⊢; rw [h.length]; exact hs
    rw [this]; exact rfl
  | some s => obtain ⟨v, hv, hr⟩ := h.get i s hs; rw [hv]; exact hr
theorem RepL.of_forall {ss : List SV} {vs : List Value} (hl : vs.length = ss.length) (h : ∀ (i : Nat) (s : SV) (v : Value), ss[i]? = some s → vs[i]? = some v → Rep bs lv w s v) : RepL bs lv w ss vs := by
  induction ss generalizing vs with
  | nil => cases vs with
    | nil => exact .nil
    | cons v vs => simp at hl
  | cons s ss ih => cases vs with
    | nil => simp at hl
    | cons v vs => exact .cons (h 0 s v rfl rfl) (ih (by simpa using hl) fun i s v h1 h2 => h (i + 1) s v (by simpa using h1) (by simpa using h2))
theorem RepL.replicate_lit (n : Nat) (v : Value) : RepL bs lv w (List.replicate n (.lit v)) (List.replicate n v) := by
  induction n with
  | zero => exact .nil
  | succ n ih => simp only [List.replicate_succ]; exact .cons rfl ih
theorem RepL.map_lit (vs : List Value) : RepL bs lv w (vs.map .lit) vs := by
  induction vs with
  | nil => exact .nil
  | cons v vs ih => simp only [List.map_cons]; exact .cons rfl ih
end

/-- The cells of a symbolic value. -/
def SV.cells : SV → List SV
  | .agg cs => cs
  | s => [s]

/-- A value written out as a symbolic one. -/
def SV.ofVal : Value → SV
  | .agg cs => .agg (cs.toList.map .lit)
  | .bool b => .kb b
  | .int k n => .ki k n
  | v => .lit v
theorem rep_ofVal {bs : Bs} {lv : Nat → Prop} {w : World} (v : Value) : Rep bs lv w (.ofVal v) v := by
  cases v <;> first | exact rfl | exact ⟨_, by simp, .map_lit _⟩

mutual
/-- Whether a value names no memory. -/
def SV.flat : SV → Bool
  | .lit _ | .kb _ | .ki _ _ => true
  | .agg cs => SV.flatL cs
  | .tup cs => SV.flatL cs
  | .fn _ as cs => SV.flatL as && SV.flatL cs
  | _ => false
def SV.flatL : List SV → Bool
  | [] => true
  | s :: ss => s.flat && SV.flatL ss
end
mutual
theorem Rep.flat {bs bs' : Bs} {lv lv' : Nat → Prop} {w w' : World} : ∀ (s : SV) (v : Value), s.flat = true → Rep bs lv w s v → Rep bs' lv' w' s v
  | .any, _, h, _ => trivial
  | .lit _, _, _, h => h
  | .kb _, _, _, h => h
  | .ki _ _, _, _, h => h
  | .ptr _ _, _, h, _ => by simp [SV.flat] at h
  | .agg cs, _, hf, ⟨us, h1, h2⟩ => ⟨us, h1, RepL.flat cs us (by simpa [SV.flat] using hf) h2⟩
  | .tup cs, _, hf, ⟨us, h1, h2⟩ => ⟨us, h1, RepL.flat cs us (by simpa [SV.flat] using hf) h2⟩
  | .fn _ as cs, _, hf, ⟨us, ts, h1, h2, h3⟩ => by
    simp only [SV.flat, Bool.and_eq_true] at hf
    exact ⟨us, ts, h1, RepL.flat as us hf.1 h2, RepL.flat cs ts hf.2 h3⟩
  | .own _ _ _, _, h, _ => by simp [SV.flat] at h
  | .optr _ _ _ _, _, h, _ => by simp [SV.flat] at h
  | .row _ _ _, _, h, _ => by simp [SV.flat] at h
  | .rptr _ _ _ _ _, _, h, _ => by simp [SV.flat] at h
theorem RepL.flat {bs bs' : Bs} {lv lv' : Nat → Prop} {w w' : World} : ∀ (s : List SV) (v : List Value), SV.flatL s = true → RepL bs lv w s v → RepL bs' lv' w' s v
  | [], _, _, h => h
  | s :: ss, _, hf, ⟨u, us, h1, h2, h3⟩ => by
    simp only [SV.flatL, Bool.and_eq_true] at hf
    exact ⟨u, us, h1, Rep.flat s u hf.1 h2, RepL.flat ss us hf.2 h3⟩
end

mutual
/-- Whether a value names no block of the call's own. -/
def SV.closed : SV → Bool
  | .lit _ | .kb _ | .ki _ _ | .row _ _ _ | .rptr _ _ _ _ _ => true
  | .agg cs => SV.closedL cs
  | .tup cs => SV.closedL cs
  | .fn _ as cs => SV.closedL as && SV.closedL cs
  | _ => false
def SV.closedL : List SV → Bool
  | [] => true
  | s :: ss => s.closed && SV.closedL ss
end
mutual
theorem Rep.closed {bs bs' : Bs} {lv : Nat → Prop} {w : World} : ∀ (s : SV) (v : Value), s.closed = true → Rep bs lv w s v → Rep bs' lv w s v
  | .any, _, h, _ => trivial
  | .lit _, _, _, h => h
  | .kb _, _, _, h => h
  | .ki _ _, _, _, h => h
  | .ptr _ _, _, h, _ => by simp [SV.closed] at h
  | .agg cs, _, hf, ⟨us, h1, h2⟩ => ⟨us, h1, RepL.closed cs us (by simpa [SV.closed] using hf) h2⟩
  | .tup cs, _, hf, ⟨us, h1, h2⟩ => ⟨us, h1, RepL.closed cs us (by simpa [SV.closed] using hf) h2⟩
  | .fn _ as cs, _, hf, ⟨us, ts, h1, h2, h3⟩ => by
    simp only [SV.closed, Bool.and_eq_true] at hf
    exact ⟨us, ts, h1, RepL.closed as us hf.1 h2, RepL.closed cs ts hf.2 h3⟩
  | .own _ _ _, _, h, _ => by simp [SV.closed] at h
  | .optr _ _ _ _, _, h, _ => by simp [SV.closed] at h
  | .row _ _ _, _, _, h => h
  | .rptr _ _ _ _ _, _, _, h => h
theorem RepL.closed {bs bs' : Bs} {lv : Nat → Prop} {w : World} : ∀ (s : List SV) (v : List Value), SV.closedL s = true → RepL bs lv w s v → RepL bs' lv w s v
  | [], _, _, h => h
  | s :: ss, _, hf, ⟨u, us, h1, h2, h3⟩ => by
    simp only [SV.closedL, Bool.and_eq_true] at hf
    exact ⟨u, us, h1, Rep.closed s u hf.1 h2, RepL.closed ss us hf.2 h3⟩
end

/-- Whether a symbolic value can't stand for an aggregate. -/
def SV.scalar : SV → Bool
  | .kb _ | .ki _ _ | .ptr _ _ | .fn _ _ _ | .own _ _ _ | .optr _ _ _ _ | .row _ _ _ | .rptr _ _ _ _ _ => true
  | .lit v => match v with | .agg _ | .tuple _ => false | _ => true
  | _ => false

theorem cells_rep {bs : Bs} {lv : Nat → Prop} {w : World} {s : SV} {v : Value} (h : Rep bs lv w s v) (hs : s.scalar = true) : v.cells = #[v] ∧ s.cells = [s] := by
  refine ⟨?_, by cases s <;> first | rfl | simp [SV.scalar] at hs⟩
  cases s with
  | any => simp [SV.scalar] at hs
  | lit u => obtain rfl : v = u := h; cases v <;> first | rfl | simp [SV.scalar] at hs
  | kb b => cases h; rfl
  | ki k n => cases h; rfl
  | ptr b off => obtain ⟨_, _, _, rfl⟩ := h; rfl
  | agg cs => simp [SV.scalar] at hs
  | tup cs => simp [SV.scalar] at hs
  | fn f a c => obtain ⟨_, _, rfl, _⟩ := h; rfl
  | own z b n => rcases h with ⟨_, _, rfl⟩ | ⟨_, _, _, _, rfl, _⟩ <;> rfl
  | optr _ _ _ _ => obtain ⟨_, _, _, rfl⟩ := h; rfl
  | row _ _ _ => obtain ⟨_, _, rfl, _⟩ := h; rfl
  | rptr _ _ _ _ _ => obtain ⟨_, _, rfl, _⟩ := h; rfl

end Go.RX
