/- Blocks of the call's own: what is known of them, and how it is kept by new blocks, stores and draws. -/
import Derived.Test.YtfcafajfllegaaaRXa
import Derived.Laws.CopyRow
set_option linter.unusedVariables false
namespace Go.RX
open Go Go.RowKit

inductive Blk where
  | cells (cs : List SV) (e : TypeId)
  | row (z : Bool) (n : Nat) (ss : List Sh) (f : Nat → Els ss) (e : TypeId)

/-- What is known of the blocks: by their small numbers; with each, how often it was written. -/
abbrev Mem := List (Nat × Option Blk)

def BlkRep (bs : Bs) (lv : Nat → Prop) (w : World) (b : Nat) : Blk → Prop
  | .cells cs e => ∃ x c, ∃ us : List Value, bs b = some (x, c) ∧ w.heap[x]? = some (.cells us.toArray e (0, 0)) ∧ RepL bs lv w cs us
  | .row z n ss f e => (z = true ∧ n = 0 ∧ bs b = none) ∨ (z = false ∧ ∃ x cap, ∃ us : List Value, bs b = some (x, cap, n) ∧ w.heap[x]? = some (.cells us.toArray e (0, 0)) ∧ us.length = cap * ss.length ∧ n ≤ cap ∧
      ∀ i, i < n → RepC lv w (fun o => us[o]?) ss (f i) (i * ss.length))

/-- The blocks that may be written: what the surroundings forbid, and the live ones of the call's own. -/
def live (lv0 : Nat → Prop) (bs : Bs) (m : Nat → Option Blk) (x : Nat) : Prop := lv0 x ∨ ∃ b k c, m b = some k ∧ bs b = some (x, c)

structure MInv (lv0 : Nat → Prop) (w0 : World) (bs : Bs) (D : Nat → Prop) (m : Nat → Option Blk) (w : World) : Prop where
  below : Below w0.heap.size w0 w
  amb : ∀ x, lv0 x → x < w0.heap.size
  rng : ∀ b x c, bs b = some (x, c) → w0.heap.size ≤ x ∧ x < w.heap.size
  inj : ∀ b b' k k' x c c', m b = some k → m b' = some k' → bs b = some (x, c) → bs b' = some (x, c') → b = b'
  blk : ∀ b k, m b = some k → BlkRep bs (live lv0 bs m) w b k
  dom : ∀ b, ¬ D b → bs b = none ∧ m b = none

def upd {α : Type} (f : Nat → α) (b : Nat) (v : α) : Nat → α := fun x => if x = b then v else f x
@[simp] theorem upd_same {α : Type} (f : Nat → α) (b : Nat) (v : α) : upd f b v b = v := by simp [upd]
theorem upd_other {α : Type} (f : Nat → α) {b x : Nat} (v : α) (h : x ≠ b) : upd f b v x = f x := by simp [upd, h]

section
variable {lv0 : Nat → Prop} {w0 w w' : World} {bs bs' : Bs} {D : Nat → Prop} {m m' : Nat → Option Blk}

theorem blkRep_ext {lv lv' : Nat → Prop} {b : Nat} {k : Blk} (h : BlkRep bs lv w b k)
    (hb : ∀ b x, bs b = some x → bs' b = some x) (hl : ∀ x, x < w.heap.size → lv' x → lv x)
    (hw : ∀ x, x < w.heap.size → ¬ lv x → w'.heap[x]? = w.heap[x]?) (hs : w.heap.size ≤ w'.heap.size)
    (hx : ∀ x c, bs b = some (x, c) → w'.heap[x]? = w.heap[x]?) (hn : bs b = none → bs' b = none) : BlkRep bs' lv' w' b k := by
  cases k with
  | cells cs e =>
    obtain ⟨x, c, us, h1, h2, h3⟩ := h
    exact ⟨x, c, us, hb _ _ h1, (hx x c h1).trans h2, RepL.ext hb hl hw hs _ _ h3⟩
  | row z n ss f e =>
    rcases h with h | ⟨h0, x, cap, us, h1, h2, h3, h4, h5⟩
    · exact .inl ⟨h.1, h.2.1, hn h.2.2⟩
    · exact .inr ⟨h0, x, cap, us, hb _ _ h1, (hx _ _ h1).trans h2, h3, h4, fun i hi => RepC.ext hl hw hs _ _ _ _ _ (fun _ _ _ h => h) (h5 i hi)⟩

/-- A change of the world that leaves every block alone that was there. -/
theorem MInv.grow (h : MInv lv0 w0 bs D m w) (hw : Below w.heap.size w w') : MInv lv0 w0 bs D m w' where
  below := h.below.trans (hw.mono h.below.size)
  amb := h.amb
  rng := fun b x c hb => ⟨(h.rng b x c hb).1, Nat.lt_of_lt_of_le (h.rng b x c hb).2 hw.size⟩
  inj := h.inj
  blk := fun b k hk => blkRep_ext (h.blk b k hk) (fun _ _ h => h) (fun _ _ h => h) (fun x hx _ => hw.block x hx) hw.size (fun x c hb => hw.block x (h.rng b x c hb).2) id
  dom := h.dom

theorem Rep.grow {lv : Nat → Prop} {s : SV} {v : Value} (h : Rep bs lv w s v) (hw : Below w.heap.size w w') : Rep bs lv w' s v :=
  Rep.ext (fun _ _ h => h) (fun _ _ h => h) (fun x hx _ => hw.block x hx) hw.size s v h

/-- Going on from one state of knowledge to a later one. -/
structure Ext (bs : Bs) (lv : Nat → Prop) (w : World) (bs' : Bs) (lv' : Nat → Prop) (w' : World) : Prop where
  hbs : ∀ b x, bs b = some x → bs' b = some x
  hlv : ∀ x, x < w.heap.size → lv' x → lv x
  heap : ∀ x, x < w.heap.size → ¬ lv x → w'.heap[x]? = w.heap[x]?
  size : w.heap.size ≤ w'.heap.size
theorem Ext.refl (bs : Bs) (lv : Nat → Prop) (w : World) : Ext bs lv w bs lv w := ⟨fun _ _ h => h, fun _ _ h => h, fun _ _ _ => rfl, Nat.le_refl _⟩
theorem Ext.trans {bs bs' bs'' : Bs} {lv lv' lv'' : Nat → Prop} {w w' w'' : World} (h : Ext bs lv w bs' lv' w') (h' : Ext bs' lv' w' bs'' lv'' w'') : Ext bs lv w bs'' lv'' w'' where
  hbs b x hx := h'.hbs b x (h.hbs b x hx)
  hlv x hx hl := h.hlv x hx (h'.hlv x (Nat.lt_of_lt_of_le hx h.size) hl)
  heap x hx hl := (h'.heap x (Nat.lt_of_lt_of_le hx h.size) (fun hl' => hl (h.hlv x hx hl'))).trans (h.heap x hx hl)
  size := Nat.le_trans h.size h'.size
theorem Ext.rep {bs bs' : Bs} {lv lv' : Nat → Prop} {w w' : World} (h : Ext bs lv w bs' lv' w') {s : SV} {v : Value} (hr : Rep bs lv w s v) : Rep bs' lv' w' s v :=
  Rep.ext h.hbs h.hlv h.heap h.size s v hr
theorem Ext.rep0 {bs bs' : Bs} {lv lv' : Nat → Prop} {w w' : World} (h : Ext bs lv w bs' lv' w') {s : SV} {v : Value} (hr : Rep (fun _ => none) lv w s v) : Rep (fun _ => none) lv' w' s v :=
  Rep.ext (fun _ _ h => h) h.hlv h.heap h.size s v hr
theorem Rep.open_ {bs : Bs} {lv : Nat → Prop} {w : World} {s : SV} {v : Value} (hr : Rep (fun _ => none) lv w s v) : Rep bs lv w s v :=
  Rep.ext (fun _ _ h => by cases h) (fun _ _ h => h) (fun _ _ _ => rfl) (Nat.le_refl _) s v hr
theorem Ext.repL {bs bs' : Bs} {lv lv' : Nat → Prop} {w w' : World} (h : Ext bs lv w bs' lv' w') {s : List SV} {v : List Value} (hr : RepL bs lv w s v) : RepL bs' lv' w' s v :=
  RepL.ext h.hbs h.hlv h.heap h.size s v hr
theorem Ext.blk {bs bs' : Bs} {lv lv' : Nat → Prop} {w w' : World} (h : Ext bs lv w bs' lv' w') {b : Nat} {k : Blk} (hr : BlkRep bs lv w b k)
    (hx : ∀ x c, bs b = some (x, c) → w'.heap[x]? = w.heap[x]?) (hn : bs b = none → bs' b = none) : BlkRep bs' lv' w' b k :=
  blkRep_ext hr h.hbs h.hlv h.heap h.size hx hn

theorem ext_grow (bs : Bs) (lv : Nat → Prop) (hw : Below w.heap.size w w') : Ext bs lv w bs lv w' :=
  ⟨fun _ _ h => h, fun _ _ h => h, fun x hx _ => hw.block x hx, hw.size⟩

/-- A new block of the call's own, under the number b. -/
theorem MInv.new (h : MInv lv0 w0 bs D m w) {b : Nat} (hb : ¬ D b) {k : Blk} {o : Obj} {cap : Nat × Nat}
    (hk : ∀ (bs' : Bs) (lv' : Nat → Prop) (w' : World), Ext bs (live lv0 bs m) w bs' lv' w' → w'.heap[w.heap.size]? = some o → bs' b = some (w.heap.size, cap) → BlkRep bs' lv' w' b k) :
    MInv lv0 w0 (upd bs b (some (w.heap.size, cap))) (fun x => D x ∨ x = b) (upd m b (some k)) (w.alloc o) ∧
    Ext bs (live lv0 bs m) w (upd bs b (some (w.heap.size, cap))) (live lv0 (upd bs b (some (w.heap.size, cap))) (upd m b (some k))) (w.alloc o) := by
  have hbs : ∀ c x, bs c = some x → upd bs b (some (w.heap.size, cap)) c = some x := fun c x hx => by
    rw [upd_other]; exact hx
    intro e; subst e; rw [(h.dom c hb).1] at hx; cases hx
  have hlv : ∀ x, x < w.heap.size → live lv0 (upd bs b (some (w.heap.size, cap))) (upd m b (some k)) x → live lv0 bs m x := fun x hx hl => by
    rcases hl with hl | ⟨c, k1, cp, h1, h2⟩
    · exact .inl hl
    · by_cases e : c = b
      · subst e; simp at h2; omega
      · rw [upd_other _ _ e] at h1 h2; exact .inr ⟨c, k1, cp, h1, h2⟩
  have he : Ext bs (live lv0 bs m) w (upd bs b (some (w.heap.size, cap))) (live lv0 (upd bs b (some (w.heap.size, cap))) (upd m b (some k))) (w.alloc o) :=
    ⟨hbs, hlv, fun x hx _ => Below.heap_alloc _ _ _ hx, by simp⟩
  refine ⟨?_, he⟩
  exact {
    below := h.below.alloc h.below.size o
    amb := h.amb
    rng := fun c x cp hc => by
      by_cases e : c = b
      · subst e; simp at hc; obtain ⟨rfl, rfl⟩ := hc; exact ⟨h.below.size, by simp⟩
      · rw [upd_other _ _ e] at hc; have := h.rng c x cp hc; exact ⟨this.1, by simp; omega⟩
    inj := fun c c' k1 k2 x cp cp' h1 h2 h3 h4 => by
      by_cases e : c = b
      · by_cases e' : c' = b
        · rw [e, e']
        · subst e; simp at h3; obtain ⟨rfl, rfl⟩ := h3
          rw [upd_other _ _ e'] at h4
          exact absurd (h.rng _ _ _ h4).2 (Nat.lt_irrefl _)
      · by_cases e' : c' = b
        · subst e'; simp at h4; obtain ⟨rfl, rfl⟩ := h4
          rw [upd_other _ _ e] at h3
          exact absurd (h.rng _ _ _ h3).2 (Nat.lt_irrefl _)
        · rw [upd_other _ _ e] at h1 h3; rw [upd_other _ _ e'] at h2 h4; exact h.inj _ _ _ _ _ _ _ h1 h2 h3 h4
    blk := fun c k1 hc => by
      by_cases e : c = b
      · subst e; simp at hc; subst hc
        exact hk _ _ _ he (by show (w.heap.push o)[w.heap.size]? = some o; simp) (by simp)
      · rw [upd_other _ _ e] at hc
        exact he.blk (h.blk c k1 hc) (fun x cp hx => Below.heap_alloc _ _ _ (h.rng c x cp hx).2) (fun hn => by rw [upd_other _ _ e]; exact hn)
    dom := fun c hc => by
      have e : c ≠ b := fun e => hc (.inr e)
      rw [upd_other _ _ e, upd_other _ _ e]
      exact h.dom c fun h => hc (.inl h) }

theorem MInv.newCells (h : MInv lv0 w0 bs D m w) {b : Nat} (hb : ¬ D b) {cs : List SV} {us : List Value} (e : TypeId) (hr : RepL bs (live lv0 bs m) w cs us) :
    MInv lv0 w0 (upd bs b (some (w.heap.size, 0, 0))) (fun x => D x ∨ x = b) (upd m b (some (.cells cs e))) (w.alloc (.cells us.toArray e)) ∧
    Ext bs (live lv0 bs m) w (upd bs b (some (w.heap.size, 0, 0))) (live lv0 (upd bs b (some (w.heap.size, 0, 0))) (upd m b (some (.cells cs e)))) (w.alloc (.cells us.toArray e)) :=
  h.new hb fun bs' lv' w' he ho hb' => ⟨_, _, us, hb', ho, he.repL hr⟩

/-- What lies in a live block is written anew. -/
theorem MInv.set (h : MInv lv0 w0 bs D m w) {b x : Nat} {cap : Nat × Nat} {k0 k : Blk} (hb : m b = some k0) (hx : bs b = some (x, cap)) {old new : Array Value} {e : TypeId} (ho : w.heap[x]? = some (.cells old e (0, 0)))
    (hk : ∀ (w' : World), Ext bs (live lv0 bs m) w bs (live lv0 bs (upd m b (some k))) w' → w'.heap[x]? = some (.cells new e (0, 0)) → BlkRep bs (live lv0 bs (upd m b (some k))) w' b k) :
    MInv lv0 w0 bs D (upd m b (some k)) (w.setRow x new) ∧ Ext bs (live lv0 bs m) w bs (live lv0 bs (upd m b (some k))) (w.setRow x new) := by
  have hlv : ∀ y, live lv0 bs (upd m b (some k)) y → live lv0 bs m y := fun y hl => by
    rcases hl with hl | ⟨c, k1, cp, h1, h2⟩
    · exact .inl hl
    · by_cases e : c = b
      · subst e; exact .inr ⟨c, k0, cp, hb, h2⟩
      · rw [upd_other _ _ e] at h1; exact .inr ⟨c, k1, cp, h1, h2⟩
  have hxl : live lv0 bs m x := .inr ⟨b, k0, cap, hb, hx⟩
  have he : Ext bs (live lv0 bs m) w bs (live lv0 bs (upd m b (some k))) (w.setRow x new) :=
    ⟨fun _ _ h => h, fun y _ hl => hlv y hl, fun y hy hl => setRow_other _ _ _ _ (fun e => hl (e ▸ hxl)), by simp⟩
  refine ⟨?_, he⟩
  exact {
    below := h.below.trans ⟨rfl, rfl, rfl, by simp, fun y hy => setRow_other _ _ _ _ (fun e => by have := (h.rng b x cap hx).1; omega)⟩
    amb := h.amb
    rng := fun c y cp hc => by simpa using h.rng c y cp hc
    inj := fun c c' k1 k2 y cp cp' h1 h2 h3 h4 => by
      have g : ∀ c k1, upd m b (some k) c = some k1 → ∃ k2, m c = some k2 := fun c k1 hc => by
        by_cases e : c = b
        · subst e; exact ⟨k0, hb⟩
        · rw [upd_other _ _ e] at hc; exact ⟨_, hc⟩
      obtain ⟨_, g1⟩ := g c k1 h1
      obtain ⟨_, g2⟩ := g c' k2 h2
      exact h.inj _ _ _ _ _ _ _ g1 g2 h3 h4
    blk := fun c k1 hc => by
      by_cases e' : c = b
      · subst e'; simp at hc; subst hc
        exact hk _ he (setRow_heap _ _ _ _ _ _ ho)
      · rw [upd_other _ _ e'] at hc
        refine he.blk (h.blk c k1 hc) (fun y cp hy => setRow_other _ _ _ _ (fun e => ?_)) id
        subst e
        exact e' (h.inj _ _ _ _ _ _ _ hc hb hy hx)
    dom := fun c hc => by
      have e : c ≠ b := fun e => by subst e; have := (h.dom c hc).2; rw [hb] at this; cases this
      rw [upd_other _ _ e]
      exact h.dom c hc }

/-- A block is forgotten. -/
theorem MInv.drop (h : MInv lv0 w0 bs D m w) (b : Nat) : MInv lv0 w0 bs D (upd m b none) w ∧ Ext bs (live lv0 bs m) w bs (live lv0 bs (upd m b none)) w := by
  have hm : ∀ c k1, upd m b none c = some k1 → m c = some k1 := fun c k1 hc => by
    by_cases e : c = b
    · subst e; simp at hc
    · rwa [upd_other _ _ e] at hc
  have he : Ext bs (live lv0 bs m) w bs (live lv0 bs (upd m b none)) w :=
    ⟨fun _ _ h => h, fun y _ hl => hl.imp id (fun ⟨c, k1, cp, h1, h2⟩ => ⟨c, k1, cp, hm _ _ h1, h2⟩), fun _ _ _ => rfl, Nat.le_refl _⟩
  refine ⟨?_, he⟩
  exact { below := h.below, amb := h.amb, rng := h.rng
          inj := fun c c' k1 k2 x cp cp' h1 h2 h3 h4 => h.inj _ _ _ _ _ _ _ (hm _ _ h1) (hm _ _ h2) h3 h4
          blk := fun c k1 hc => he.blk (h.blk c k1 (hm _ _ hc)) (fun _ _ _ => rfl) id
          dom := fun c hc => ⟨(h.dom c hc).1, by
            by_cases e : c = b
            · subst e; simp
            · rw [upd_other _ _ e]; exact (h.dom c hc).2⟩ }

end
end Go.RX
