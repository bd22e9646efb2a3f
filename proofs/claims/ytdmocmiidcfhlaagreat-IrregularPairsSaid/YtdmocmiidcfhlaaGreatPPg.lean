/- slices.Sort on a slice of the call's own: what it writes. -/
import Derived.Test.YtdmocmiidcfhlaaGreatPPc
import Derived.Shelf.Sort.Plain
import Derived.Shelf.Slices.In.SortNone
import Derived.Sort.OwnSortedInts
import Derived.Test.YtdmocmiidcfhlaaGreatPPf
set_option linter.unusedVariables false
set_option linter.unusedSimpArgs false
namespace Go.RX.Span
open Go Go.RX Go.RowKit

/-- What lies in a block of the call's own is written anew; behind it lies what is new. -/
theorem minv_put {lv0 : Am} {w0 w w' : World} {bs : Bs} {D : Nat → Prop} {m : Nat → Option Blk} (h : MInv lv0 w0 bs D m w) {b x : Nat} {cap : Nat × Nat} {k0 k : Blk} (hb : m b = some k0) (hx : bs b = some (x, cap)) {old new : Array Value} {e : TypeId}
    (ho : w.heap[x]? = some (.cells old e (0, 0))) (hn : w'.heap[x]? = some (.cells new e (0, 0))) (ht : Turn (fun y => y = x) w w')
    (hk : ∀ (w' : World), Ext bs (live lv0 bs m) w bs (live lv0 bs (upd m b (some k))) w' → w'.heap[x]? = some (.cells new e (0, 0)) → BlkRep lv0 bs (live lv0 bs (upd m b (some k))) w' b k) (hns : k.isSeq = false := by rfl) (hnn : k.isNest = k0.isNest := by rfl) :
    MInv lv0 w0 bs D (upd m b (some k)) w' ∧ Ext bs (live lv0 bs m) w bs (live lv0 bs (upd m b (some k))) w' := by
  obtain ⟨g1, g2⟩ := h.set hb hx ho hk hns hnn
  have hB : Below (w.setRow x new).heap.size (w.setRow x new) w' := ⟨ht.os, ht.tape, ht.output, by simpa using ht.size, fun y hy => by
    by_cases e' : y = x
    · subst e'; rw [hn, setRow_heap _ _ _ _ _ _ ho]
    · rw [setRow_other _ _ _ _ e']; exact ht.heap y (by simpa using hy) e'⟩
  exact ⟨g1.grow hB, g2.trans (ext_grow _ _ hB)⟩

/-- The number that an element holds. -/
def at1 (f : Nat → Els [.int .i64]) (i : Nat) : Int := (f i).1
def listL (n : Nat) (f : Nat → Els [.int .i64]) : List Int := (List.range n).map (at1 f)
def srtL (n : Nat) (f : Nat → Els [.int .i64]) : List Int := (listL n f).mergeSort fun x y => decide (x ≤ y)
def srtF (n : Nat) (f : Nat → Els [.int .i64]) (i : Nat) : Els [.int .i64] := ((srtL n f).getD i 0, ())
theorem srtL_len (n : Nat) (f : Nat → Els [.int .i64]) : (srtL n f).length = n := by unfold srtL listL; rw [List.length_mergeSort]; simp
noncomputable def X_sort : List SV → Mem → T (SV × Mem) := fun args m => match args with
  | [.own z b n] =>
    match m.fn b with
    | some (.row z' n' [.int .i64] f e) => .ask (n' = n ∧ n ≤ 1000000) (.ret (.tup [], mset m b (some (.row z' n [.int .i64] (lk srtF n f) e))))
    | _ => .stuck 1
  | _ => .stuck 2
theorem X_sort_ok {ρ : Go.Shelf.Ren} (Ly : Go.Proofs.Lays.n189 P ρ) (h29 : ρ.f 189 = 48) : InlOK P 48 X_sort := by
  refine ⟨fun args m m' r h => ?_, fun args m m' r h lv0 w0 w bs vals hi hr => ?_⟩
  · unfold X_sort at h
    split at h
    · split at h
      · have h := (T.is_ask h).2
        obtain ⟨rfl, rfl⟩ := Prod.mk.inj (T.is_ret h)
        exact le_mset _ _ _
      · exact h.elim
    · exact h.elim
  · unfold X_sort at h
    split at h
    rotate_left
    · exact h.elim
    rename_i z b n
    split at h
    rotate_left
    · exact h.elim
    rename_i z' n' f e hm
    obtain ⟨rfl, hn⟩ := (T.is_ask h).1
    obtain ⟨rfl, rfl⟩ := Prod.mk.inj (T.is_ret (T.is_ask h).2)
    obtain ⟨v, us, rfl, hv, hus⟩ := hr
    obtain rfl : us = [] := hus
    have hlen : ∀ x, x < m.length → x < (mset m b (some (.row z' n' [.int .i64] (lk srtF n' f) e))).length := fun x hx => Nat.lt_of_lt_of_le hx (mset_len0 _ _ _)
    have hbk := hi.blk b _ hm
    have same : n' = 0 → ∀ (e' : Ending) (w' : World), e' = .returned (.tuple #[]) ∧ w' = w → ∃ v bs' lv1, e' = .returned v ∧ Grow lv0 lv1 ∧ MInv lv1 w0 bs' (· < (mset m b (some (.row z' n' [.int .i64] (lk srtF n' f) e))).length) (mset m b (some (.row z' n' [.int .i64] (lk srtF n' f) e))).fn w' ∧
        Ext bs (live lv0 bs m.fn) w bs' (live lv1 bs' (mset m b (some (.row z' n' [.int .i64] (lk srtF n' f) e))).fn) w' ∧ Rep bs' (live lv1 bs' (mset m b (some (.row z' n' [.int .i64] (lk srtF n' f) e))).fn) w' (.tup []) v := by
      rintro h0 e' w' ⟨rfl, rfl⟩
      subst h0
      obtain ⟨g1, g2⟩ := hi.retell (k := .row z' 0 [.int .i64] (lk srtF 0 f) e) hm rfl (by
        rcases hbk with hbk | ⟨h1, x, cap, us, h2, h3, h4, h5, h6⟩
        · exact .inl hbk
        · exact .inr ⟨h1, x, cap, us, h2, h3, h4, h5, fun i hi => absurd hi (Nat.not_lt_zero i)⟩)
      rw [mset_fn]
      exact ⟨_, bs, lv0, rfl, .refl _, g1.monoD hlen, g2, [], rfl, .nil⟩
    rcases hv with ⟨rfl, h0, rfl⟩ | ⟨rfl, x, c, hbx, rfl, hc, ht⟩
    · subst h0
      have := Go.Proofs.Any.slices_Sort_int_none Ly none 0 w
      rw [h29] at this
      exact this.mono (same rfl)
    · by_cases h0 : n' = 0
      · subst h0
        have := Go.Proofs.Any.slices_Sort_int_none Ly (some ⟨x, 0, none⟩) c w
        rw [h29] at this
        exact this.mono (same rfl)
      rcases hbk with ⟨_, _, hbk⟩ | ⟨hz, x', cap, us, h2, h3, h4, h5, h6⟩
      · rw [hbk] at hbx; cases hbx
      rw [h2] at hbx
      obtain ⟨rfl, rfl⟩ : x' = x ∧ cap = c := by cases hbx; exact ⟨rfl, rfl⟩
      have h4' : us.length = cap := by simpa using h4
      obtain ⟨zs, hzs⟩ : ∃ zs : List Int, zs = (List.range n').map (at1 f) := ⟨_, rfl⟩
      have hzl : zs.length = n' := by rw [hzs]; simp
      have hus : ∀ i, i < n' → us[i]? = some (.int .i64 (at1 f i)) := fun i hi => by
        obtain ⟨⟨u, g1, g2⟩, _⟩ := h6 i hi
        have g1 : us[i * 1]? = some u := g1
        rw [Nat.mul_one] at g1
        rw [g1]; exact congrArg some g2
      have hH := holds_of_blockI (ss := zs) h3 (by
        rw [hzl]
        apply List.ext_getElem?
        intro i
        by_cases hi : i < n'
        · rw [List.getElem?_take_of_lt hi]
          show us[i]? = _
          rw [hus i hi, hzs]; simp [hi]
        · rw [List.getElem?_take_eq_none (by omega), List.getElem?_eq_none (by simp; omega)])
      have hxs : x' < w.heap.size := (hi.rng b x' _ h2).2
      have hcon := Go.Proofs.Any.slices_Sort_int Ly x' 0 cap zs w hH hxs (by omega)
      rw [h29, hzl] at hcon
      have es : (zs.mergeSort fun x y => decide (x ≤ y)) = srtL n' f := by rw [hzs]; rfl
      rw [es] at hcon
      refine hcon.mono ?_
      rintro e' w' ⟨rfl, q, os, rfl⟩
      have hl := srtL_len n' f
      have hnew := heap_sortedI (n := q) (os := os) (srtL n' f).toArray h3
      have hg := grownBy_sortedI (w := w) (g := x') (n := q) (os := os) (srtL n' f).toArray
      obtain ⟨g1, g2⟩ := minv_put (k := .row z' n' [.int .i64] (lk srtF n' f) e) hi hm h2 h3 hnew ⟨hg.os, hg.tape, hg.output, hg.size, fun y hy hne => hg.block y hy (fun he => hne (by cases he; rfl))⟩ (fun w' he ho => by
        refine .inr ⟨hz, x', cap, (Go.Sort.putCells (Value.int .i64) 0 (srtL n' f).toArray us.toArray).toList, h2, by simpa using ho, by simp [Go.Sort.putCells, h4'], h5, fun i hi => ⟨⟨.int .i64 (lk srtF n' f i).1, ?_, rfl⟩, trivial⟩⟩
        show (Go.Sort.putCells (Value.int .i64) 0 (srtL n' f).toArray us.toArray).toList[i * 1]? = _
        rw [Nat.mul_one, Array.getElem?_toList, lk_eq]
        have hi' : i < us.length := by omega
        have hi2 : i < (srtL n' f).length := by omega
        simp [Go.Sort.putCells, srtF, hi', hi2])
      rw [mset_fn]
      exact ⟨_, bs, lv0, rfl, .refl _, g1.monoD hlen, g2, [], rfl, .nil⟩
end Go.RX.Span

