/- append onto a row of the call's own, or onto nil; make; a slice out of its parts. -/
import Derived.Test.YtfcafajfllegaaaRXq
import Derived.Deep.Upon
set_option linter.unusedVariables false
set_option linter.unusedSimpArgs false
namespace Go.RX
open Go Go.RowKit

theorem RepC.to {lv lv' : Nat → Prop} {w w' : World} (hE : ∀ s d v, RepE lv w s d v → RepE lv' w' s d v) :
    ∀ (ss : List Sh) (d : Els ss) (o o' : Nat) (g g' : Nat → Option Value), (∀ j, j < ss.length → ∀ u, g (o + j) = some u → g' (o' + j) = some u) → RepC lv w g ss d o → RepC lv' w' g' ss d o'
  | [], _, _, _, _, _, _, _ => trivial
  | s :: ss, d, o, o', g, g', hg, ⟨⟨u, h1, h2⟩, h3⟩ => ⟨⟨u, hg 0 (by simp) u h1, hE _ _ _ h2⟩, RepC.to hE ss d.2 (o + 1) (o' + 1) g g' (fun j hj u hu => by
      rw [show o + 1 + j = o + (j + 1) by omega] at hu
      rw [show o' + 1 + j = o' + (j + 1) by omega]
      exact hg (j + 1) (by simp; omega) u hu) h3⟩

theorem Ext.repE {bs bs' : Bs} {lv lv' : Nat → Prop} {w w' : World} (h : Ext bs lv w bs' lv' w') (s : Sh) (d : El s) (v : Value) (hr : RepE lv w s d v) : RepE lv' w' s d v :=
  RepE.ext h.hlv h.heap h.size s d v hr

section
variable {P : Program} {lv0 : Nat → Prop} {w0 w : World} {bs : Bs} {D : Nat → Prop} {m : Nat → Option Blk} {nid : Nat}

/-- One cell after the other: the elements that were there, those that are put behind them. -/
theorem cat_rep {lv lv' : Nat → Prop} {w w' : World} (hE : ∀ s d v, RepE lv w s d v → RepE lv' w' s d v) {ss : List Sh} {n n2 : Nat} {f f2 : Nat → Els ss} {olds news : List Value} {g : Nat → Option Value}
    (ho : olds.length = n * ss.length) (hn : news.length = n2 * ss.length) (h1 : ∀ i, i < n → RepC lv w (fun o => olds[o]?) ss (f i) (i * ss.length)) (h2 : ∀ i, i < n2 → RepC lv w (fun o => news[o]?) ss (f2 i) (i * ss.length))
    (hg : ∀ j, j < (n + n2) * ss.length → g j = (olds ++ news)[j]?) : ∀ i, i < n + n2 → RepC lv' w' g ss (U.cat n f f2 i) (i * ss.length) := by
  intro i hi
  rw [U.cat_eq]
  have hbt : i * ss.length + ss.length ≤ (n + n2) * ss.length := by rw [← Nat.succ_mul]; exact Nat.mul_le_mul_right _ hi
  by_cases hin : i < n
  · rw [if_pos hin]
    have hbd : i * ss.length + ss.length ≤ n * ss.length := by rw [← Nat.succ_mul]; exact Nat.mul_le_mul_right _ hin
    refine RepC.to hE ss (f i) _ _ _ _ (fun j hj u hu => ?_) (h1 i hin)
    rw [hg _ (by omega), List.getElem?_append_left (by omega)]
    exact hu
  · rw [if_neg hin]
    have hbd : (i - n) * ss.length + ss.length ≤ n2 * ss.length := by rw [← Nat.succ_mul]; exact Nat.mul_le_mul_right _ (by omega)
    have hs : (i - n) * ss.length = i * ss.length - n * ss.length := Nat.sub_mul _ _ _
    have hle : n * ss.length ≤ i * ss.length := Nat.mul_le_mul_right _ (by omega)
    refine RepC.to hE ss (f2 (i - n)) _ _ _ _ (fun j hj u hu => ?_) (h2 (i - n) (by omega))
    have hu' : news[(i - n) * ss.length + j]? = some u := hu
    rw [hg _ (by omega), List.getElem?_append_right (by omega), ← hu']
    congr 1; omega

theorem size_zc (z : Array Value) (n : Nat) : (Builtin.zeroCells z n).size = n * z.size := by simp [Builtin.zeroCells]

/-- What an append comes to. -/
def Apd (lv0 : Nat → Prop) (w0 : World) (bs : Bs) (D : Nat → Prop) (m m' : Nat → Option Blk) (w : World) (nid : Nat) (z : Bool) (n : Nat) (r : Result Value) : Prop :=
  ∃ v w' bs', r = .ok v w' ∧ MInv lv0 w0 bs' (fun y => D y ∨ y = nid) m' w' ∧ Ext bs (live lv0 bs m) w bs' (live lv0 bs' m') w' ∧ Rep bs' (live lv0 bs' m') w' (.own z nid n) v

theorem append_nil (hi : MInv lv0 w0 bs D m w) (hD : ¬ D nid) {t tx ty e : TypeId} {i : TypeInfo} {z : Value} (ht : P.underlying t = some (.slice e)) (hin : P.info? e = some i) (hz : i.zero = some z) (hzs : z.cells.size = i.size)
    {ss : List Sh} (hk : ss.length = i.size) {n2 : Nat} {f2 : Nat → Els ss} {y : Value} (hy : Yld P (live lv0 bs m) w tx ss n2 f2 y) (h1 : 1 ≤ i.bytes) (hb : n2 * i.bytes ≤ top) :
    Apd lv0 w0 bs D m (upd m nid (some (.row (decide (n2 = 0)) n2 ss f2 e))) w nid (decide (n2 = 0)) n2 ((Builtin.append_ #[t, tx] ty #[.slice none 0 0, y]).run P w) := by
  obtain ⟨news, hs, hc⟩ := hy
  rw [hk] at hs
  have htop : n2 ≤ top := Nat.le_trans (by have := Nat.mul_le_mul_left n2 h1; omega) hb
  rcases Nat.eq_zero_or_pos n2 with rfl | hpos
  · have : news = [] := List.eq_nil_of_length_eq_zero (by rw [hs.newsLen]; simp)
    subst this
    obtain ⟨g1, g2⟩ := hi.newNil (ss := ss) (f := f2) (e := e) hD
    exact ⟨_, w, bs, run_append_nothing w t tx ty e i ht hin none 0 0 (Nat.le_refl _) y hs, by simpa using g1, by simpa using g2, .inl ⟨by simp, rfl, rfl⟩⟩
  · have hd : decide (n2 = 0) = false := by simp; omega
    rw [hd]
    have hr := run_append_grow_src (P := P) w t tx ty e i z ht hin hz none 0 0 [] (run_firstCells_none w.drew i.size 0 0 0) y n2 news hs (by omega) (by simp only [top] at htop; omega)
      (by rw [Nat.zero_add]; exact growslice_fits (by omega) (by simp only [top] at hb; omega))
    simp only [Nat.zero_add, List.nil_append] at hr
    have hge := grownCap_ge w n2 0 e
    have hgr : MInv lv0 w0 bs D m w.drew := hi.grow (Below.drew (Below.refl _ w))
    have hx0 := ext_grow bs (live lv0 bs m) (Below.drew (Below.refl _ w))
    have hsz : w.drew.heap.size = w.heap.size := rfl
    obtain ⟨cap, hcap⟩ : ∃ c, c = grownCap w n2 0 e := ⟨_, rfl⟩
    rw [← hcap] at hr hge
    obtain ⟨us, hus⟩ : ∃ us : List Value, us = news ++ (Builtin.zeroCells z.cells (cap - n2)).toList := ⟨_, rfl⟩
    have harr : (news.toArray ++ Builtin.zeroCells z.cells (cap - n2)) = us.toArray := by rw [hus]; apply Array.ext'; simp
    rw [harr] at hr
    have hul : us.length = cap * ss.length := by
      rw [hus]; simp [size_zc, hzs, hs.newsLen, hk]
      rw [← Nat.add_mul]; congr 1; omega
    obtain ⟨g1, g2⟩ := hgr.new (b := nid) hD (k := .row false n2 ss f2 e) (o := .cells us.toArray e) (cap := (cap, n2)) fun bs' lv' w' he ho hb' => .inr ⟨rfl, _, _, us, hb', ho, hul, hge, fun i hi => by
      have hbd : i * ss.length + ss.length ≤ n2 * ss.length := by rw [← Nat.succ_mul]; exact Nat.mul_le_mul_right _ hi
      refine RepC.to (fun s d v h => he.repE s d v (hx0.repE s d v h)) ss (f2 i) _ _ _ _ (fun j hj u hu => ?_) (hc i hi)
      rw [hus, List.getElem?_append_left (by rw [hs.newsLen, ← hk]; omega)]; exact hu⟩
    rw [hsz] at g1 g2
    exact ⟨_, _, _, hr, g1, hx0.trans g2, .inr ⟨rfl, w.heap.size, cap, by simp, rfl, hge, htop⟩⟩

theorem append_own (hi : MInv lv0 w0 bs D m w) (hD : ¬ D nid) {t tx ty e : TypeId} {i : TypeInfo} {z : Value} (ht : P.underlying t = some (.slice e)) (hin : P.info? e = some i) (hz : i.zero = some z) (hzs : z.cells.size = i.size)
    {ss : List Sh} (hk : ss.length = i.size) {n2 : Nat} {f f2 : Nat → Els ss} {y v : Value} (hy : Yld P (live lv0 bs m) w tx ss n2 f2 y) {b n : Nat} {z0 z1 : Bool} {n' : Nat} (hm : m b = some (.row z1 n' ss f e)) (hv : Rep bs (live lv0 bs m) w (.own z0 b n) v)
    (h1 : 1 ≤ i.bytes) (hb : (n + n2) * i.bytes ≤ top) :
    Apd lv0 w0 bs D m (upd (upd m b none) nid (some (.row (z0 && decide (n2 = 0)) (n + n2) ss (U.cat n f f2) e))) w nid (z0 && decide (n2 = 0)) (n + n2) ((Builtin.append_ #[t, tx] ty #[v, y]).run P w) := by
  have htop : n + n2 ≤ top := Nat.le_trans (by have := Nat.mul_le_mul_left (n + n2) h1; omega) hb
  rcases hv with ⟨rfl, rfl, rfl⟩ | ⟨rfl, x, cap, hbx, rfl, hle, hnt⟩
  · -- nil
    obtain ⟨d1, d2⟩ := hi.drop b
    obtain ⟨news, hs, hc⟩ := hy
    have hy' : Yld P (live lv0 bs (upd m b none)) w tx ss n2 (U.cat 0 f f2) y := ⟨news, hs, fun i hi => by
      rw [U.cat_eq, if_neg (by omega), Nat.sub_zero]
      exact RepC.to (fun s d v h => d2.repE s d v h) ss (f2 i) _ _ _ _ (fun j hj u hu => hu) (hc i hi)⟩
    obtain ⟨v', w', bs', h1, h2, h3, h4⟩ := append_nil (ty := ty) d1 hD ht hin hz hzs hk hy' h1 (by simpa using hb)
    simp only [Bool.true_and, Nat.zero_add]
    exact ⟨v', w', bs', h1, h2, d2.trans h3, h4⟩
  · simp only [Bool.false_and]
    rcases hi.blk _ _ hm with ⟨_, _, hb'⟩ | ⟨_, x', cap', us, hb', ho, hlen, hle', hc⟩
    · rw [hbx] at hb'; cases hb'
    rw [hbx] at hb'
    simp only [Option.some.injEq, Prod.mk.injEq] at hb'
    obtain ⟨rfl, rfl, rfl⟩ := hb'
    obtain ⟨news, hs, hcn⟩ := hy
    have hnl := hs.newsLen
    have hlk : n * ss.length ≤ us.length := by rw [hlen]; exact Nat.mul_le_mul_right _ hle
    have hol : (us.take (n * ss.length)).length = n * ss.length := by simp; omega
    have hco : ∀ i, i < n → RepC (live lv0 bs m) w (fun o => (us.take (n * ss.length))[o]?) ss (f i) (i * ss.length) := fun i hi => by
      have hbd : i * ss.length + ss.length ≤ n * ss.length := by rw [← Nat.succ_mul]; exact Nat.mul_le_mul_right _ hi
      refine RepC.to (fun s d v h => h) ss (f i) _ _ _ _ (fun j hj u hu => ?_) (hc i hi)
      rw [List.getElem?_take_of_lt (by omega)]; exact hu
    rw [hk] at hs
    by_cases hroom : n + n2 ≤ cap
    · -- there is room
      have hfit : n * ss.length + n2 * ss.length ≤ us.length := by rw [hlen, ← Nat.add_mul]; exact Nat.mul_le_mul_right _ hroom
      obtain ⟨new, hnew⟩ : ∃ new, new = us.take (n * ss.length) ++ news ++ us.drop (n * ss.length + news.length) := ⟨_, rfl⟩
      have hst := run_storeCells_at P x (n * ss.length) e news 0 us.toArray w ho (by simp; omega) hs.one
      simp only [Nat.add_zero] at hst
      have hrun : (Builtin.append_ #[t, tx] ty #[.slice (some ⟨x, 0, none⟩) n cap, y]).run P w = .ok (.slice (some ⟨x, 0, none⟩) (n + n2) cap) (w.setRow x new.toArray) := by
        rw [hnew]
        have hcl := hs.cells
        simp only [List.append_assoc] at hst
        rw [← hk] at hcl
        rcases hs.kind with ⟨e', hkk⟩ | hkk <;> simp [Builtin.append_, run_underlying ht, run_underlying hkk, sizeOf, typeInfo, hin, hs.len, hroom, hcl, Addr.add_lit, ← hk, hst]
      obtain ⟨g1, g2⟩ := hi.move (nid := nid) (cap' := (cap, n + n2)) (k := .row false (n + n2) ss (U.cat n f f2) e) hm hbx hD ho (new := new.toArray) fun bs' lv' w' he ho' hb' => .inr ⟨rfl, x, cap, new, hb', ho', by rw [hnew]; simp; omega, hroom,
        cat_rep (fun s d v h => he.repE s d v h) hol hnl hco hcn (fun j hj => by
          rw [hnew, List.getElem?_append_left]
          simp only [List.length_append, hol, hnl, ← Nat.add_mul]; exact hj)⟩
      exact ⟨_, _, _, hrun, g1, g2, .inr ⟨rfl, x, cap, by simp, rfl, hroom, htop⟩⟩
    · -- there is none
      have hold : (Builtin.firstCells i.size n (.slice (some ⟨x, 0, none⟩) n cap)).run P w.drew = .ok (us.take (n * ss.length)).toArray w.drew :=
        run_firstCells_some w.drew i.size n ⟨x, 0, none⟩ n cap (us.take (n * ss.length)) (by rw [hol, hk]) (fun j u hu => by
          rw [Addr.add_mk, Nat.zero_add]
          have hj : j < n * ss.length := by
            rcases Nat.lt_or_ge j (us.take (n * ss.length)).length with h | h
            · omega
            · rw [List.getElem?_eq_none h] at hu; cases hu
          rw [List.getElem?_take_of_lt hj] at hu
          show (w.drew).cell? ⟨x, j, none⟩ = some u
          have : w.drew.heap[x]? = some (.cells us.toArray e (0, 0)) := ho
          simp [World.cell?, this, hu])
      have hr := run_append_grow_src (P := P) w t tx ty e i z ht hin hz (some ⟨x, 0, none⟩) n cap _ hold y n2 news hs (by omega) (by simp only [top] at htop; omega)
        (growslice_fits (by omega) (by simp only [top] at hb; omega))
      have hge := grownCap_ge w (n + n2) cap e
      obtain ⟨d1, d2⟩ := hi.drop b
      have hgr : MInv lv0 w0 bs D (upd m b none) w.drew := d1.grow (Below.drew (Below.refl _ w))
      have hx0 := d2.trans (ext_grow bs (live lv0 bs (upd m b none)) (Below.drew (Below.refl _ w)))
      have hsz : w.drew.heap.size = w.heap.size := rfl
      obtain ⟨cap2, hcap⟩ : ∃ c, c = grownCap w (n + n2) cap e := ⟨_, rfl⟩
      rw [← hcap] at hr hge
      obtain ⟨us2, hus⟩ : ∃ us2 : List Value, us2 = us.take (n * ss.length) ++ news ++ (Builtin.zeroCells z.cells (cap2 - (n + n2))).toList := ⟨_, rfl⟩
      have harr : ((us.take (n * ss.length) ++ news).toArray ++ Builtin.zeroCells z.cells (cap2 - (n + n2))) = us2.toArray := by rw [hus]; apply Array.ext'; simp
      rw [harr] at hr
      have hul : us2.length = cap2 * ss.length := by
        rw [hus]
        simp only [List.length_append, hol, hnl, Array.length_toList, size_zc, hzs, ← hk]
        rw [← Nat.add_mul, ← Nat.add_mul]; congr 1; omega
      obtain ⟨g1, g2⟩ := hgr.new (b := nid) hD (k := .row false (n + n2) ss (U.cat n f f2) e) (o := .cells us2.toArray e) (cap := (cap2, n + n2)) fun bs' lv' w' he ho hb' => .inr ⟨rfl, _, _, us2, hb', ho, hul, hge,
        cat_rep (fun s d v h => he.repE s d v (hx0.repE s d v h)) hol hnl hco hcn (fun j hj => by
          rw [hus, List.getElem?_append_left]
          simp only [List.length_append, hol, hnl, ← Nat.add_mul]; exact hj)⟩
      rw [hsz] at g1 g2
      exact ⟨_, _, _, hr, g1, hx0.trans g2, .inr ⟨rfl, w.heap.size, cap2, by simp, rfl, hge, htop⟩⟩

/-- What a slice that is appended, or seen, has. -/
noncomputable def srcS (m : Nat → Option Blk) (ss : List Sh) (y : SV) : Option ((Nat × (Nat → Els ss)) × (List Nat × Bool)) :=
  match y with
  | .csl b off n _ =>
    match m b with
    | some (.cells cs _) =>
      match packs ss cs off n with
      | some l => bif Nat.ble (off + n * ss.length) cs.length then some ((n, ofList l), ([b], Nat.blt 0 n)) else none
      | none => none
    | _ => none
  | .own _ b n =>
    match m b with
    | some (.row _ _ ss' f _) => if h : eqShs ss' ss = true then some ((n, castEls h f), ([b], false)) else none
    | _ => none
  | .row ss' n f => if h : eqShs ss' ss = true then some ((n, castEls h f), ([], false)) else none
  | .lit (.slice none 0 0) => some ((0, fun _ => zeroEs ss), ([], false))
  | _ => none

theorem srcS_yld {tx e' : TypeId} (ht : P.underlying tx = some (.slice e')) (hi : MInv lv0 w0 bs D m w) {ss : List Sh} {y : SV} {v : Value} {n : Nat} {f : Nat → Els ss} {rd : List Nat} {kn : Bool} (h : srcS m ss y = some ((n, f), (rd, kn)))
    (hr : Rep bs (live lv0 bs m) w y v) : Yld P (live lv0 bs m) w tx ss n f v ∧ (kn = true → 0 < n) := by
  unfold srcS at h
  split at h
  · rename_i b off n2 s2
    split at h
    · rename_i cs e hm
      split at h
      · rename_i l hl
        cases hb : Nat.ble (off + n2 * ss.length) cs.length
        · rw [hb] at h; cases h
        · rw [hb] at h
          cases h
          exact ⟨yld_csl ht hi hm hl (Nat.le_of_ble_eq_true hb) hr, fun h => by rw [← Nat.blt_eq]; exact h⟩
      · cases h
    · cases h
  · rename_i z b n2
    split at h
    · rename_i z' n' ss' f' e hm
      split at h
      · rename_i he
        cases h
        have e := eqShs_eq _ _ he
        subst e
        exact ⟨yld_own ht hi hm hr, fun h => by cases h⟩
      · cases h
    · cases h
  · split at h
    · rename_i he
      cases h
      exact ⟨yld_row ht (castEls_rep he _ _ _ hr), fun h => by cases h⟩
    · cases h
  · cases h
    obtain rfl : v = _ := hr
    exact ⟨⟨[], Src.ofNil w ht 0, fun i hi => by omega⟩, fun h => by cases h⟩
  · cases h
end
end Go.RX
