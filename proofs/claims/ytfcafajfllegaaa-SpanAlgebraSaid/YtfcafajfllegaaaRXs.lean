/- The operations on rows: append, make, a slice out of its parts, a part of a slice. -/
import Derived.Test.YtfcafajfllegaaaRXr
set_option linter.unusedVariables false
set_option linter.unusedSimpArgs false
namespace Go.RX
open Go Go.RowKit

theorem madeCells_get (z : Array Value) (n j : Nat) (hj : j < n) (hz : 0 < z.size) : (madeCells z n)[j]? = z[j % z.size]? := by
  have := Nat.mod_lt j hz
  simp [madeCells, hj, this]

/-- append. -/
noncomputable def appendS (P : Program) (m : Nat → Option Blk) (nid : Nat) (t tx : TypeId) (x y : SV) : T Out :=
  match P.underlying t, P.underlying tx with
  | some (.slice e), some (.slice _) =>
    match P.info? e with
    | some i =>
      match i.zero with
      | some z =>
        bif Nat.beq z.cells.size i.size && Nat.ble 1 i.bytes then
          match x with
          | .lit (.slice none 0 0) =>
            match shape P e with
            | some ss =>
              bif Nat.beq ss.length i.size then
                match srcS m ss y with
                | some ((n2, f2), (rd, kn)) => .ask (n2 * i.bytes ≤ top) (.ret ⟨.own (bif kn then false else U.isz n2) nid n2, [(nid, some (.row (bif kn then false else U.isz n2) n2 ss f2 e))], rd, 1, false⟩)
                | none => .stuck 200
              else .stuck 201
            | none => .stuck 202
          | .own z0 b n =>
            match m b with
            | some (.row _ _ ss f e') =>
              bif Nat.beq e' e && Nat.beq ss.length i.size then
                match srcS m ss y with
                | some ((n2, f2), (rd, kn)) => .ask ((n + n2) * i.bytes ≤ top) (.ret ⟨.own (bif kn then false else U.andb z0 (U.isz n2)) nid (n + n2),
                    [(b, none), (nid, some (.row (bif kn then false else U.andb z0 (U.isz n2)) (n + n2) ss (U.cat n f f2) e))], b :: rd, 1, false⟩)
                | none => .stuck 203
              else .stuck 204
            | _ => .stuck 205
          | _ => .stuck 206
        else .stuck 207
      | none => .stuck 208
    | none => .stuck 209
  | _, _ => .stuck 210

section
variable {P : Program} {lv0 : Nat → Prop} {w0 w : World} {bs : Bs} {D : Nat → Prop} {m : Nat → Option Blk} {nid : Nat}

theorem news_one {x : Nat} : (D x ∨ x = nid) ↔ news D nid 1 x := by
  unfold news; constructor <;> intro h <;> rcases h with h | h <;> first | exact .inl h | (exact .inr (by omega))

theorem appendS_sound {t tx ty : TypeId} {x y : SV} {u v : Value} {out : Out} (hi : MInv lv0 w0 bs D m w) (h : (appendS P m nid t tx x y).Is out) (hD : 0 < out.nn → ¬ D nid) (hx : Rep bs (live lv0 bs m) w x u) (hy : Rep bs (live lv0 bs m) w y v) {r : Result Next}
    (hr : ∀ q w', (Builtin.append_ #[t, tx] ty #[u, v]).run P w = .ok q w' → r = .ok (.value q) w') : Yields lv0 w0 bs D m w nid out r := by
  unfold appendS at h
  split at h
  rotate_left
  · exact h.elim
  rename_i e e' ht htx
  split at h
  rotate_left
  · exact h.elim
  rename_i i hin
  split at h
  rotate_left
  · exact h.elim
  rename_i z hz
  cases hc : (Nat.beq z.cells.size i.size && Nat.ble 1 i.bytes)
  · rw [hc] at h; exact h.elim
  rw [hc] at h
  simp only [Bool.and_eq_true] at hc
  have hzs := Nat.eq_of_beq_eq_true hc.1
  have h1 := Nat.le_of_ble_eq_true hc.2
  simp only [cond_true] at h
  split at h
  · split at h
    rotate_left
    · exact h.elim
    rename_i ss hss
    cases hl : Nat.beq ss.length i.size
    · rw [hl] at h; exact h.elim
    rw [hl] at h
    have hl' := Nat.eq_of_beq_eq_true hl
    simp only [cond_true] at h
    split at h
    rotate_left
    · exact h.elim
    rename_i n2 f2 rd kn hs
    obtain ⟨hb, h⟩ := h
    obtain rfl : _ = out := h
    have hD := hD Nat.one_pos
    obtain ⟨hyl, hk⟩ := srcS_yld htx hi hs hy
    obtain rfl : u = _ := hx
    have ez : (bif kn then false else U.isz n2) = decide (n2 = 0) := by
      cases kn
      · simp [U.isz_eq]
      · have := hk rfl; simp; omega
    rw [ez]
    obtain ⟨v', w', bs', g1, g2, g3, g4⟩ := append_nil (ty := ty) hi hD ht hin hz hzs hl' hyl h1 hb
    exact ⟨v', w', bs', .inl (hr _ _ g1), by simpa [mupd] using g2.eqD (fun x => news_one), by simpa [mupd] using g3, by simpa [mupd] using g4⟩
  · rename_i z0 b n
    split at h
    rotate_left
    · exact h.elim
    rename_i z1 n' ss f e2 hm
    cases hl : (Nat.beq e2 e && Nat.beq ss.length i.size)
    · rw [hl] at h; exact h.elim
    rw [hl] at h
    simp only [Bool.and_eq_true] at hl
    obtain rfl := Nat.eq_of_beq_eq_true hl.1
    have hl' := Nat.eq_of_beq_eq_true hl.2
    simp only [cond_true] at h
    split at h
    rotate_left
    · exact h.elim
    rename_i n2 f2 rd kn hs
    obtain ⟨hb, h⟩ := h
    obtain rfl : _ = out := h
    have hD := hD Nat.one_pos
    obtain ⟨hyl, hk⟩ := srcS_yld htx hi hs hy
    have ez : (bif kn then false else U.andb z0 (U.isz n2)) = (z0 && decide (n2 = 0)) := by
      cases kn
      · simp [U.isz_eq, U.andb_eq]
      · have := hk rfl; simp; omega
    rw [ez]
    obtain ⟨v', w', bs', g1, g2, g3, g4⟩ := append_own (ty := ty) hi hD ht hin hz hzs hl' hyl hm hx h1 hb
    exact ⟨v', w', bs', .inl (hr _ _ g1), by simpa [mupd] using g2.eqD (fun x => news_one), by simpa [mupd] using g3, by simpa [mupd] using g4⟩
  · exact h.elim

/-- A slice out of its parts. -/
noncomputable def bslS (P : Program) (nid : Nat) (t : TypeId) (len : Nat) (parts : List (Nat × SV)) : T Out :=
  match P.underlying t with
  | some (.slice e) =>
    match P.info? e, (zeroS P e).bind cellsO with
    | some q, some z =>
      bif Nat.beq z.length q.size && Nat.blt 0 q.size && Nat.ble (len * q.size) 16777216 then
        bif Nat.beq len 0 then
          match shape P e, parts with
          | some ss, [] => .ret ⟨.own false nid 0, [(nid, some (.row false 0 ss (fun _ => zeroEs ss) e))], [], 1, false⟩
          | _, _ => .stuck 211
        else
          match fillS (fun i => some (i * q.size, q.size)) ((List.range (len * q.size)).map fun j => z.getD (j % z.length) .any) parts with
          | some cs => .ret ⟨.csl nid 0 len ((shape P e).getD []), [(nid, some (.cells cs e))], [], 1, false⟩
          | none => .stuck 212
      else .stuck 213
    | _, _ => .stuck 214
  | _ => .stuck 215

theorem bslS_sound {t : TypeId} {len : Nat} {parts : List (Nat × SV)} {vals : List (Nat × Value)} {out : Out} (hi : MInv lv0 w0 bs D m w) (h : (bslS P nid t len parts).Is out) (hD : 0 < out.nn → ¬ D nid)
    (hix : vals.map (·.1) = parts.map (·.1)) (hv : RepL bs (live lv0 bs m) w (parts.map (·.2)) (vals.map (·.2))) {r : Result Next}
    (hr : ∀ q w', (Instr.buildSlice t len vals.toArray).run P w = .ok q w' → r = .ok (.value q) w') : Yields lv0 w0 bs D m w nid out r := by
  unfold bslS at h
  split at h
  rotate_left
  · exact h.elim
  rename_i e ht
  split at h
  rotate_left
  · exact h.elim
  rename_i q z hq hz
  cases hc : (Nat.beq z.length q.size && Nat.blt 0 q.size && Nat.ble (len * q.size) 16777216)
  · rw [hc] at h; exact h.elim
  rw [hc] at h
  simp only [Bool.and_eq_true] at hc
  have hzl := Nat.eq_of_beq_eq_true hc.1.1
  have hpos : 0 < q.size := by rw [← Nat.blt_eq]; exact hc.1.2
  have hlim := Nat.le_of_ble_eq_true hc.2
  simp only [cond_true] at h
  have hlim' : ¬ (2 ^ 24 < len * q.size) := by omega
  cases hl0 : Nat.beq len 0
  · rw [hl0] at h
    simp only [cond_false] at h
    have hlen : len ≠ 0 := fun e => by subst e; simp at hl0
    split at h
    rotate_left
    · exact h.elim
    rename_i cs hf
    obtain rfl : _ = out := h
    have hD := hD Nat.one_pos
    obtain ⟨zs, hzs, hzc⟩ := Option.bind_eq_some_iff.1 hz
    obtain ⟨zv, hzr, hzrep⟩ := zeroS_sound (bs := bs) (lv := live lv0 bs m) (w := w) hzs
    obtain ⟨hcr, _⟩ := cellsO_rep hzrep hzc
    have hzvl : zv.cells.size = z.length := by have := hcr.length; simpa using this
    have hr0 : RepL bs (live lv0 bs m) w ((List.range (len * q.size)).map fun j => z.getD (j % z.length) .any) ((List.range (len * q.size)).map fun j => zv.cells.toList.getD (j % z.length) undef) := by
      refine RepL.of_forall (by simp) fun j s v hs hv => ?_
      simp only [List.getElem?_map, Option.map_eq_some_iff] at hs hv
      obtain ⟨a, ha, rfl⟩ := hs
      obtain ⟨b, hb, rfl⟩ := hv
      rw [ha] at hb; cases hb
      have hm : a % z.length < z.length := Nat.mod_lt _ (by omega)
      obtain ⟨v, h1, h2⟩ := hcr.get (a % z.length) (z[a % z.length]) (by simp [hm])
      rw [List.getD_eq_getElem?_getD, List.getD_eq_getElem?_getD, h1, List.getElem?_eq_getElem hm]
      exact h2
    obtain ⟨us', g1, g2⟩ := fillS_sound parts _ _ vals cs hf hr0 hix hv
    have hne : ¬ (len * q.size = 0) := by
      intro e; rcases Nat.mul_eq_zero.1 e with h | h <;> omega
    have hlen1 : 1 ≤ len := by omega
    have harr : ((Array.range (len * q.size)).map fun x => zv.cells[x % zv.cells.size]!) = ((List.range (len * q.size)).map fun j => zv.cells.toList.getD (j % z.length) undef).toArray := by
      apply Array.ext'
      simp only [Array.toList_map, Array.toList_range, List.map_toArray]
      refine List.map_congr_left fun a _ => ?_
      rw [hzvl]
      have hm : a % z.length < zv.cells.size := by rw [hzvl]; exact Nat.mod_lt _ (by omega)
      rw [getElem!_pos zv.cells _ hm, List.getD_eq_getElem?_getD, List.getElem?_eq_getElem (by simpa using hm)]
      simp
    obtain ⟨A, hA⟩ : ∃ A, A = ((List.range (len * q.size)).map fun j => zv.cells.toList.getD (j % z.length) undef).toArray := ⟨_, rfl⟩
    rw [← hA] at g1 harr
    have hrun : (Instr.buildSlice t len vals.toArray).run P w = .ok (.slice (some ⟨w.heap.size, 0, none⟩) len len) (w.alloc (.cells us'.toArray e)) := by
      simp [Instr.buildSlice, run_underlying ht, run_sizeOf' hq, hlim', hne, hzr, harr, g1, newRow]
    obtain ⟨k1, k2⟩ := hi.newCells hD e g2
    refine ⟨_, _, _, .inl (hr _ _ hrun), by simpa [mupd] using k1.eqD (fun x => news_one), by simpa [mupd] using k2, w.heap.size, (0, 0), len, by simp, rfl, Nat.le_refl _, ?_⟩
    have : len ≤ len * q.size := Nat.le_mul_of_pos_right _ hpos
    simp only [top]; omega
  · rw [hl0] at h
    obtain rfl := Nat.eq_of_beq_eq_true hl0
    simp only [cond_true] at h
    split at h
    rotate_left
    · exact h.elim
    rename_i ss hss
    obtain rfl : _ = out := h
    have hD := hD Nat.one_pos
    have : vals = [] := by simpa using hix
    subst this
    have hrun : (Instr.buildSlice t 0 #[]).run P w = .ok (.slice (some ⟨w.heap.size, 0, none⟩) 0 0) (w.alloc (.cells #[] e)) := by
      simp [Instr.buildSlice, run_underlying ht, run_sizeOf' hq, Instr.fill, newRow, Array.range_zero']
    obtain ⟨k1, k2⟩ := hi.new (b := nid) hD (k := .row false 0 ss (fun _ => zeroEs ss) e) (o := .cells #[] e) (cap := (0, 0)) fun bs' lv' w' he ho hb' => .inr ⟨rfl, _, 0, [], hb', ho, by simp, Nat.le_refl _, fun i hi => by omega⟩
    exact ⟨_, _, _, .inl (hr _ _ hrun), by simpa [mupd] using k1.eqD (fun x => news_one), by simpa [mupd] using k2, .inr ⟨rfl, w.heap.size, 0, by simp, rfl, Nat.le_refl _, Nat.zero_le _⟩⟩

/-- make. -/
noncomputable def makeS (P : Program) (nid : Nat) (t : TypeId) (l c : SV) : T Out :=
  match P.underlying t, l.asInt, c.asInt with
  | some (.slice e), some (_, l), some (_, c) =>
    match P.info? e, (zeroS P e).bind cellsO, shape P e with
    | some q, some z, some ss =>
      bif Nat.beq z.length q.size && Nat.blt 0 q.size && Nat.beq ss.length q.size then
        match packE ss z with
        | some d => .ask (0 ≤ l ∧ l ≤ c ∧ (q.bytes : Int) * c ≤ 281474976710656 ∧ c ≤ 140737488351232) (.ret ⟨.own false nid (U.toNat l), [(nid, some (.row false (U.toNat l) ss (fun _ => d) e))], [], 1, false⟩)
        | none => .stuck 216
      else .stuck 217
    | _, _, _ => .stuck 218
  | _, _, _ => .stuck 219

theorem makeS_sound {t : TypeId} {l c : SV} {u v : Value} {out : Out} (hi : MInv lv0 w0 bs D m w) (h : (makeS P nid t l c).Is out) (hD : 0 < out.nn → ¬ D nid) (hl : Rep bs (live lv0 bs m) w l u) (hc : Rep bs (live lv0 bs m) w c v) {r : Result Next}
    (hr : ∀ q w', (Instr.makeSlice t u v).run P w = .ok q w' → r = .ok (.value q) w') : Yields lv0 w0 bs D m w nid out r := by
  unfold makeS at h
  split at h
  rotate_left
  · exact h.elim
  rename_i e k1 l1 k2 c1 ht hl1 hc1
  obtain rfl := asInt_rep hl hl1
  obtain rfl := asInt_rep hc hc1
  split at h
  rotate_left
  · exact h.elim
  rename_i q z ss hq hz hss
  cases hb : (Nat.beq z.length q.size && Nat.blt 0 q.size && Nat.beq ss.length q.size)
  · rw [hb] at h; exact h.elim
  rw [hb] at h
  simp only [Bool.and_eq_true] at hb
  have hzl := Nat.eq_of_beq_eq_true hb.1.1
  have hpos : 0 < q.size := by rw [← Nat.blt_eq]; exact hb.1.2
  have hsl := Nat.eq_of_beq_eq_true hb.2
  simp only [cond_true] at h
  split at h
  rotate_left
  · exact h.elim
  rename_i d hd
  obtain ⟨⟨h0, hlc, hby, htop⟩, h⟩ := h
  obtain rfl : _ = out := h
  have hD := hD Nat.one_pos
  obtain ⟨zs, hzs, hzc⟩ := Option.bind_eq_some_iff.1 hz
  have hzs' := hzs
  simp only [zeroS, Option.map_eq_some_iff, Option.bind_eq_some_iff] at hzs'
  obtain ⟨zv, ⟨i, hi', hzz⟩, rfl⟩ := hzs'
  rw [hq] at hi'; cases hi'
  obtain ⟨hcr, _⟩ := cellsO_rep (bs := bs) (lv := live lv0 bs m) (w := w) (rep_ofVal zv) hzc
  have hzvl : zv.cells.size = z.length := by have := hcr.length; simpa using this
  have hrun := run_make (P := P) w t e q zv ht hq hzz k1 k2 l1 c1 h0 hlc hby (by omega)
  obtain ⟨us, hus⟩ : ∃ us : List Value, us = (madeCells zv.cells (c1.toNat * q.size)).toList := ⟨_, rfl⟩
  have e1 : madeCells zv.cells (c1.toNat * q.size) = us.toArray := by rw [hus]
  rw [e1] at hrun
  have hul : us.length = c1.toNat * q.size := by rw [hus]; simp [madeCells]
  obtain ⟨g1, g2⟩ := hi.new (b := nid) hD (k := .row false l1.toNat ss (fun _ => d) e) (o := .cells us.toArray e) (cap := (c1.toNat, l1.toNat)) fun bs' lv' w' he ho hb' => .inr ⟨rfl, _, c1.toNat, us, hb', ho, by rw [hul, hsl], by omega, fun i hi => by
    have hbd : i * ss.length + ss.length ≤ c1.toNat * ss.length := by rw [← Nat.succ_mul]; exact Nat.mul_le_mul_right _ (by omega)
    refine packE_rep ss d z zv.cells.toList _ _ hd (he.repL hcr) fun j hj => ?_
    simp only [Array.length_toList] at hj
    have hj' : i * ss.length + j < c1.toNat * q.size := by rw [← hsl]; omega
    have := madeCells_get zv.cells (c1.toNat * q.size) (i * ss.length + j) hj' (by omega)
    rw [hus]
    rw [Array.getElem?_toList, this, Array.getElem?_toList]
    congr 1
    rw [hzvl, hzl, ← hsl, Nat.mul_comm, Nat.mul_add_mod, Nat.mod_eq_of_lt (by omega)]⟩
  rw [U.toNat_eq]
  exact ⟨_, _, _, .inl (hr _ _ hrun), by simpa [mupd] using g1.eqD (fun x => news_one), by simpa [mupd] using g2, .inr ⟨rfl, w.heap.size, c1.toNat, by simp, rfl, by omega, by simp only [top]; omega⟩⟩

/-- A row of the call's own, as a slice that is read. -/
theorem own_row (hi : MInv lv0 w0 bs D m w) {lv : Nat → Prop} (hlv : ∀ x, lv x → live lv0 bs m x) {z z' : Bool} {b n n' : Nat} {ss : List Sh} {f : Nat → Els ss} {e : TypeId} {v : Value} (hm : m b = some (.row z' n' ss f e))
    (hx : ∀ x c, bs b = some (x, c) → ¬ lv x) (h : Rep bs (live lv0 bs m) w (.own z b n) v) : RepE lv w (.sl ss) (n, f) v := by
  rcases h with ⟨_, rfl, rfl⟩ | ⟨_, x, cap, hb, rfl, hle, htop⟩
  · exact ⟨none, 0, rfl, Nat.le_refl _, Nat.zero_le _, fun h => absurd h (Nat.lt_irrefl _)⟩
  · rcases hi.blk _ _ hm with ⟨_, _, hb'⟩ | ⟨_, x', cap', us, hb', ho, hlen, hle', hc⟩
    · rw [hb] at hb'; cases hb'
    · rw [hb] at hb'
      simp only [Option.some.injEq, Prod.mk.injEq] at hb'
      obtain ⟨rfl, rfl, rfl⟩ := hb'
      refine ⟨some ⟨x, 0, none⟩, cap, rfl, hle, htop, fun hn => ⟨x, 0, rfl, (hi.rng _ _ _ hb).2, hx x _ hb, fun i hi' => ?_⟩⟩
      refine RepC.to (fun s d v h => RepE.ext (fun x _ hx => hlv x hx) (fun _ _ _ => rfl) (Nat.le_refl _) s d v h) ss (f i) _ _ _ _ (fun j hj u hu => ?_) (hc i hi')
      have hu' : us[i * ss.length + j]? = some u := hu
      show w.cell? ⟨x, 0 + i * ss.length + j, none⟩ = some u
      rw [Nat.zero_add]
      simp [World.cell?, ho, hu']

/-- Bounds of a part. -/
def boundI (o : Option SV) (d : Int) : Option Int :=
  match o with
  | none => some d
  | some s => (s.asInt).map (·.2)

/-- A part of a slice: the elements. -/
noncomputable def cutF {ss : List Sh} (low : Option SV) (f : Nat → Els ss) (l : Int) : Nat → Els ss :=
  match low with
  | none => f
  | some _ => fun i => f (i + U.toNat l)
noncomputable def cutN (low high : Option SV) (n : Nat) (l h : Int) : Nat :=
  match low, high with
  | none, none => n
  | none, some _ => U.toNat h
  | some _, none => n - U.toNat l
  | some _, some _ => U.toNat h - U.toNat l

/-- A part of a slice. -/
noncomputable def cutS (P : Program) (m : Nat → Option Blk) (t : TypeId) (x : SV) (low high : Option SV) : T Out :=
  match P.underlying t with
  | some (.slice e) =>
    match P.info? e, x with
    | some q, .row ss n f =>
      bif Nat.beq ss.length q.size then
        match boundI low 0, boundI high n with
        | some l, some h => .ask (0 ≤ l ∧ l ≤ h ∧ h ≤ (n : Int)) (.ret ⟨.row ss (cutN low high n l h) (cutF low f l), [], [], 0, false⟩)
        | _, _ => .stuck 220
      else .stuck 221
    | some q, .own _ b n =>
      match m b with
      | some (.row _ _ ss f _) =>
        bif Nat.beq ss.length q.size then
          match boundI low 0, boundI high n with
          | some l, some h => .ask (0 ≤ l ∧ l ≤ h ∧ h ≤ (n : Int)) (.ret ⟨.row ss (cutN low high n l h) (cutF low f l), [(b, none)], [b], 0, false⟩)
          | _, _ => .stuck 222
        else .stuck 223
      | _ => .stuck 224
    | _, _ => .stuck 225
  | _ => .stuck 226

theorem bound_val {lv : Nat → Prop} {o : Option SV} {vo : Option Value} {d h : Int} (h1 : ∀ s, o = some s → ∃ u, vo = some u ∧ Rep bs lv w s u) (h0 : o = none → vo = none) (h2 : boundI o d = some h) : (vo = none ∧ h = d) ∨ ∃ k, vo = some (.int k h) := by
  cases o with
  | none => simp only [boundI, Option.some.injEq] at h2; exact .inl ⟨h0 rfl, h2.symm⟩
  | some s =>
    obtain ⟨u, rfl, hu⟩ := h1 s rfl
    simp only [boundI, Option.map_eq_some_iff] at h2
    obtain ⟨⟨k, i⟩, hi, rfl⟩ := h2
    obtain rfl := asInt_rep hu hi
    exact .inr ⟨k, rfl⟩

theorem cut_row {lv : Nat → Prop} {t e : TypeId} {q : TypeInfo} {ss : List Sh} {n : Nat} {f : Nat → Els ss} {v : Value} {low high : Option SV} {vl vh : Option Value} {l h : Int} (ht : P.underlying t = some (.slice e)) (hq : P.info? e = some q) (hk : ss.length = q.size)
    (hr : RepE lv w (.sl ss) (n, f) v) (hlow : ∀ s, low = some s → ∃ u, vl = some u ∧ Rep bs lv w s u) (hlow0 : low = none → vl = none) (hhigh : ∀ s, high = some s → ∃ u, vh = some u ∧ Rep bs lv w s u) (hhigh0 : high = none → vh = none)
    (h1 : boundI low 0 = some l) (h2 : boundI high n = some h) (hb : 0 ≤ l ∧ l ≤ h ∧ h ≤ (n : Int)) :
    ∃ r, (Instr.slice t v vl vh none).run P w = .ok r w ∧ RepE lv w (.sl ss) (cutN low high n l h, cutF low f l) r := by
  obtain ⟨a, cap, rfl, hcap, htop, hc⟩ := hr
  simp only [] at hcap htop hc
  obtain ⟨hb0, hb1, hb2⟩ := hb
  have hvh := bound_val hhigh hhigh0 h2
  have hvl := bound_val hlow hlow0 h1
  have hfull : (Instr.slice t (.slice a n cap) vl vh none).run P w = .ok (.slice (if cap = l.toNat then a else a.map (·.add (l.toNat * q.size))) (h.toNat - l.toNat) (cap - l.toNat)) w := by
    have e1 : 0 ≤ h := by omega
    have e2 : h ≤ (cap : Int) := by omega
    have e3 : l.toNat ≤ h.toNat := by omega
    rcases hvh with ⟨rfl, rfl⟩ | ⟨k, rfl⟩ <;> rcases hvl with ⟨rfl, rfl⟩ | ⟨k', rfl⟩
    · simp [Instr.slice, Instr.sliceBounds, run_underlying ht, run_sizeOf' hq]
    · have e4 : l ≤ (n : Int) := hb1
      simp [Instr.slice, Instr.sliceBounds, Instr.sliceBound, asIntOf, run_underlying ht, run_sizeOf' hq, hb0, e4]
    · simp [Instr.slice, Instr.sliceBounds, Instr.sliceBound, asIntOf, run_underlying ht, run_sizeOf' hq, e1, e2]
    · have e4 : 0 ≤ l ∧ l ≤ max h 0 := by omega
      simp [Instr.slice, Instr.sliceBounds, Instr.sliceBound, asIntOf, run_underlying ht, run_sizeOf' hq, e1, e2, e4]
  clear hvh hvl
  refine ⟨_, hfull, ?_⟩
  have hn : cutN low high n l h = h.toNat - l.toNat := by
    cases low <;> cases high <;> simp only [cutN, boundI, Option.some.injEq, U.toNat_eq] at h1 h2 ⊢ <;> omega
  have hf : ∀ i, cutF low f l i = f (i + l.toNat) := fun i => by
    cases low <;> simp only [cutF, boundI, Option.some.injEq, U.toNat_eq] at h1 ⊢
    subst h1; simp
  rw [hn]
  refine ⟨_, _, rfl, by simp only []; omega, by simp only []; omega, fun hp => ?_⟩
  simp only [] at hp
  have hpn : 0 < n := by clear hc; omega
  obtain ⟨x, off, rfl, g2, g3, g4⟩ := hc hpn
  clear hc
  refine ⟨x, off + l.toNat * ss.length, ?_, g2, g3, fun i hi => ?_⟩
  · rw [if_neg (by omega), hk]; simp [Addr.add_mk]
  · simp only [] at hi ⊢
    rw [hf]
    have := g4 (i + l.toNat) (by omega)
    rw [Nat.add_mul] at this
    rw [show off + l.toNat * ss.length + i * ss.length = off + (i * ss.length + l.toNat * ss.length) by omega]
    exact this

theorem cutS_sound {t : TypeId} {x : SV} {v : Value} {low high : Option SV} {vl vh : Option Value} {out : Out} (hi : MInv lv0 w0 bs D m w) (h : (cutS P m t x low high).Is out) (hx : Rep bs (live lv0 bs m) w x v)
    (hlow : ∀ s, low = some s → ∃ u, vl = some u ∧ Rep bs (live lv0 bs m) w s u) (hlow0 : low = none → vl = none) (hhigh : ∀ s, high = some s → ∃ u, vh = some u ∧ Rep bs (live lv0 bs m) w s u) (hhigh0 : high = none → vh = none) {r : Result Next}
    (hr0 : ∀ q w', (Instr.sliceAt t v vl vh none).run P w = .ok q w' → r = .ok (.value q) w') : Yields lv0 w0 bs D m w nid out r := by
  unfold cutS at h
  split at h
  rotate_left
  · exact h.elim
  rename_i e ht
  have hr : ∀ q w', (Instr.slice t v vl vh none).run P w = .ok q w' → r = .ok (.value q) w' := fun q w' hq => hr0 q w' (by
    unfold Instr.sliceAt
    rw [Sem.run_bind, run_underlying ht, Result.andThen_ok]
    exact hq)
  split at h
  · rename_i q ss n f hq
    cases hk : Nat.beq ss.length q.size
    · rw [hk] at h; exact h.elim
    rw [hk] at h
    simp only [cond_true] at h
    split at h
    rotate_left
    · exact h.elim
    rename_i l hh h1 h2
    obtain ⟨hb, h⟩ := h
    obtain rfl : _ = out := h
    obtain ⟨r', g1, g2⟩ := cut_row ht hq (Nat.eq_of_beq_eq_true hk) hx hlow hlow0 hhigh hhigh0 h1 h2 hb
    exact yields_pure hi (hr _ _ g1) g2
  · rename_i q z b n hq
    split at h
    rotate_left
    · exact h.elim
    rename_i z' n' ss f e' hm
    cases hk : Nat.beq ss.length q.size
    · rw [hk] at h; exact h.elim
    rw [hk] at h
    simp only [cond_true] at h
    split at h
    rotate_left
    · exact h.elim
    rename_i l hh h1 h2
    obtain ⟨hb, h⟩ := h
    obtain rfl : _ = out := h
    obtain ⟨d1, d2⟩ := hi.drop b
    have hrow : RepE (live lv0 bs (upd m b none)) w (.sl ss) (n, f) v := own_row hi (fun x hx => by
      rcases hx with hx | ⟨c, k, cp, g1, g2⟩
      · exact .inl hx
      · by_cases e : c = b
        · subst e; simp at g1
        · rw [upd_other _ _ e] at g1; exact .inr ⟨c, k, cp, g1, g2⟩) hm (fun x c hbx hl => by
      rcases hl with hl | ⟨c', k, cp, g1, g2⟩
      · have := hi.amb x hl; have := (hi.rng _ _ _ hbx).1; omega
      · by_cases e : c' = b
        · subst e; simp at g1
        · rw [upd_other _ _ e] at g1; exact e (hi.inj _ _ _ _ _ _ _ g1 hm g2 hbx)) hx
    obtain ⟨r', g1, g2⟩ := cut_row (bs := bs) (low := low) (high := high) ht hq (Nat.eq_of_beq_eq_true hk) hrow (fun s hs => by obtain ⟨u, h1, h2⟩ := hlow s hs; exact ⟨u, h1, d2.rep h2⟩) hlow0 (fun s hs => by obtain ⟨u, h1, h2⟩ := hhigh s hs; exact ⟨u, h1, d2.rep h2⟩) hhigh0 h1 h2 hb
    exact ⟨r', w, bs, .inl (hr _ _ g1), by simpa [mupd] using d1.monoD (fun x => .inl), by simpa [mupd] using d2, by simpa [mupd] using (show Rep bs (live lv0 bs (upd m b none)) w (.row ss (cutN low high n l hh) (cutF low f l)) r' from g2)⟩
  · exact h.elim

/-- A slice of cells of the call's own, as a slice that is read. -/
theorem csl_row (hi : MInv lv0 w0 bs D m w) {lv : Nat → Prop} (hlv : ∀ x, lv x → live lv0 bs m x) {b off n : Nat} {ss' ss : List Sh} {cs : List SV} {e : TypeId} {l : List (Els ss)} {v : Value} (hm : m b = some (.cells cs e)) (hp : packs ss cs off n = some l)
    (hx : ∀ x c, bs b = some (x, c) → ¬ lv x) (h : Rep bs (live lv0 bs m) w (.csl b off n ss') v) : RepE lv w (.sl ss) (n, ofList l) v := by
  obtain ⟨x, c, cap, hb, rfl, hcap, htop⟩ := h
  obtain ⟨x', c', us, hb', ho, hr⟩ := hi.blk _ _ hm
  rw [hb] at hb'; cases hb'
  obtain ⟨p1, p2⟩ := mapM_get _ _ _ hp
  refine ⟨_, _, rfl, hcap, htop, fun hn => ⟨x, off, rfl, (hi.rng _ _ _ hb).2, hx x _ hb, fun i hi' => ?_⟩⟩
  have hi2 : i < n := hi'
  obtain ⟨d, hd, hpk⟩ := p2 i i (by simp [hi2])
  show RepC lv w _ ss (ofList l i) _
  rw [ofList_get l i d hd]
  have hr' : RepL bs lv w cs us := RepL.ext (fun _ _ h => h) (fun x _ hx => hlv x hx) (fun _ _ _ => rfl) (Nat.le_refl _) _ _ hr
  refine packE_rep ss d _ _ _ _ hpk ((hr'.drop (off + i * ss.length)).take ss.length) fun q hq => ?_
  simp only [List.length_take, List.length_drop] at hq
  rw [List.getElem?_take_of_lt (by omega), List.getElem?_drop]
  simp [World.cell?, ho]
end
end Go.RX
