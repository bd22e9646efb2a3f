/- Rooms made ahead: zeros put behind nil, a slice of the call's own cut to nothing. -/
import Derived.Test.YtfcafajfllegaaaRXs
import Derived.Lib.AppendZerosOnto
set_option linter.unusedVariables false
set_option linter.unusedSimpArgs false
namespace Go.RX
open Go Go.RowKit Go.Lib

section
variable {P : Program} {lv0 : Nat → Prop} {w0 w : World} {bs : Bs} {D : Nat → Prop} {m : Nat → Option Blk} {nid : Nat}

theorem setRow_same {x : Nat} {us : Array Value} {e : TypeId} (h : w.heap[x]? = some (.cells us e (0, 0))) : w.setRow x us = w := by
  obtain ⟨hlt, hx⟩ := Array.getElem?_eq_some_iff.1 h
  unfold World.setRow
  refine congrArg (fun hp => ({ w with heap := hp } : World)) (a₂ := w.heap) ?_
  apply Array.ext
  · simp
  · intro i h1 h2
    rw [Array.getElem_modify]
    split
    · rename_i hi; subst hi; rw [hx]
    · rfl

/-- append(nil, make(.., y)...). -/
noncomputable def appendZ (P : Program) (nid : Nat) (t tx : TypeId) (x y : SV) : T Out :=
  match P.underlying t, P.underlying tx, x, y.asInt with
  | some (.slice e), some (.int _), .lit (.slice none 0 0), some (_, k) =>
    match P.info? e, (zeroS P e).bind cellsO, shape P e with
    | some q, some z, some ss =>
      bif Nat.beq z.length q.size && Nat.blt 0 q.size && Nat.beq ss.length q.size && Nat.ble 1 q.bytes then
        match packE ss z with
        | some d => .ask (0 < k ∧ (q.bytes : Int) * k ≤ 140737488351232) (.ret ⟨.own false nid (U.toNat k), [(nid, some (.row false (U.toNat k) ss (fun _ => d) e))], [], 1, false⟩)
        | none => .stuck 230
      else .stuck 231
    | _, _, _ => .stuck 232
  | _, _, _, _ => .stuck 233

theorem appendZ_sound {t tx ty : TypeId} {x y : SV} {u v : Value} {out : Out} (hi : MInv lv0 w0 bs D m w) (h : (appendZ P nid t tx x y).Is out) (hD : 0 < out.nn → ¬ D nid) (hx : Rep bs (live lv0 bs m) w x u) (hy : Rep bs (live lv0 bs m) w y v) {r : Result Next}
    (hr : ∀ q w', (Builtin.append_ #[t, tx] ty #[u, v]).run P w = .ok q w' → r = .ok (.value q) w') : Yields lv0 w0 bs D m w nid out r := by
  unfold appendZ at h
  split at h
  rotate_left
  · exact h.elim
  rename_i e kn kq k ht htx hy1
  obtain rfl : u = _ := hx
  obtain rfl := asInt_rep hy hy1
  split at h
  rotate_left
  · exact h.elim
  rename_i q z ss hq hz hss
  cases hb : (Nat.beq z.length q.size && Nat.blt 0 q.size && Nat.beq ss.length q.size && Nat.ble 1 q.bytes)
  · rw [hb] at h; exact h.elim
  rw [hb] at h
  simp only [Bool.and_eq_true] at hb
  have hzl := Nat.eq_of_beq_eq_true hb.1.1.1
  have hpos : 0 < q.size := by rw [← Nat.blt_eq]; exact hb.1.1.2
  have hsl := Nat.eq_of_beq_eq_true hb.1.2
  have hby1 := Nat.le_of_ble_eq_true hb.2
  simp only [cond_true] at h
  split at h
  rotate_left
  · exact h.elim
  rename_i d hd
  obtain ⟨⟨h0, hby⟩, h⟩ := h
  obtain rfl : _ = out := h
  have hD1 := hD Nat.one_pos
  obtain ⟨zs, hzs, hzc⟩ := Option.bind_eq_some_iff.1 hz
  have hzs' := hzs
  simp only [zeroS, Option.map_eq_some_iff, Option.bind_eq_some_iff] at hzs'
  obtain ⟨zv, ⟨i, hi', hzz⟩, rfl⟩ := hzs'
  rw [hq] at hi'; cases hi'
  obtain ⟨hcr, _⟩ := cellsO_rep (bs := bs) (lv := live lv0 bs m) (w := w) (rep_ofVal zv) hzc
  have hzvl : zv.cells.size = z.length := by have := hcr.length; simpa using this
  obtain ⟨n, rfl⟩ : ∃ n : Nat, k = n := ⟨k.toNat, by omega⟩
  have hbn : n * q.bytes ≤ top := by
    have e1 : ((n * q.bytes : Nat) : Int) = (q.bytes : Int) * (n : Int) := by rw [Int.natCast_mul, Int.mul_comm]
    simp only [top]; omega
  have hnb : n ≤ n * q.bytes := Nat.le_mul_of_pos_right n (by omega)
  have hnt : n ≤ top := Nat.le_trans hnb hbn
  have hrun := run_append_grow_zeros (P := P) w t tx ty e q zv kq kn ht htx hq hzz none 0 0 [] (run_firstCells_none w.drew q.size 0 0 0) n (by omega) hpos (by omega) (by simp only [top] at hnt; omega) (by simp only [top] at hbn; omega)
    (by rw [Nat.zero_add]; exact growslice_fits (by omega) (by simp only [top] at hbn; omega))
  simp only [Nat.zero_add] at hrun
  have hge := grownCap_ge w n 0 e
  have hgr : MInv lv0 w0 bs D m w.drew := hi.grow (Below.drew (Below.refl _ w))
  have hx0 := ext_grow bs (live lv0 bs m) (Below.drew (Below.refl _ w))
  have hsz : w.drew.heap.size = w.heap.size := rfl
  obtain ⟨cap, hcap⟩ : ∃ c, c = grownCap w n 0 e := ⟨_, rfl⟩
  rw [← hcap] at hrun hge
  obtain ⟨us, hus⟩ : ∃ us : List Value, us = ((#[] : Array Value) ++ Builtin.zeroCells zv.cells n ++ Builtin.zeroCells zv.cells (cap - n)).toList := ⟨_, rfl⟩
  have harr : (([] : List Value).toArray ++ Builtin.zeroCells zv.cells n ++ Builtin.zeroCells zv.cells (cap - n)) = us.toArray := by rw [hus]
  rw [harr] at hrun
  have hul : us.length = cap * ss.length := by
    rw [hus]; simp [size_zc, hzvl, hzl, hsl]
    rw [← Nat.add_mul]; congr 1; omega
  obtain ⟨g1, g2⟩ := hgr.new (b := nid) hD1 (k := .row false n ss (fun _ => d) e) (o := .cells us.toArray e) (cap := (cap, n)) fun bs' lv' w' he ho hb' => .inr ⟨rfl, _, _, us, hb', ho, hul, hge, fun i hi => by
    have hbd : i * ss.length + ss.length ≤ n * ss.length := by rw [← Nat.succ_mul]; exact Nat.mul_le_mul_right _ hi
    refine packE_rep ss d z zv.cells.toList _ _ hd (he.repL (hx0.repL hcr)) fun j hj => ?_
    simp only [Array.length_toList] at hj
    have hj' : i * ss.length + j < n * zv.cells.size := by rw [hzvl, hzl, ← hsl]; rw [hzvl, hzl, ← hsl] at hj; omega
    have hg : us[i * ss.length + j]? = (Builtin.zeroCells zv.cells n)[i * ss.length + j]? := by
      rw [hus]
      simp only [Array.empty_append, Array.getElem?_toList]
      rw [Array.getElem?_append_left (by rw [size_zc]; exact hj')]
    rw [hg]
    have hmod : (i * ss.length + j) % zv.cells.size = j := by
      rw [hzvl, hzl, ← hsl, Nat.mul_comm, Nat.mul_add_mod, Nat.mod_eq_of_lt (by rw [hzvl, hzl, ← hsl] at hj; exact hj)]
    simp only [Builtin.zeroCells, Array.getElem?_map, Array.getElem?_range, hj', if_true, Option.map_some, hmod]
    rw [Array.getElem?_toList, getElem!_pos zv.cells j hj, Array.getElem?_eq_getElem hj]⟩
  rw [hsz] at g1 g2
  rw [U.toNat_eq, Int.toNat_natCast]
  exact ⟨_, _, _, .inl (hr _ _ hrun), by simpa [mupd] using g1.eqD (fun x => news_one), by simpa [mupd] using hx0.trans g2, .inr ⟨rfl, w.heap.size, cap, by simp, rfl, hge, hnt⟩⟩

/-- s[:0] of a slice of the call's own: nothing, but its room is kept. -/
noncomputable def cut0 (m : Nat → Option Blk) (nid : Nat) (x : SV) : T Out :=
  match x with
  | .own z b n =>
    match m b with
    | some (.row _ _ ss f e) => .ret ⟨.own z nid 0, [(b, none), (nid, some (.row z 0 ss f e))], [b], 1, false⟩
    | _ => .stuck 234
  | _ => .stuck 235

theorem cut0_sound {t e : TypeId} {q : TypeInfo} (ht : P.underlying t = some (.slice e)) (hq : P.info? e = some q) {x : SV} {v : Value} {k : IntKind} {out : Out} (hi : MInv lv0 w0 bs D m w) (h : (cut0 m nid x).Is out) (hD : 0 < out.nn → ¬ D nid) (hx : Rep bs (live lv0 bs m) w x v) {r : Result Next}
    (hr : ∀ q w', (Instr.slice t v none (some (.int k 0)) none).run P w = .ok q w' → r = .ok (.value q) w') : Yields lv0 w0 bs D m w nid out r := by
  unfold cut0 at h
  split at h
  rotate_left
  · exact h.elim
  rename_i z b n
  split at h
  rotate_left
  · exact h.elim
  rename_i z1 n1 ss f e1 hm
  obtain rfl : _ = out := h
  have hD1 := hD Nat.one_pos
  rcases hx with ⟨rfl, rfl, rfl⟩ | ⟨rfl, y, c, hbx, rfl, hle, htop⟩
  · obtain ⟨d1, d2⟩ := hi.drop b
    obtain ⟨g1, g2⟩ := d1.newNil (ss := ss) (f := f) (e := e1) hD1
    have hrun : (Instr.slice t (.slice none 0 0) none (some (.int k 0)) none).run P w = .ok (.slice none 0 0) w := by
      simp [Instr.slice, Instr.sliceBounds, Instr.sliceBound, asIntOf, run_underlying ht, run_sizeOf' hq]
    exact ⟨_, w, bs, .inl (hr _ _ hrun), by simpa [mupd] using g1.eqD (fun x => news_one), by simpa [mupd] using d2.trans g2, .inl ⟨rfl, rfl, rfl⟩⟩
  · rcases hi.blk _ _ hm with ⟨_, _, hb'⟩ | ⟨_, y', cap', us, hb', ho, hlen, hle', hc⟩
    · rw [hbx] at hb'; cases hb'
    rw [hbx] at hb'
    simp only [Option.some.injEq, Prod.mk.injEq] at hb'
    obtain ⟨rfl, rfl, rfl⟩ := hb'
    have hrun : (Instr.slice t (.slice (some ⟨y, 0, none⟩) n c) none (some (.int k 0)) none).run P w = .ok (.slice (some ⟨y, 0, none⟩) 0 c) w := by
      simp [Addr.add_mk, Instr.slice, Instr.sliceBounds, Instr.sliceBound, asIntOf, run_underlying ht, run_sizeOf' hq]
    obtain ⟨g1, g2⟩ := hi.move (nid := nid) (cap' := (c, 0)) (k := .row false 0 ss f e1) hm hbx hD1 ho (new := us.toArray) fun bs' lv' w' he ho' hb' => .inr ⟨rfl, y, c, us, hb', ho', hlen, Nat.zero_le _, fun i hi => by omega⟩
    rw [setRow_same ho] at g1 g2
    exact ⟨_, w, _, .inl (hr _ _ hrun), by simpa [mupd] using g1.eqD (fun x => news_one), by simpa [mupd] using g2, .inr ⟨rfl, y, c, by simp, rfl, Nat.zero_le _, Nat.zero_le _⟩⟩

noncomputable def appS (P : Program) (m : Nat → Option Blk) (nid : Nat) (t tx : TypeId) (x y : SV) : T Out :=
  match P.underlying tx with
  | some (.int _) => appendZ P nid t tx x y
  | _ => appendS P m nid t tx x y
theorem appS_sound {t tx ty : TypeId} {x y : SV} {u v : Value} {out : Out} (hi : MInv lv0 w0 bs D m w) (h : (appS P m nid t tx x y).Is out) (hD : 0 < out.nn → ¬ D nid) (hx : Rep bs (live lv0 bs m) w x u) (hy : Rep bs (live lv0 bs m) w y v) {r : Result Next}
    (hr : ∀ q w', (Builtin.append_ #[t, tx] ty #[u, v]).run P w = .ok q w' → r = .ok (.value q) w') : Yields lv0 w0 bs D m w nid out r := by
  unfold appS at h
  split at h
  · exact appendZ_sound hi h hD hx hy hr
  · exact appendS_sound hi h hD hx hy hr

noncomputable def sliceS (P : Program) (m : Nat → Option Blk) (nid : Nat) (t : TypeId) (x : SV) (low high : Option SV) : T Out :=
  match P.underlying t with
  | some (.slice e) =>
    match P.info? e, low, high, x with
    | some _, none, some (.ki _ (.ofNat 0)), .lit (.slice none 0 0) => pureO (.lit (.slice none 0 0))
    | some _, none, some (.ki _ (.ofNat 0)), .own z b n => cut0 m nid (.own z b n)
    | _, low, high, x => cutS P m t x low high
  | _ => cutS P m t x low high
theorem sliceS_sound {t : TypeId} {x : SV} {v : Value} {low high : Option SV} {vl vh : Option Value} {out : Out} (hi : MInv lv0 w0 bs D m w) (h : (sliceS P m nid t x low high).Is out) (hD : 0 < out.nn → ¬ D nid) (hx : Rep bs (live lv0 bs m) w x v)
    (hlow : ∀ s, low = some s → ∃ u, vl = some u ∧ Rep bs (live lv0 bs m) w s u) (hlow0 : low = none → vl = none) (hhigh : ∀ s, high = some s → ∃ u, vh = some u ∧ Rep bs (live lv0 bs m) w s u) (hhigh0 : high = none → vh = none) {r : Result Next}
    (hr0 : ∀ q w', (Instr.sliceAt t v vl vh none).run P w = .ok q w' → r = .ok (.value q) w') : Yields lv0 w0 bs D m w nid out r := by
  unfold sliceS at h
  split at h
  · rename_i e ht
    have hr : ∀ q w', (Instr.slice t v vl vh none).run P w = .ok q w' → r = .ok (.value q) w' := fun q w' hq => hr0 q w' (by
      unfold Instr.sliceAt
      rw [Sem.run_bind, run_underlying ht, Result.andThen_ok]
      exact hq)
    split at h
    · rename_i q k hq
      obtain rfl := hlow0 rfl
      obtain ⟨u, rfl, hu⟩ := hhigh _ rfl
      obtain rfl : u = .int k 0 := hu
      obtain rfl : v = _ := hx
      obtain rfl : _ = out := h
      refine yields_pure (v := .slice none 0 0) hi (hr _ _ ?_) rfl
      simp [Instr.slice, Instr.sliceBounds, Instr.sliceBound, asIntOf, run_underlying ht, run_sizeOf' hq]
    · rename_i q k z b n hq
      obtain rfl := hlow0 rfl
      obtain ⟨u, rfl, hu⟩ := hhigh _ rfl
      obtain rfl : u = .int k 0 := hu
      exact cut0_sound ht hq hi h hD hx hr
    · exact cutS_sound hi h hx hlow hlow0 hhigh hhigh0 hr0
  · exact cutS_sound hi h hx hlow hlow0 hhigh hhigh0 hr0
end
end Go.RX
