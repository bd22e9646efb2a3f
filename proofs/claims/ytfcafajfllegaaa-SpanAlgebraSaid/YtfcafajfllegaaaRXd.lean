/- The operations that are no calls of functions, all in one, and that they say what the model's do. -/
import Derived.Test.YtfcafajfllegaaaRXc
set_option linter.unusedVariables false
set_option linter.unusedSimpArgs false
namespace Go.RX
open Go Go.RowKit

def cellsO (s : SV) : Option (List SV) :=
  match s with
  | .agg cs => bif cs.all SV.scalar then some cs else none
  | s => bif s.scalar then some [s] else none

theorem scalar_one {bs : Bs} {lv : Nat → Prop} {w : World} {s : SV} {v : Value} (h : Rep bs lv w s v) (hs : s.scalar = true) : v.oneCell' = true := by
  have := (cells_rep h hs).1
  cases v <;> first | rfl | skip
  · rename_i cs
    exfalso
    cases s <;> simp [SV.scalar, Rep, RepE] at hs h
    subst h; simp at hs
  · rename_i cs
    exfalso
    cases s <;> simp [SV.scalar, Rep, RepE] at hs h
    subst h; simp at hs

theorem repL_one {bs : Bs} {lv : Nat → Prop} {w : World} : ∀ {cs : List SV} {us : List Value}, RepL bs lv w cs us → cs.all SV.scalar = true → ∀ v ∈ us, v.oneCell' = true
  | [], _, h, _, v, hv => by cases h; cases hv
  | s :: ss, _, ⟨u, us, h1, h2, h3⟩, ha, v, hv => by
    subst h1
    simp at ha
    rcases List.mem_cons.1 hv with rfl | hv
    · exact scalar_one h2 ha.1
    · exact repL_one h3 (by simpa using ha.2) v hv

theorem cellsO_rep {bs : Bs} {lv : Nat → Prop} {w : World} {s : SV} {v : Value} {cs : List SV} (h : Rep bs lv w s v) (hs : cellsO s = some cs) :
    RepL bs lv w cs v.cells.toList ∧ ∀ u ∈ v.cells.toList, u.oneCell' = true := by
  unfold cellsO at hs
  split at hs
  · rename_i cs'
    cases ha : cs'.all SV.scalar
    · rw [ha] at hs; cases hs
    · rw [ha] at hs; cases hs
      obtain ⟨us, rfl, hr⟩ := h
      exact ⟨by simpa [Value.cells] using hr, by simpa [Value.cells] using repL_one hr ha⟩
  · cases ha : s.scalar
    · rw [ha] at hs; cases hs
    · rw [ha] at hs; cases hs
      rw [(cells_rep h ha).1]
      exact ⟨.cons h .nil, by simpa using scalar_one h ha⟩

def newO (nid : Nat) (e : TypeId) (cs : List SV) : Out := ⟨.ptr nid 0, [(nid, some (.cells cs e))], [], 1, false⟩

def getIdx (s : SV) : Option Int := (s.asInt).map (·.2)

/-- A value of a block, out of its cells. -/
def loadCs (P : Program) (t : TypeId) (k off : Nat) (get : Nat → Option SV) : Option SV :=
  match P.info? t, P.underlying t with
  | some i, some d => bif aggD d then ((List.range i.size).mapM fun j => get (off + j)).map .agg else get off
  | _, _ => none

def loadS (P : Program) (m : Nat → Option Blk) (t : TypeId) (x : SV) : T (SV × List Nat) :=
  match x with
  | .ptr b off =>
    match m b with
    | some (.cells cs e) => (optS 20 (partO P t cs off)).bind fun s => .ret (s, [b])
    | _ => .stuck 21
  | .rptr ss n f i off => (optS 22 (loadCs P t ss.length off (getE ss (f i)))).bind fun s => .ret (s, [])
  | .optr b i off k =>
    match m b with
    | some (.row z n ss f e) =>
      bif Nat.beq k ss.length then .ask (i < n) ((optS 23 (loadCs P t k off (getE ss (f i)))).bind fun s => .ret (s, [b]))
      else .stuck 24
    | _ => .stuck 25
  | _ => .stuck 26

section
variable {P : Program} {lv0 : Nat → Prop} {w0 w : World} {bs : Bs} {D : Nat → Prop} {m : Nat → Option Blk} {nid : Nat}

theorem run_loadVar_cells {lv : Nat → Prop} {x off : Nat} {us : Array Value} {e : TypeId} {fr : Nat × Nat} {t : TypeId} {cs : List SV} {s : SV}
    (hx : w.heap[x]? = some (.cells us e fr)) (hr : RepL bs lv w cs us.toList) (h : partO P t cs off = some s) :
    ∃ v, (loadVar t ⟨x, off, none⟩).run P w = .ok v w ∧ Rep bs lv w s v := by
  unfold partO at h
  split at h
  · rename_i i d h1 h2
    cases hd : aggD d
    · simp only [hd, cond_false] at h
      obtain ⟨v, hv, hrv⟩ := hr.get _ _ h
      have hc : w.cell? ⟨x, off, none⟩ = some v := by simp [World.cell?, hx]; simpa using hv
      exact ⟨v, by simp [loadVar, run_isAgg h2, hd, hc], hrv⟩
    · simp only [hd, cond_true] at h
      cases hb : Nat.ble (off + i.size) cs.length
      · rw [hb] at h; cases h
      · simp only [hb, cond_true, Option.some.injEq] at h
        subst h
        have hle : off + i.size ≤ us.size := by have := hr.length; simp at this; have := Nat.le_of_ble_eq_true hb; omega
        have hl : (loadCells ⟨x, off, none⟩ ((us.toList.drop off).take i.size).length).run P w = .ok ((us.toList.drop off).take i.size).toArray w :=
          run_loadCells_list (P := P) w ⟨x, off, none⟩ _ (fun j v hv => by
            rw [Addr.add_mk]
            simp only [World.cell?, hx]
            rw [List.getElem?_take] at hv
            split at hv
            · simpa using hv
            · cases hv)
        have hlen : ((us.toList.drop off).take i.size).length = i.size := by simp; omega
        rw [hlen] at hl
        exact ⟨.agg ((us.toList.drop off).take i.size).toArray, by simp [loadVar, run_isAgg h2, hd, run_sizeOf' h1, hl], _, rfl, (hr.drop off).take _⟩
  · cases h

theorem run_loadVar_get {lv : Nat → Prop} {x o off : Nat} {t : TypeId} {k : Nat} {get : Nat → Option SV} {s : SV}
    (hg : ∀ j s, get j = some s → ∃ u, w.cell? ⟨x, o + j, none⟩ = some u ∧ Rep bs lv w s u) (h : loadCs P t k off get = some s) :
    ∃ v, (loadVar t ⟨x, o + off, none⟩).run P w = .ok v w ∧ Rep bs lv w s v := by
  unfold loadCs at h
  split at h
  · rename_i i d h1 h2
    cases hd : aggD d
    · simp only [hd, cond_false] at h
      obtain ⟨v, hv, hrv⟩ := hg _ _ h
      exact ⟨v, by simp [loadVar, run_isAgg h2, hd, hv], hrv⟩
    · simp only [hd, cond_true, Option.map_eq_some_iff] at h
      obtain ⟨cs, hcs, rfl⟩ := h
      have key : ∀ (l : List Nat) (cs : List SV), l.mapM (fun j => get (off + j)) = some cs → ∃ us : List Value, RepL bs lv w cs us ∧ us.length = l.length ∧ ∀ (j : Nat) (v : Value) (q : Nat), us[j]? = some v → l[j]? = some q → w.cell? ⟨x, o + off + q, none⟩ = some v := by
        intro l
        induction l with
        | nil => intro cs h; simp at h; subst h; exact ⟨[], .nil, rfl, fun j v q h => by simp at h⟩
        | cons a l ih =>
          intro cs h
          simp only [List.mapM_cons, Option.bind_eq_bind, Option.bind_eq_some_iff, Option.pure_def, Option.some.injEq] at h
          obtain ⟨s, hs, ss, hss, rfl⟩ := h
          obtain ⟨us, h1, h2, h3⟩ := ih ss hss
          obtain ⟨u, hu, hru⟩ := hg _ _ hs
          refine ⟨u :: us, .cons hru h1, by simp [h2], fun j v q hj hq => ?_⟩
          cases j with
          | zero => simp at hj hq; subst hj; subst hq; rw [Nat.add_assoc]; exact hu
          | succ j => exact h3 j v q (by simpa using hj) (by simpa using hq)
      obtain ⟨us, k1, k2, k3⟩ := key _ _ hcs
      have hl : (loadCells ⟨x, o + off, none⟩ us.length).run P w = .ok us.toArray w :=
        run_loadCells_list (P := P) w ⟨x, o + off, none⟩ _ (fun j v hv => by
          rw [Addr.add_mk]
          have hj : j < us.length := by rcases Nat.lt_or_ge j us.length with h | h; exact h; simp [List.getElem?_eq_none h] at hv
          exact k3 j v j hv (by rw [k2] at hj; simp at hj; simp [hj]))
      have hlen : us.length = i.size := by simpa using k2
      rw [hlen] at hl
      exact ⟨.agg us.toArray, by simp [loadVar, run_isAgg h2, hd, run_sizeOf' h1, hl], us, rfl, k1⟩
  · cases h

theorem loadS_sound {t : TypeId} {x s : SV} {rd : List Nat} {u : Value} (hi : MInv lv0 w0 bs D m w) (h : (loadS P m t x).Is (s, rd)) (hx : Rep bs (live lv0 bs m) w x u) :
    ∃ v, (Instr.loadAt t u).run P w = .ok v w ∧ Rep bs (live lv0 bs m) w s v := by
  unfold loadS at h
  split at h
  · rename_i b off
    obtain ⟨x, c, hb, rfl⟩ := hx
    split at h
    · rename_i cs e hm
      obtain ⟨s', h1, h2⟩ := T.is_bind h
      cases h2
      obtain ⟨x', c', us, hb', ho, hr⟩ := hi.blk _ _ hm
      rw [hb] at hb'; cases hb'
      obtain ⟨v, hv, hrv⟩ := run_loadVar_cells (off := off) ho (by simpa using hr) (optS_is h1)
      exact ⟨v, by simpa [Instr.loadAt, Instr.sureAddr] using hv, hrv⟩
    · exact h.elim
  · rename_i ss n f i off
    obtain ⟨x, o, rfl, hin, hsz, hnl, hc⟩ := hx
    obtain ⟨s', h1, h2⟩ := T.is_bind h
    cases h2
    obtain ⟨v, hv, hrv⟩ := run_loadVar_get (bs := bs) (lv := live lv0 bs m) (w := w) (x := x) (o := o + i * ss.length) (off := off) (fun j s hj => by
      obtain ⟨u, h1, h2⟩ := getE_rep ss (f i) _ j s (hc i hin) hj
      exact ⟨u, h1, h2 bs⟩) (optS_is h1)
    exact ⟨v, by simpa [Instr.loadAt, Instr.sureAddr] using hv, hrv⟩
  · rename_i b i off k
    obtain ⟨x, c, hb, rfl⟩ := hx
    split at h
    · rename_i z n ss f e hm
      cases hk : Nat.beq k ss.length
      · rw [hk] at h; exact h.elim
      · rw [hk] at h
        obtain rfl := Nat.eq_of_beq_eq_true hk
        obtain ⟨hin, h⟩ := h
        obtain ⟨s', h1, h2⟩ := T.is_bind h
        cases h2
        rcases hi.blk _ _ hm with ⟨_, h0, _⟩ | ⟨_, x', cap, us, hb', ho, hlen, hle, hc⟩
        · omega
        · rw [hb] at hb'; cases hb'
          obtain ⟨v, hv, hrv⟩ := run_loadVar_get (bs := bs) (lv := live lv0 bs m) (w := w) (x := x) (o := i * ss.length) (off := off) (fun j s hj => by
            obtain ⟨u, h1, h2⟩ := getE_rep ss (f i) _ j s (hc i hin) hj
            exact ⟨u, by simpa [World.cell?, ho] using h1, h2 bs⟩) (optS_is h1)
          exact ⟨v, by simpa [Instr.loadAt, Instr.sureAddr] using hv, hrv⟩
    · exact h.elim
  · exact h.elim

/-- What a store does. -/
noncomputable def storeS (P : Program) (m : Nat → Option Blk) (t : TypeId) (x v : SV) : T (List (Nat × Option Blk) × List Nat) :=
  match P.info? t, cellsO v with
  | some i, some vs =>
    bif Nat.beq vs.length i.size then
      match x with
      | .ptr b off =>
        match m b with
        | some (.cells cs e) =>
          bif Nat.ble (off + vs.length) cs.length then .ret ([(b, some (.cells (cs.take off ++ vs ++ cs.drop (off + vs.length)) e))], [b]) else .stuck 30
        | _ => .stuck 31
      | .optr b i off k =>
        match m b with
        | some (.row z n ss f e) =>
          bif Nat.beq k ss.length && Nat.ble (off + vs.length) k then
            match setE ss (f i) off vs with
            | some d => .ask (i < n) (.ret ([(b, some (.row z n ss (U.upd f i d) e))], [b]))
            | none => .stuck 37
          else .stuck 32
        | _ => .stuck 33
      | _ => .stuck 34
    else .stuck 35
  | _, _ => .stuck 36

theorem storeS_sound {t : TypeId} {x v : SV} {wr : List (Nat × Option Blk)} {rd : List Nat} {u uv : Value} (hi : MInv lv0 w0 bs D m w) (h : (storeS P m t x v).Is (wr, rd))
    (hx : Rep bs (live lv0 bs m) w x u) (hv : Rep bs (live lv0 bs m) w v uv) :
    ∃ w', (Instr.storeAt t u uv).run P w = .ok () w' ∧ MInv lv0 w0 bs D (mupd m wr) w' ∧ Ext bs (live lv0 bs m) w bs (live lv0 bs (mupd m wr)) w' := by
  unfold storeS at h
  split at h
  · rename_i i vs h1 h2
    obtain ⟨hrv, hone⟩ := cellsO_rep hv h2
    have hlv : uv.cells.size = vs.length := by have := hrv.length; simpa using this
    cases hsz : Nat.beq vs.length i.size
    · rw [hsz] at h; exact h.elim
    · rw [hsz] at h
      have hsz' := Nat.eq_of_beq_eq_true hsz
      simp only [cond_true] at h
      split at h
      · rename_i b off
        obtain ⟨x, c, hb, rfl⟩ := hx
        split at h
        · rename_i cs e hm
          cases hle : Nat.ble (off + vs.length) cs.length
          · rw [hle] at h; exact h.elim
          · rw [hle] at h
            have hle' := Nat.le_of_ble_eq_true hle
            obtain ⟨rfl, rfl⟩ := Prod.mk.inj (show (_, _) = (wr, rd) from h)
            obtain ⟨x', c', us, hb', ho, hr⟩ := hi.blk _ _ hm
            rw [hb] at hb'; cases hb'
            have hus := hr.length
            obtain ⟨new, hnew⟩ : ∃ new, new = us.take off ++ uv.cells.toList ++ us.drop (off + vs.length) := ⟨_, rfl⟩
            have hcl : uv.cells.toList.length = vs.length := by simpa using hlv
            have hst : (storeCells ⟨x, off, none⟩ uv.cells.toList 0).run P w = .ok () (w.setRow x new.toArray) := by
              rw [run_storeCells_at P x off e uv.cells.toList 0 us.toArray w ho (by simp; omega) hone, hnew, hcl]; rfl
            refine ⟨w.setRow x new.toArray, by simp [Instr.storeAt, Instr.sureAddr, storeVar, run_sizeOf' h1, hlv, hsz', hst], ?_⟩
            refine hi.set hm hb ho fun w' he ho' => ⟨x, c, new, hb, ho', ?_⟩
            rw [hnew]
            exact he.repL (((hr.take off).append hrv).append (hr.drop (off + vs.length)))
        · exact h.elim
      · rename_i b ix off k
        obtain ⟨x, c, hb, rfl⟩ := hx
        split at h
        · rename_i z n ss f e hm
          cases hk : (Nat.beq k ss.length && Nat.ble (off + vs.length) k)
          · rw [hk] at h; exact h.elim
          · rw [hk] at h
            simp only [Bool.and_eq_true] at hk
            obtain rfl := Nat.eq_of_beq_eq_true hk.1
            have hle' := Nat.le_of_ble_eq_true hk.2
            simp only [cond_true] at h
            split at h
            · rename_i dn hd
              obtain ⟨hin, h⟩ := h
              obtain ⟨rfl, rfl⟩ := Prod.mk.inj (show (_, _) = (wr, rd) from h)
              rcases hi.blk _ _ hm with ⟨_, h0, _⟩ | ⟨hz, x', c, us, hb', ho, hlen, hle, hc⟩
              · omega
              · rw [hb] at hb'; cases hb'
                have hbd : ix * ss.length + ss.length ≤ c * ss.length := by rw [← Nat.succ_mul]; exact Nat.mul_le_mul_right _ (by omega)
                obtain ⟨new, hnew⟩ : ∃ new, new = us.take (ix * ss.length + off) ++ uv.cells.toList ++ us.drop (ix * ss.length + off + vs.length) := ⟨_, rfl⟩
                have hcl : uv.cells.toList.length = vs.length := by simpa using hlv
                have hst : (storeCells ⟨x, ix * ss.length + off, none⟩ uv.cells.toList 0).run P w = .ok () (w.setRow x new.toArray) := by
                  rw [run_storeCells_at P x (ix * ss.length + off) e uv.cells.toList 0 us.toArray w ho (by simp; omega) hone, hnew, hcl]; rfl
                refine ⟨w.setRow x new.toArray, by simp [Instr.storeAt, Instr.sureAddr, storeVar, run_sizeOf' h1, hlv, hsz', hst], ?_⟩
                refine hi.set hm hb ho fun w' he ho' => .inr ⟨hz, x, _, new, hb, ho', ?_, hle, fun i' hi' => ?_⟩
                · rw [hnew]; simp; omega
                · have hin' : ∀ q, q < vs.length → new[ix * ss.length + off + q]? = uv.cells.toList[q]? := fun q hq => by
                    rw [hnew, List.append_assoc, List.getElem?_append_right (by simp; omega), List.getElem?_append_left (by simp; omega)]
                    congr 1; simp; omega
                  have hout : ∀ q, q < ix * ss.length + off ∨ ix * ss.length + off + vs.length ≤ q → new[q]? = us[q]? := fun q hq => by
                    rw [hnew]
                    rcases hq with hq | hq
                    · rw [List.append_assoc, List.getElem?_append_left (by simp; omega)]
                      simp [hq]
                    · rw [List.getElem?_append_right (by simp; omega)]
                      simp only [List.getElem?_drop]
                      congr 1
                      simp; omega
                  rw [U.upd_eq]
                  by_cases hii : i' = ix
                  · subst hii
                    rw [if_pos rfl]
                    exact setE_rep (bs := bs) (lv := live lv0 bs m) (w := w) (fun s d v h => RepE.ext he.hlv he.heap he.size s d v h) ss (f i') dn off vs uv.cells.toList (i' * ss.length) (fun o => us[o]?) (fun o => new[o]?) hd hrv (hc i' hi')
                      (fun q hq => hin' q (by omega)) (fun q hq hni u hu => by
                        have hu' : us[i' * ss.length + q]? = some u := hu
                        show new[i' * ss.length + q]? = some u
                        rw [hout _ (by omega)]; exact hu')
                  · rw [if_neg hii]
                    refine RepC.ext he.hlv he.heap he.size ss (f i') _ _ _ (fun q hq u hu => ?_) (hc i' hi')
                    have hu' : us[i' * ss.length + q]? = some u := hu
                    show new[i' * ss.length + q]? = some u
                    rw [hout _ ?_]; exact hu'
                    rcases Nat.lt_or_gt_of_ne hii with h | h
                    · have : (i' + 1) * ss.length ≤ ix * ss.length := Nat.mul_le_mul_right _ h
                      rw [Nat.succ_mul] at this; omega
                    · have : (ix + 1) * ss.length ≤ i' * ss.length := Nat.mul_le_mul_right _ h
                      rw [Nat.succ_mul] at this; omega
            · exact h.elim
        · exact h.elim
      · exact h.elim
  · exact h.elim
end
end Go.RX
