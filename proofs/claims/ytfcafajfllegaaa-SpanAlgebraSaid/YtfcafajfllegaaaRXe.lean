/- All operations that are no calls of functions, in one function, and that what it says is what the model's do. -/
import Derived.Test.YtfcafajfllegaaaRXd
set_option linter.unusedVariables false
set_option linter.unusedSimpArgs false
namespace Go.RX
open Go Go.RowKit

/-- A number that is written out. -/
def SV.known : SV → Option Nat
  | .ki _ (.ofNat n) => some n
  | _ => none
theorem known_rep {bs : Bs} {lv : Nat → Prop} {w : World} {s : SV} {v : Value} {n : Nat} (h : Rep bs lv w s v) (hs : s.known = some n) : ∃ k, v = .int k n := by
  cases s <;> simp [SV.known] at hs
  rename_i k i
  cases i <;> simp at hs
  subst hs
  exact ⟨k, h⟩

/-- One of n by an index: the index's own if it is written out, else each in turn. -/
noncomputable def byIdx {α : Type} (ix : SV) (n : Nat) (f : Nat → T α) : T α :=
  match ix.known with
  | some i => bif Nat.blt i n then f i else .stuck 40
  | none =>
    match ix.asInt with
    | some (_, i) => (List.range n).foldr (fun (j : Nat) rest => .br (U.eq i (Int.ofNat j)) (f j) rest) (.stuck 41)
    | none => .stuck 42
theorem byIdx_sound {α : Type} {bs : Bs} {lv : Nat → Prop} {w : World} {ix : SV} {n : Nat} {f : Nat → T α} {v : Value} {a : α} (h : (byIdx ix n f).Is a) (hx : Rep bs lv w ix v) :
    ∃ (k : IntKind) (i : Nat), v = .int k (i : Int) ∧ i < n ∧ (f i).Is a := by
  unfold byIdx at h
  split at h
  · rename_i i hi
    obtain ⟨k, rfl⟩ := known_rep hx hi
    cases hb : Nat.blt i n
    · rw [hb] at h; exact h.elim
    · rw [hb] at h
      exact ⟨k, i, rfl, by rw [← Nat.blt_eq]; exact hb, h⟩
  · split at h
    · rename_i k i hi
      obtain rfl := asInt_rep hx hi
      have key : ∀ l : List Nat, (l.foldr (fun (j : Nat) rest => T.br (U.eq i (Int.ofNat j)) (f j) rest) (.stuck 41)).Is a → ∃ j ∈ l, i = (j : Int) ∧ (f j).Is a := by
        intro l
        induction l with
        | nil => intro h; exact h.elim
        | cons j l ih =>
          intro h
          rcases h with ⟨hc, h⟩ | ⟨hc, h⟩
          · rw [U.eq_eq] at hc; exact ⟨j, by simp, by simpa using hc, h⟩
          · obtain ⟨j', h1, h2⟩ := ih h
            exact ⟨j', by simp [h1], h2⟩
      obtain ⟨j, hj, rfl, hf⟩ := key _ h
      exact ⟨k, j, rfl, by simpa using hj, hf⟩
    · exact h.elim

/-- The parts of a struct or array that is built. -/
def fillS (place : Nat → Option (Nat × Nat)) (cells : List SV) : List (Nat × SV) → Option (List SV)
  | [] => some cells
  | (i, v) :: rest =>
    match place i, cellsO v with
    | some (off, size), some vs =>
      bif Nat.beq vs.length size && Nat.ble (off + vs.length) cells.length then fillS place (cells.take off ++ vs ++ cells.drop (off + vs.length)) rest else none
    | _, _ => none

theorem foldl_setIf (vs : List Value) : ∀ (k off : Nat) (cells : Array Value), off + k + vs.length ≤ cells.size →
    ((vs.zipIdx k).foldl (fun cs (p : Value × Nat) => cs.setIfInBounds (off + p.2) p.1) cells).toList = cells.toList.take (off + k) ++ vs ++ cells.toList.drop (off + k + vs.length) := by
  induction vs with
  | nil => intro k off cells h; simp
  | cons v vs ih =>
    intro k off cells h
    simp only [List.zipIdx_cons, List.foldl_cons]
    rw [ih (k + 1) off _ (by simp at h ⊢; omega)]
    have e := list_seg_step cells.toList (off + k) v vs (by simp at h ⊢; omega)
    simpa [Array.toList_setIfInBounds, Nat.add_assoc] using e

theorem fillS_sound {bs : Bs} {lv : Nat → Prop} {w : World} {place : Nat → Option (Nat × Nat)} : ∀ (parts : List (Nat × SV)) (cells : List SV) (us : List Value) (vals : List (Nat × Value)) (out : List SV),
    fillS place cells parts = some out → RepL bs lv w cells us → vals.map (·.1) = parts.map (·.1) → RepL bs lv w (parts.map (·.2)) (vals.map (·.2)) →
    ∃ us', Instr.fill place us.toArray vals = some us'.toArray ∧ RepL bs lv w out us'
  | [], cells, us, vals, out, h, hr, hi, hv => by
    cases vals with
    | nil => simp only [fillS, Option.some.injEq] at h; subst h; exact ⟨us, rfl, hr⟩
    | cons _ _ => simp at hi
  | (i, v) :: rest, cells, us, vals, out, h, hr, hi, hv => by
    cases vals with
    | nil => simp at hi
    | cons p vals =>
      obtain ⟨i', u⟩ := p
      simp only [List.map_cons, List.cons.injEq] at hi
      obtain ⟨rfl, hi⟩ := hi
      obtain ⟨u', us', he, hv1, hv2⟩ := hv
      simp only [List.map_cons, List.cons.injEq] at he
      obtain ⟨rfl, rfl⟩ := he
      rw [fillS] at h
      split at h
      · rename_i off size vs hp hc
        obtain ⟨hcr, hone⟩ := cellsO_rep hv1 hc
        have hcl : u.cells.size = vs.length := by have := hcr.length; simpa using this
        cases hb : (Nat.beq vs.length size && Nat.ble (off + vs.length) cells.length)
        · rw [hb] at h; cases h
        · rw [hb] at h
          simp only [Bool.and_eq_true] at hb
          have hsz := Nat.eq_of_beq_eq_true hb.1
          have hle := Nat.le_of_ble_eq_true hb.2
          have hul := hr.length
          have hnew : RepL bs lv w (cells.take off ++ vs ++ cells.drop (off + vs.length)) (us.take off ++ u.cells.toList ++ us.drop (off + vs.length)) :=
            ((hr.take off).append hcr).append (hr.drop _)
          obtain ⟨us', h1, h2⟩ := fillS_sound rest _ _ vals out h hnew hi hv2
          refine ⟨us', ?_, h2⟩
          rw [Instr.fill, hp]
          simp only []
          rw [if_neg (by simp [hcl, hsz]; omega)]
          rw [← h1]
          congr 1
          apply Array.ext'
          have := foldl_setIf u.cells.toList 0 off us.toArray (by simp; omega)
          simp only [Nat.add_zero] at this
          rw [← Array.foldl_toList, Array.toList_zipIdx]
          rw [this]
          simp [hcl]
      · cases h

def placesS (P : Program) (t : TypeId) : Option (Nat → Option (Nat × Nat)) :=
  match P.underlying t with
  | some (.struct fs) => some fun i => (fs[i]?).bind fun f => (P.info? f.type).map fun q => (f.offset, q.size)
  | some (.array _ e) => (P.info? e).map fun q => fun i => some (i * q.size, q.size)
  | _ => none

def zeroS (P : Program) (t : TypeId) : Option SV := ((P.info? t).bind (·.zero)).map .ofVal
theorem zeroS_sound {P : Program} {bs : Bs} {lv : Nat → Prop} {w : World} {t : TypeId} {s : SV} (h : zeroS P t = some s) : ∃ v, (zeroValue t).run P w = .ok v w ∧ Rep bs lv w s v := by
  simp only [zeroS, Option.map_eq_some_iff, Option.bind_eq_some_iff] at h
  obtain ⟨v, ⟨i, hi, hz⟩, rfl⟩ := h
  exact ⟨v, by simp [zeroValue, run_typeInfo' hi, hz], rep_ofVal v⟩

def buildS (P : Program) (t : TypeId) (parts : List (Nat × SV)) : Option SV :=
  match (zeroS P t).bind cellsO, P.underlying t with
  | some z, some (.struct fs) =>
    bif fs.toList.all (fun f => (P.info? f.type).isSome) then
      (fillS (fun i => (fs[i]?).bind fun f => (P.info? f.type).map fun q => (f.offset, q.size)) z parts).map .agg
    else none
  | some z, some (.array _ e) =>
    match P.info? e with
    | some q => (fillS (fun i => some (i * q.size, q.size)) z parts).map .agg
    | none => none
  | _, _ => none

theorem run_places {P : Program} {w : World} (fs : List Field) (h : fs.all (fun f => (P.info? f.type).isSome) = true) :
    ∃ l : List (Nat × Nat), (fs.mapM (fun f => do pure (f.offset, ← sizeOf f.type) : Field → Sem (Nat × Nat))).run P w = .ok l w ∧
      ∀ i : Nat, l[i]? = (fs[i]?).bind fun (f : Field) => (P.info? f.type).map fun q => (f.offset, q.size) := by
  induction fs with
  | nil => exact ⟨[], by simp, fun i => by simp⟩
  | cons f fs ih =>
    simp only [List.all_cons, Bool.and_eq_true] at h
    obtain ⟨q, hq⟩ := Option.isSome_iff_exists.mp h.1
    obtain ⟨l, h1, h2⟩ := ih h.2
    refine ⟨(f.offset, q.size) :: l, ?_, fun i => ?_⟩
    · rw [List.mapM_cons, Sem.run_bind, Sem.run_bind, run_sizeOf' hq]
      simp only [Result.andThen_ok, Sem.run_pure, Sem.run_bind]
      rw [h1]; rfl
    cases i with
    | zero => simp [hq]
    | succ i => simpa using h2 i

theorem buildS_sound {P : Program} {bs : Bs} {lv : Nat → Prop} {w : World} {t : TypeId} {parts : List (Nat × SV)} {vals : List (Nat × Value)} {s : SV} (h : buildS P t parts = some s)
    (hi : vals.map (·.1) = parts.map (·.1)) (hv : RepL bs lv w (parts.map (·.2)) (vals.map (·.2))) : ∃ v, (Instr.build t vals.toArray).run P w = .ok v w ∧ Rep bs lv w s v := by
  unfold buildS at h
  split at h
  · rename_i z fs hz hu
    obtain ⟨zs, hzs, hzc⟩ := Option.bind_eq_some_iff.1 hz
    obtain ⟨zv, hzr, hzrep⟩ := zeroS_sound (bs := bs) (lv := lv) (w := w) hzs
    obtain ⟨hcr, _⟩ := cellsO_rep hzrep hzc
    cases ha : fs.toList.all (fun f => (P.info? f.type).isSome)
    · rw [ha] at h; cases h
    · rw [ha] at h
      simp only [cond_true, Option.map_eq_some_iff] at h
      obtain ⟨cs, hf, rfl⟩ := h
      obtain ⟨l, hl1, hl2⟩ := run_places (P := P) (w := w) fs.toList ha
      have hpl : (fs.mapM (fun f => do pure (f.offset, ← sizeOf f.type) : Field → Sem (Nat × Nat))).run P w = .ok l.toArray w := by
        rw [Array.mapM_eq_mapM_toList, Sem.run_map, hl1]; rfl
      obtain ⟨us', h1, h2⟩ := fillS_sound parts z zv.cells.toList vals cs hf hcr hi hv
      refine ⟨.agg us'.toArray, ?_, us', rfl, h2⟩
      have hplace : (fun i : Nat => l.toArray[i]?) = (fun i : Nat => (fs[i]?).bind fun (f : Field) => (P.info? f.type).map fun q => (f.offset, q.size)) := by
        funext i
        have := hl2 i
        simpa using this
      simp only [Instr.build, Sem.run_bind, hzr, Result.andThen_ok, run_underlying hu]
      rw [hpl]
      simp only [Result.andThen_ok]
      have h1' : Instr.fill (fun i => l.toArray[i]?) zv.cells vals = some us'.toArray := by rw [hplace]; simpa using h1
      rw [h1']
      rfl
  · rename_i z n e hz hu
    obtain ⟨zs, hzs, hzc⟩ := Option.bind_eq_some_iff.1 hz
    obtain ⟨zv, hzr, hzrep⟩ := zeroS_sound (bs := bs) (lv := lv) (w := w) hzs
    obtain ⟨hcr, _⟩ := cellsO_rep hzrep hzc
    split at h
    · rename_i q hq
      simp only [Option.map_eq_some_iff] at h
      obtain ⟨cs, hf, rfl⟩ := h
      obtain ⟨us', h1, h2⟩ := fillS_sound parts z zv.cells.toList vals cs hf hcr hi hv
      refine ⟨.agg us'.toArray, ?_, us', rfl, h2⟩
      have h1' : Instr.fill (fun i => some (i * q.size, q.size)) zv.cells vals = some us'.toArray := by simpa using h1
      simp [Instr.build, hzr, run_underlying hu, run_sizeOf' hq, h1']
    · cases h
  · cases h

/-- The address of an element. -/
noncomputable def indexAddrS (P : Program) (t : TypeId) (x ix : SV) : T SV :=
  match P.underlying t with
  | some (.array len e) =>
    match P.info? e, x with
    | some q, .ptr b off => byIdx ix len fun i => .ret (.ptr b (off + i * q.size))
    | _, _ => .stuck 43
  | some (.slice e) =>
    match P.info? e, ix.asInt with
    | some q, some (_, i) =>
      match x with
      | .own z b n => .ask (0 ≤ i ∧ i < (n : Int)) (.ret (.optr b (U.toNat i) 0 q.size))
      | .row ss n f => bif Nat.beq ss.length q.size then .ask (0 ≤ i ∧ i < (n : Int)) (.ret (.rptr ss n f (U.toNat i) 0)) else .stuck 44
      | .csl b off n k => byIdx ix n fun i => .ret (.ptr b (off + i * q.size))
      | _ => .stuck 45
    | _, _ => .stuck 46
  | _ => .stuck 47

theorem indexAddrS_sound {P : Program} {bs : Bs} {lv : Nat → Prop} {w : World} {t : TypeId} {x ix s : SV} {u v : Value} (h : (indexAddrS P t x ix).Is s) (hx : Rep bs lv w x u) (hix : Rep bs lv w ix v) :
    ∃ r, (Instr.indexAt t u v).run P w = .ok r w ∧ Rep bs lv w s r := by
  unfold indexAddrS at h
  split at h
  · rename_i len e hu
    split at h
    · rename_i q b off hq
      obtain ⟨k, i, rfl, hlt, h⟩ := byIdx_sound h hix
      obtain rfl : _ = s := h
      obtain ⟨a, c, hb, rfl⟩ := hx
      have h0 : (0 : Int) ≤ (i : Int) ∧ (i : Int) < (len : Int) := by omega
      refine ⟨.pointer (some ⟨a, off + i * q.size, none⟩), ?_, a, c, hb, rfl⟩
      simp [Instr.indexAt, asIntOf, run_underlying hu, Instr.sureAddr, run_sizeOf' hq, h0, hlt, Addr.add_mk]
    · exact h.elim
  · rename_i e hu
    split at h
    · rename_i q k i hq hi
      obtain rfl := asInt_rep hix hi
      split at h
      · rename_i z b n
        obtain ⟨⟨h0, h1⟩, h⟩ := h
        obtain rfl : _ = s := h
        rcases hx with ⟨_, hn, _⟩ | ⟨_, a, c, hb, rfl, _⟩
        · omega
        · refine ⟨.pointer (some ⟨a, i.toNat * q.size, none⟩), ?_, a, _, hb, by simp [U.toNat_eq]⟩
          have h0' : 0 ≤ i ∧ i < (n : Int) := ⟨h0, h1⟩
          simp [Instr.indexAt, asIntOf, run_underlying hu, run_sizeOf' hq, h0', h0, h1, Addr.add_mk]
      · rename_i ss n f
        cases hk : Nat.beq ss.length q.size
        · rw [hk] at h; exact h.elim
        · rw [hk] at h
          have hk' := Nat.eq_of_beq_eq_true hk
          obtain ⟨⟨h0, h1⟩, h⟩ := h
          obtain rfl : _ = s := h
          obtain ⟨a, cap, rfl, hcap, _, hc⟩ := hx
          obtain ⟨y, o, rfl, hy, hl, hcells⟩ := hc (show 0 < n by omega)
          refine ⟨.pointer (some ⟨y, o + i.toNat * q.size, none⟩), ?_, y, o, by simp [U.toNat_eq, hk'], by rw [U.toNat_eq]; omega, hy, hl, hcells⟩
          have h1' : i < (n : Int) := h1
          simp [Instr.indexAt, asIntOf, run_underlying hu, run_sizeOf' hq, h0, h1', Addr.add_mk]
      · rename_i b off n kk
        obtain ⟨k2, i2, hv, hlt, h⟩ := byIdx_sound h hix
        obtain rfl : _ = s := h
        obtain ⟨a, c, cap, hb, rfl, _⟩ := hx
        cases hv
        refine ⟨.pointer (some ⟨a, off + i2 * q.size, none⟩), ?_, a, c, hb, rfl⟩
        have h0 : (0 : Int) ≤ (i2 : Int) ∧ (i2 : Int) < (n : Int) := by omega
        simp [Instr.indexAt, asIntOf, run_underlying hu, run_sizeOf' hq, h0, hlt, Addr.add_mk]
      · exact h.elim
    · exact h.elim
  · exact h.elim

/-- An element of an array value. -/
noncomputable def indexS (P : Program) (t : TypeId) (x ix : SV) : T SV :=
  match P.underlying t, x with
  | some (.array len e), .agg cs =>
    match P.info? e with
    | some q => byIdx ix len fun i => optS 50 (partO P e cs (i * q.size))
    | none => .stuck 51
  | _, _ => .stuck 52
theorem indexS_sound {P : Program} {bs : Bs} {lv : Nat → Prop} {w : World} {t : TypeId} {x ix s : SV} {u v : Value} (h : (indexS P t x ix).Is s) (hx : Rep bs lv w x u) (hix : Rep bs lv w ix v) :
    ∃ r, (Instr.index t u v).run P w = .ok r w ∧ Rep bs lv w s r := by
  unfold indexS at h
  split at h
  · rename_i len e cs hu
    split at h
    · rename_i q hq
      obtain ⟨k, i, rfl, hlt, h⟩ := byIdx_sound h hix
      obtain ⟨us, rfl, hr⟩ := hx
      obtain ⟨r, h1, h2⟩ := partO_sound (optS_is h) hr
      have h0 : (0 : Int) ≤ (i : Int) ∧ (i : Int) < (len : Int) := by omega
      exact ⟨r, by simp [Instr.index, asIntOf, run_underlying hu, run_sizeOf' hq, h0, hlt, h1], h2⟩
    · exact h.elim
  · exact h.elim

def extractS (x : SV) (i : Nat) : Option SV :=
  match x with
  | .tup vs => vs[i]?
  | _ => none
theorem extractS_sound {P : Program} {bs : Bs} {lv : Nat → Prop} {w : World} {x s : SV} {u : Value} {i : Nat} (h : extractS x i = some s) (hx : Rep bs lv w x u) :
    ∃ r, (Instr.extract u i).run P w = .ok r w ∧ Rep bs lv w s r := by
  unfold extractS at h
  split at h
  · obtain ⟨us, rfl, hr⟩ := hx
    obtain ⟨r, h1, h2⟩ := hr.get _ _ h
    exact ⟨r, by simp [Instr.extract, h1], h2⟩
  · cases h

noncomputable def convS (P : Program) (src dst : TypeId) (x : SV) : Option SV :=
  match P.underlying src, P.underlying dst, x.asInt with
  | some _, some (.int k), some (_, n) => some (.lit (.int k (U.wrap k n)))
  | _, _, _ => none
theorem convS_sound {P : Program} {bs : Bs} {lv : Nat → Prop} {w : World} {src dst : TypeId} {x s : SV} {u : Value} (h : convS P src dst x = some s) (hx : Rep bs lv w x u) :
    ∃ r, (convert src dst u).run P w = .ok r w ∧ Rep bs lv w s r := by
  unfold convS at h
  split at h
  · rename_i d k k' n h1 h2 h3
    obtain rfl := asInt_rep hx h3
    cases h
    exact ⟨.int k (k.wrap n), by simp [convert, run_underlying h1, run_underlying h2, Conv.intToInt], by rw [U.wrap_eq]; rfl⟩
  · cases h

def nilOkS (x : SV) : Bool :=
  match x with
  | .ptr _ _ | .rptr _ _ _ _ _ | .optr _ _ _ _ => true
  | .fn (.func _) _ _ => true
  | _ => false

/-- min and max of whole numbers. -/
noncomputable def minmaxS (mx : Bool) : SV → List SV → Option SV
  | x, [] => some x
  | x, y :: rest =>
    match x.asInt, y.asInt with
    | some (k, a), some (_, b) => minmaxS mx (.lit (.int k (U.mm mx a b))) rest
    | _, _ => none
theorem minmaxS_sound {P : Program} {bs : Bs} {lv : Nat → Prop} {w : World} (mx : Bool) : ∀ (ys : List SV) (x s : SV) (u : Value) (us : List Value), minmaxS mx x ys = some s → Rep bs lv w x u → RepL bs lv w ys us →
    ∃ r, (us.foldlM (if mx then Builtin.max2 else Builtin.min2) u : Sem Value).run P w = .ok r w ∧ Rep bs lv w s r
  | [], x, s, u, us, h, hx, hr => by cases hr; cases h; exact ⟨u, by simp, hx⟩
  | y :: ys, x, s, u, us, h, hx, ⟨v, us', e, hy, hr⟩ => by
    subst e
    rw [minmaxS] at h
    split at h
    · rename_i k a k' b h1 h2
      obtain rfl := asInt_rep hx h1
      obtain rfl := asInt_rep hy h2
      obtain ⟨r, g1, g2⟩ := minmaxS_sound (P := P) (w := w) mx ys _ s (.int k (U.mm mx a b)) us' h rfl hr
      refine ⟨r, ?_, g2⟩
      cases mx <;> simp [U.mm_eq, Builtin.max2, Builtin.min2] at g1 ⊢ <;> exact g1
    · cases h

def lenS (P : Program) (t : TypeId) (x : SV) : Option SV :=
  match P.underlying t, x with
  | some (.slice _), .own _ _ n => some (.lit (.int .i64 n))
  | some (.slice _), .row _ n _ => some (.lit (.int .i64 n))
  | some (.slice _), .csl _ _ n _ => some (.ki .i64 n)
  | some (.slice _), .lit (.slice none 0 0) => some (.ki .i64 0)
  | some (.array n _), _ => some (.ki .i64 n)
  | some .string, .lit (.string b) => some (.lit (.int .i64 b.size))
  | _, _ => none
theorem lenS_sound {P : Program} {bs : Bs} {lv : Nat → Prop} {w : World} {t ty : TypeId} {x s : SV} {u : Value} (h : lenS P t x = some s) (hx : Rep bs lv w x u) :
    ∃ r, (Builtin.len_ #[t] ty #[u]).run P w = .ok r w ∧ Rep bs lv w s r := by
  unfold lenS at h
  split at h <;> (try cases h)
  · rename_i e z b n hu
    rcases hx with ⟨_, rfl, rfl⟩ | ⟨_, a, c, _, rfl, _⟩
    · exact ⟨goInt (0 : Nat), by simp [Builtin.len_, run_underlying hu], rfl⟩
    · exact ⟨goInt n, by simp [Builtin.len_, run_underlying hu], rfl⟩
  · rename_i e ss n f hu
    obtain ⟨a, cap, rfl, _⟩ := hx
    exact ⟨goInt n, by simp [Builtin.len_, run_underlying hu], rfl⟩
  · rename_i e b off n k hu
    obtain ⟨x, c, cap, _, rfl, _⟩ := hx
    exact ⟨goInt n, by simp [Builtin.len_, run_underlying hu], rfl⟩
  · rename_i e hu
    obtain rfl : u = _ := hx
    exact ⟨goInt (0 : Nat), by simp [Builtin.len_, run_underlying hu], rfl⟩
  · rename_i n e hu
    exact ⟨goInt n, by simp [Builtin.len_, run_underlying hu], rfl⟩
  · rename_i b hu
    obtain rfl : u = _ := hx
    exact ⟨goInt b.size, by simp [Builtin.len_, run_underlying hu], rfl⟩
end Go.RX
