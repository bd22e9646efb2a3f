/- Maps of the call's own: made, looked up, written. -/
import Derived.MapKept
import Derived.Test.YtdmocmiidcfhlaaGreatPPa
import Derived.Orders
import Derived.TacticsIn
import Derived.OrdersIn
import Derived.OwnWalkIn
import Derived.Still
import Derived.LoopNIn
import Derived.Scope
import Derived.RangeFuncNested
set_option linter.unusedVariables false
set_option linter.unusedSimpArgs false
namespace Go.RX
open Go Go.RowKit

/-- Of a map's key: a number, or an array of two. -/
def keyKind (P : Program) (K : TypeId) : Option Bool :=
  match P.underlying K with
  | some (.int .i64) => some false
  | some (.array 2 e) =>
    match P.underlying e, P.info? e with
    | some (.int .i64), some i => bif Nat.beq i.size 1 then some true else none
    | _, _ => none
  | _ => none
/-- Of a map's elements: what they are made of. -/
def elKind (P : Program) (E : TypeId) : Option Sh :=
  match (P.info? E).bind (·.zero), P.underlying E with
  | some (.bool false), some .bool => some .bool
  | some (.int .i64 0), some (.int .i64) => some (.int .i64)
  | _, _ => none
def mapKind (P : Program) (t : TypeId) : Option (Bool × Sh) :=
  match P.underlying t with
  | some (.map K E) => match keyKind P K, elKind P E with | some tw, some s => some (tw, s) | _, _ => none
  | _ => none
def keyS (tw : Bool) (x : SV) : Option (Int × Int) :=
  match tw, x with
  | true, .agg [x, y] => match x.asInt, y.asInt with | some (.i64, a), some (.i64, b) => some (a, b) | _, _ => none
  | false, x => match x.asInt with | some (.i64, a) => some (a, 0) | _ => none
  | _, _ => none
theorem keyS_rep {bs : Bs} {lv : Nat → Prop} {w : World} {tw : Bool} {x : SV} {p : Int × Int} {v : Value} (h : keyS tw x = some p) (hr : Rep bs lv w x v) : v = keyV tw p ∧ (tw = false → p.2 = 0) := by
  unfold keyS at h
  split at h
  · rename_i x y
    split at h
    · rename_i a b h1 h2
      cases h
      obtain ⟨us, rfl, u1, us1, rfl, g1, u2, us2, rfl, g2, g3⟩ := hr
      obtain rfl := asInt_rep g1 h1
      obtain rfl := asInt_rep g2 h2
      obtain rfl : us2 = [] := g3
      exact ⟨rfl, fun h => by cases h⟩
    · cases h
  · split at h
    · rename_i a h1
      cases h
      obtain rfl := asInt_rep hr h1
      exact ⟨rfl, fun _ => rfl⟩
    · cases h
  · cases h

section
variable {P : Program} {lv : Nat → Prop} {w : World}

theorem run_part1 {e : TypeId} {i : TypeInfo} (hi : P.info? e = some i) (hs : i.size = 1) (hu : P.underlying e = some (.int .i64)) {cs : Array Value} {j : Nat} {v : Value} (h : cs[j]? = some v) : (part e cs j).run P w = .ok v w := by
  simp [part, run_isAgg hu, aggD, h]
theorem keyKind_two {K : TypeId} (h : keyKind P K = some true) : ∃ e i, P.underlying K = some (.array 2 e) ∧ P.underlying e = some (.int .i64) ∧ P.info? e = some i ∧ i.size = 1 := by
  unfold keyKind at h
  split at h
  · cases h
  · rename_i e hu
    split at h
    · rename_i i h1 h2
      cases hb : Nat.beq i.size 1
      · rw [hb] at h; cases h
      · exact ⟨e, i, hu, h1, h2, Nat.eq_of_beq_eq_true hb⟩
    · cases h
  · cases h
theorem keyKind_one {K : TypeId} (h : keyKind P K = some false) : P.underlying K = some (.int .i64) := by
  unfold keyKind at h
  split at h
  · rename_i hu; exact hu
  · split at h
    · rename_i e hu i h1 h2
      cases hb : Nat.beq i.size 1 <;> rw [hb] at h <;> cases h
    · cases h
  · cases h
theorem checkKey_run {K : TypeId} {tw : Bool} (h : keyKind P K = some tw) (em : Bool) (p : Int × Int) : (Instr.checkKey em 10000 K (keyV tw p)).run P w = .ok () w := by
  obtain ⟨m, hm⟩ : ∃ m : Nat, 10000 = m + 1 + 1 := ⟨9998, rfl⟩
  rw [hm]
  clear hm
  cases tw
  · have hu := keyKind_one h
    simp [Instr.checkKey, run_underlying hu, keyV]
  · obtain ⟨e, i, hu, h1, h2, h3⟩ := keyKind_two h
    have p0 : (part e #[Value.int .i64 p.1, Value.int .i64 p.2] 0).run P w = .ok (.int .i64 p.1) w := run_part1 h2 h3 h1 rfl
    have p1 : (part e #[Value.int .i64 p.1, Value.int .i64 p.2] 1).run P w = .ok (.int .i64 p.2) w := run_part1 h2 h3 h1 rfl
    have c : ∀ a : Int, (Instr.checkKey em (m + 1) e (.int .i64 a)).run P w = .ok () w := fun a => by simp [Instr.checkKey, run_underlying h1]
    show (Instr.checkKey em (m + 1 + 1) K (.agg #[.int .i64 p.1, .int .i64 p.2])).run P w = _
    rw [Instr.checkKey]
    simp only [Sem.run_bind, run_underlying hu, Result.andThen_ok]
    simp only [Std.Legacy.Range.forIn_eq_forIn_range', Std.Legacy.Range.size, Nat.sub_zero, Nat.add_one_sub_one, Nat.div_one]
    have er : List.range' 0 2 = [0, 1] := rfl
    simp [er, run_sizeOf' h2, h3, p0, p1, c]
theorem equal_run {K : TypeId} {tw : Bool} (h : keyKind P K = some tw) {p q : Int × Int} (hp : tw = false → p.2 = 0) (hq : tw = false → q.2 = 0) : (Op.equal K (keyV tw p) (keyV tw q)).run P w = .ok (decide (q.1 = p.1 ∧ q.2 = p.2)) w := by
  cases tw
  · have hu := keyKind_one h
    have e : decide (q.1 = p.1 ∧ q.2 = p.2) = (p.1 == q.1) := by
      rw [hp rfl, hq rfl]
      by_cases g : p.1 = q.1
      · simp [g]
      · have : ¬ q.1 = p.1 := fun h => g h.symm
        simp [g, this]
    rw [e]
    exact eqrun fun d => by simp [Op.equalIn, run_underlying hu, keyV]
  · obtain ⟨e, i, hu, h1, h2, h3⟩ := keyKind_two h
    have hc : P.cellsOf e = 1 := by simp [Program.cellsOf, h2, h3]
    have hv : eqV P 3 K (.agg [.lit (.int .i64 p.1), .lit (.int .i64 p.2)]) (.agg [.lit (.int .i64 q.1), .lit (.int .i64 q.2)]) = some (U.andb (U.eq p.1 q.1) (U.eq p.2 q.2)) := by
      have er : List.range 2 = [0, 1] := rfl
      rw [eqV]
      simp only [hu, h2, er, hc]
      simp [eqIs, partO, h1, h2, aggD, eqV, SV.asInt]
    have e : decide (q.1 = p.1 ∧ q.2 = p.2) = U.andb (U.eq p.1 q.1) (U.eq p.2 q.2) := by
      rw [U.andb_eq, U.eq_eq, U.eq_eq]
      by_cases g1 : p.1 = q.1
      · by_cases g2 : p.2 = q.2
        · simp [g1, g2]
        · have : ¬ q.2 = p.2 := fun h => g2 h.symm
          simp [g1, g2, this]
      · have : ¬ q.1 = p.1 := fun h => g1 h.symm
        simp [g1, this]
    rw [e]
    refine (eqVF_sound (bs := Bs.none) (lv := fun _ => False) 3).1 K _ _ _ _ _ hv ⟨[.int .i64 p.1, .int .i64 p.2], rfl, .cons rfl (.cons rfl .nil)⟩ ⟨[.int .i64 q.1, .int .i64 q.2], rfl, .cons rfl (.cons rfl .nil)⟩ Op.maxDepth (by decide)
/-- Where a key stands. -/
def mplace {s : Sh} : List ((Int × Int) × El s) → Int → Int → Nat → Option Nat
  | [], _, _, _ => none
  | (k, d) :: l, a, b, i => if k.1 = a ∧ k.2 = b then some i else mplace l a b (i + 1)
/-- What is found, for an entry list. -/
def Found (lv : Nat → Prop) (w : World) {s : Sh} (l : List ((Int × Int) × El s)) (p : Int × Int) (i : Nat) : Option (Nat × Value) → Prop
  | none => mfind l p.1 p.2 = none ∧ mplace l p.1 p.2 i = none
  | some (j, v) => mplace l p.1 p.2 i = some j ∧ ∃ d, mfind l p.1 p.2 = some d ∧ RepE lv w s d v
theorem asking_run {K : TypeId} {tw : Bool} (h : keyKind P K = some tw) {s : Sh} {p : Int × Int} (hp : tw = false → p.2 = 0) : ∀ (l : List ((Int × Int) × El s)) (es : List MapEntry) (i : Nat), EntRep lv w tw s l es →
    ∃ r, (Instr.findAsking K (keyV tw p) es i).run P w = .ok r w ∧ Found lv w l p i r
  | [], es, i, he => by
    obtain rfl : es = [] := he
    exact ⟨none, by simp [Instr.findAsking], rfl, rfl⟩
  | (k, d) :: l, es, i, ⟨e, es', h1, h2, h3, h4, h5⟩ => by
    subst h1
    have eq := equal_run (w := w) h hp h3
    rw [← h2] at eq
    by_cases g : k.1 = p.1 ∧ k.2 = p.2
    · exact ⟨some (i, e.val), by simp [Instr.findAsking, eq, g], by simp [mplace, g], d, by simp [mfind, g], h4⟩
    · obtain ⟨r, r1, r2⟩ := asking_run h hp l es' (i + 1) h5
      refine ⟨r, by simp [Instr.findAsking, eq, g, r1], ?_⟩
      cases r with
      | none => exact ⟨by simp [mfind, g, r2.1], by simp [mplace, g, r2.2]⟩
      | some q => exact ⟨by simp [mplace, g, r2.1], by simpa [mfind, g] using r2.2⟩
theorem now_run {s : Sh} {p : Int × Int} (hp : p.2 = 0) : ∀ (l : List ((Int × Int) × El s)) (es : List MapEntry) (i : Nat), EntRep lv w false s l es →
    ∃ r, Instr.findNow (.int .i64) (keyV false p) es i = some r ∧ Found lv w l p i r
  | [], es, i, he => by
    obtain rfl : es = [] := he
    exact ⟨none, by simp [Instr.findNow], rfl, rfl⟩
  | (k, d) :: l, es, i, ⟨e, es', h1, h2, h3, h4, h5⟩ => by
    subst h1
    have k2 := h3 rfl
    have eq : Instr.sameNow (.int .i64) (keyV false p) e.key = some (p.1 == k.1) := by rw [h2]; simp [Instr.sameNow, keyV]
    by_cases g : p.1 = k.1
    · have g' : k.1 = p.1 ∧ k.2 = p.2 := ⟨g.symm, by rw [hp, k2]⟩
      exact ⟨some (i, e.val), by simp [Instr.findNow, eq, g], by simp [mplace, g'], d, by simp [mfind, g'], h4⟩
    · have g' : ¬ (k.1 = p.1 ∧ k.2 = p.2) := fun h => g h.1.symm
      obtain ⟨r, r1, r2⟩ := now_run hp l es' (i + 1) h5
      have gb : (p.1 == k.1) = false := by simpa using g
      refine ⟨r, by simp [Instr.findNow, eq, gb, r1], ?_⟩
      cases r with
      | none => exact ⟨by simp [mfind, g', r2.1], by simp [mplace, g', r2.2]⟩
      | some q => exact ⟨by simp [mplace, g', r2.1], by simpa [mfind, g'] using r2.2⟩
theorem find_run {K : TypeId} {tw : Bool} (h : keyKind P K = some tw) {s : Sh} {p : Int × Int} (hp : tw = false → p.2 = 0) (l : List ((Int × Int) × El s)) (es : List MapEntry) (he : EntRep lv w tw s l es) :
    ∃ r, (Instr.findKey K (keyV tw p) es).run P w = .ok r w ∧ Found lv w l p 0 r := by
  cases tw
  · have hu := keyKind_one h
    obtain ⟨r, r1, r2⟩ := now_run (hp rfl) l es 0 he
    exact ⟨r, by simp [Instr.findKey, run_underlying hu, r1], r2⟩
  · obtain ⟨e, i, hu, h1, h2, h3⟩ := keyKind_two h
    obtain ⟨r, r1, r2⟩ := asking_run h hp l es 0 he
    refine ⟨r, ?_, r2⟩
    rw [← r1]
    cases es with
    | nil => simp [Instr.findKey, run_underlying hu, Instr.findNow, Instr.findAsking]
    | cons e es => simp [Instr.findKey, run_underlying hu, Instr.findNow, Instr.sameNow]

theorem elKind_zero {E : TypeId} {s : Sh} (h : elKind P E = some s) : ∃ z, (zeroValue E).run P w = .ok z w ∧ RepE lv w s (zeroE s) z := by
  unfold elKind at h
  split at h
  · rename_i hz hu
    cases h
    have hz' : zeroS P E = some (.kb false) := by simp only [zeroS, hz]; rfl
    obtain ⟨v, hv, hr⟩ := zeroS_sound (bs := Bs.none) (lv := lv) (w := w) hz'
    exact ⟨v, hv, hr⟩
  · rename_i hz hu
    cases h
    have hz' : zeroS P E = some (.ki .i64 0) := by simp only [zeroS, hz]; rfl
    obtain ⟨v, hv, hr⟩ := zeroS_sound (bs := Bs.none) (lv := lv) (w := w) hz'
    exact ⟨v, hv, hr⟩
  · cases h
theorem mapKind_is {t : TypeId} {tw : Bool} {s : Sh} (h : mapKind P t = some (tw, s)) : ∃ K E, P.underlying t = some (.map K E) ∧ keyKind P K = some tw ∧ elKind P E = some s := by
  unfold mapKind at h
  split at h
  · rename_i K E hu
    split at h
    · rename_i tw' s' h1 h2
      cases h
      exact ⟨K, E, hu, h1, h2⟩
    · cases h
  · cases h
theorem run_getMap {r : Nat} {es : Array MapEntry} {clock : Nat} (hb : w.heap[r]? = some (.map es clock)) : (getObj r).run P w = .ok (.map es clock) w := by
  simp [getObj, Sem.run, hb]
theorem run_setMap {r : Nat} {es : Array MapEntry} {clock : Nat} (o : Obj) (hb : w.heap[r]? = some (.map es clock)) : (setObj r o).run P w = .ok () { w with heap := w.heap.setIfInBounds r o } := by
  simp [setObj, Sem.run, hb]
theorem same_keyV (tw : Bool) (p : Int × Int) : Instr.sameBits 10000 (keyV tw p) (keyV tw p) = true := by
  obtain ⟨m, hm⟩ : ∃ m : Nat, 10000 = m + 1 + 1 := ⟨9998, rfl⟩
  rw [hm]
  clear hm
  cases tw <;> simp [Instr.sameBits, keyV]
theorem mplace_key {tw : Bool} {s : Sh} {a b : Int} : ∀ (l : List ((Int × Int) × El s)) (es : List MapEntry) (i j : Nat), EntRep lv w tw s l es → mplace l a b i = some j → i ≤ j ∧ ∃ e, es[j - i]? = some e ∧ e.key = keyV tw (a, b)
  | [], _, _, _, _, h => by cases h
  | (k, d) :: l, es, i, j, ⟨e, es', h1, h2, h3, h4, h5⟩, h => by
    subst h1
    by_cases g : k.1 = a ∧ k.2 = b
    · have : i = j := by simpa [mplace, g] using h
      subst this
      refine ⟨Nat.le_refl _, e, by simp, ?_⟩
      rw [h2, ← g.1, ← g.2]
    · obtain ⟨g1, e', g2, g3⟩ := mplace_key l es' (i + 1) j h5 (by simpa [mplace, g] using h)
      refine ⟨by omega, e', ?_, g3⟩
      rw [show j - i = (j - (i + 1)) + 1 by omega]
      simpa using g2
theorem put_at {tw : Bool} {s : Sh} {a b : Int} {d : El s} {v : Value} (hv : RepE lv w s d v) (hk : tw = false → b = 0) : ∀ (l : List ((Int × Int) × El s)) (es : List MapEntry) (i j : Nat), EntRep lv w tw s l es → mplace l a b i = some j →
    EntRep lv w tw s (mput l a b d) (es.modify (j - i) fun e => { e with key := keyV tw (a, b), val := v })
  | [], _, _, _, _, h => by cases h
  | (k, d0) :: l, es, i, j, ⟨e, es', h1, h2, h3, h4, h5⟩, h => by
    subst h1
    by_cases g : k.1 = a ∧ k.2 = b
    · have : i = j := by simpa [mplace, g] using h
      subst this
      simp only [mput, g, and_self, if_true, Nat.sub_self, List.modify_zero_cons]
      exact ⟨_, _, rfl, rfl, hk, hv, h5⟩
    · have hp : mplace l a b (i + 1) = some j := by simpa [mplace, g] using h
      obtain ⟨g1, _⟩ := mplace_key l es' (i + 1) j h5 hp
      simp only [mput, g, if_false]
      rw [show j - i = (j - (i + 1)) + 1 by omega, List.modify_succ_cons]
      exact ⟨_, _, rfl, h2, h3, h4, put_at hv hk l es' (i + 1) j h5 hp⟩
theorem put_new {tw : Bool} {s : Sh} {a b : Int} {d : El s} {e : MapEntry} (he : e.key = keyV tw (a, b)) (hv : RepE lv w s d e.val) (hk : tw = false → b = 0) : ∀ (l : List ((Int × Int) × El s)) (es : List MapEntry) (i : Nat), EntRep lv w tw s l es → mplace l a b i = none →
    EntRep lv w tw s (mput l a b d) (es ++ [e])
  | [], es, i, h0, _ => by
    obtain rfl : es = [] := h0
    exact ⟨e, [], rfl, he, hk, hv, rfl⟩
  | (k, d0) :: l, es, i, ⟨e', es', h1, h2, h3, h4, h5⟩, h => by
    subst h1
    by_cases g : k.1 = a ∧ k.2 = b
    · simp [mplace, g] at h
    · simp only [mput, g, if_false]
      exact ⟨_, _, rfl, h2, h3, h4, put_new he hv hk l es' (i + 1) h5 (by simpa [mplace, g] using h)⟩
end
def eqB : Bool → Bool → Bool
  | true, true => true
  | false, false => true
  | _, _ => false
/-- A new map. -/
def makeMapS (P : Program) (nid : Nat) (t : TypeId) (r : Option SV) : T Out :=
  match mapKind P t with
  | some (tw, s) =>
    match r with
    | none => .ret ⟨.mp nid, [(nid, some (.mp tw s []))], [], 1, false⟩
    | some r => match r.asInt with | some _ => .ret ⟨.mp nid, [(nid, some (.mp tw s []))], [], 1, false⟩ | none => .stuck 241
  | none => .stuck 240
/-- What a map holds at a key. -/
noncomputable def lookS (P : Program) (m : Nat → Option Blk) (t : TypeId) (x k : SV) (ok : Bool) : T Out :=
  match mapKind P t, x with
  | some (tw, s), .mp b =>
    match m b with
    | some (.mp tw' s' l) =>
      bif (eqB tw tw') && eqSh s' s then
        match keyS tw' k with
        | some p => .ret ⟨bif ok then .tup [toSV s' (U.mget s' l p.1 p.2), .lit (.bool (U.mhas s' l p.1 p.2))] else toSV s' (U.mget s' l p.1 p.2), [], [b], 0, false⟩
        | none => .stuck 242
      else .stuck 243
    | _ => .stuck 244
  | _, _ => .stuck 245
noncomputable def mupdS (P : Program) (m : Nat → Option Blk) (t : TypeId) (x k v : SV) : T Out :=
  match mapKind P t, x with
  | some (tw, s), .mp b =>
    match m b with
    | some (.mp tw' s' l) =>
      bif (eqB tw tw') && eqSh s' s then
        match keyS tw' k, ofSV s' v with
        | some p, some d => .ret ⟨.lit undef, [(b, some (.mp tw' s' (U.mput s' l p.1 p.2 d)))], [b], 0, false⟩
        | _, _ => .stuck 246
      else .stuck 247
    | _ => .stuck 248
  | _, _ => .stuck 249
section
variable {P : Program} {lv0 : Am} {w0 w : World} {bs : Bs} {D : Nat → Prop} {m : Nat → Option Blk} {nid : Nat}
theorem makeMapS_sound {t : TypeId} {rs : Option SV} {rv : Option Value} {out : Out} (hi : MInv lv0 w0 bs D m w) (h : (makeMapS P nid t rs).Is out) (hD : 0 < out.nn → ¬ D nid) (hr0 : rs = none → rv = none) (hr1 : ∀ s, rs = some s → ∃ v, rv = some v ∧ Rep bs (live lv0 bs m) w s v) {r : Result Next}
    (hr : ∀ q w', (Instr.makeMap t rv).run P w = .ok q w' → r = .ok (.value q) w') : Yields lv0 w0 bs D m w nid out r := by
  unfold makeMapS at h
  split at h
  rotate_left
  · exact h.elim
  rename_i tw s hk
  obtain ⟨K, E, hu, _, _⟩ := mapKind_is hk
  have run : (Instr.makeMap t rv).run P w = .ok (.map (some w.heap.size)) (w.alloc (.map #[] 0)) ∧ out = ⟨.mp nid, [(nid, some (.mp tw s []))], [], 1, false⟩ := by
    cases rs with
    | none =>
      obtain rfl := hr0 rfl
      exact ⟨rfl, (show _ = _ from h).symm⟩
    | some x =>
      simp only [] at h
      split at h
      rotate_left
      · exact h.elim
      rename_i q hq
      obtain ⟨v, rfl, hv⟩ := hr1 x rfl
      obtain ⟨k0, n0⟩ := q
      obtain rfl := asInt_rep hv hq
      refine ⟨?_, (show _ = _ from h).symm⟩
      simp [Instr.makeMap, run_underlying hu, asInt, newObj, Sem.run]
      rfl
  obtain ⟨run, rfl⟩ := run
  have hD := hD Nat.one_pos
  obtain ⟨g1, g2⟩ := hi.new (b := nid) hD (k := .mp tw s []) (o := .map #[] 0) (cap := (0, 0)) fun bs' lv' w' he ho hb' => ⟨_, _, #[], 0, hb', ho, rfl⟩
  exact ⟨_, _, _, .inl (hr _ _ run), by simpa [mupd] using g1.eqD (fun x => news_one), by simpa [mupd] using g2, w.heap.size, (0, 0), by simp, rfl⟩
theorem beq_tw {a b : Bool} {s s' : Sh} (h : (eqB a b && eqSh s' s) = true) : a = b ∧ s' = s := by
  simp only [Bool.and_eq_true] at h
  refine ⟨?_, eqSh_eq _ _ h.2⟩
  have := h.1
  cases a <;> cases b <;> first | rfl | cases this
theorem lookS_sound {t : TypeId} {x k : SV} {ok : Bool} {u kv : Value} {out : Out} (hi : MInv lv0 w0 bs D m w) (h : (lookS P m t x k ok).Is out) (hx : Rep bs (live lv0 bs m) w x u) (hk : Rep bs (live lv0 bs m) w k kv) {r : Result Next}
    (hr : ∀ q w', (Instr.lookup t u kv ok).run P w = .ok q w' → r = .ok (.value q) w') : Yields lv0 w0 bs D m w nid out r := by
  unfold lookS at h
  split at h
  rotate_left
  · exact h.elim
  rename_i tw s b hmk
  split at h
  rotate_left
  · exact h.elim
  rename_i tw' s' l hm
  cases hb : (eqB tw tw' && eqSh s' s)
  · rw [hb] at h; exact h.elim
  rw [hb] at h
  obtain ⟨rfl, rfl⟩ := beq_tw hb
  simp only [cond_true] at h
  split at h
  rotate_left
  · exact h.elim
  rename_i p hp
  obtain rfl : _ = out := h
  obtain ⟨K, E, hu, hK, hE⟩ := mapKind_is hmk
  obtain ⟨rfl, hp2⟩ := keyS_rep hp hk
  obtain ⟨x, c, hbs, rfl⟩ := hx
  obtain ⟨x', c', es, clock, hbs', ho, he⟩ := hi.blk _ _ hm
  rw [hbs] at hbs'; cases hbs'
  obtain ⟨fr, f1, f2⟩ := find_run (w := w) hK hp2 l es.toList he
  obtain ⟨z, hz1, hz2⟩ := elKind_zero (lv := live lv0 bs m) (w := w) hE
  have key : ∃ v b, RepE (live lv0 bs m) w s' (mget l p.1 p.2) v ∧ b = mhas l p.1 p.2 ∧ (Instr.lookup t (.map (some x)) (keyV tw p) ok).run P w = .ok (if ok then .tuple #[v, .bool b] else v) w := by
    cases fr with
    | none =>
      obtain ⟨q1, _⟩ := f2
      refine ⟨z, false, by simpa [mget, q1] using hz2, by simp [mhas, q1], ?_⟩
      simp [Instr.lookup, run_underlying hu, run_getMap ho, checkKey_run hK, f1, hz1]
    | some y =>
      obtain ⟨j, v⟩ := y
      obtain ⟨_, d, q1, q2⟩ := f2
      refine ⟨v, true, by simpa [mget, q1] using q2, by simp [mhas, q1], ?_⟩
      simp [Instr.lookup, run_underlying hu, run_getMap ho, checkKey_run hK, f1]
  obtain ⟨v, b', v1, v2, run⟩ := key
  have hv := toSV_rep s' _ v v1 bs
  refine yields_pure hi (hr _ _ run) ?_
  cases ok
  · simp only [cond_false, Bool.false_eq_true, if_false]
    rw [U.mget_eq]; exact hv
  · simp only [cond_true, if_true]
    rw [U.mget_eq, U.mhas_eq]
    exact ⟨[v, .bool b'], rfl, .cons hv (.cons (by rw [v2]; rfl) .nil)⟩
theorem mupdS_sound {t : TypeId} {x k v : SV} {u kv vv : Value} {out : Out} (hi : MInv lv0 w0 bs D m w) (h : (mupdS P m t x k v).Is out) (hx : Rep bs (live lv0 bs m) w x u) (hk : Rep bs (live lv0 bs m) w k kv) (hv : Rep bs (live lv0 bs m) w v vv) {r : Result Next}
    (hr : ∀ w', (Instr.mapUpdate t u kv vv).run P w = .ok () w' → r = .ok .skip w') : Yields lv0 w0 bs D m w nid out r := by
  unfold mupdS at h
  split at h
  rotate_left
  · exact h.elim
  rename_i tw s b hmk
  split at h
  rotate_left
  · exact h.elim
  rename_i tw' s' l hm
  cases hb : (eqB tw tw' && eqSh s' s)
  · rw [hb] at h; exact h.elim
  rw [hb] at h
  obtain ⟨rfl, rfl⟩ := beq_tw hb
  simp only [cond_true] at h
  split at h
  rotate_left
  · exact h.elim
  rename_i p d hp hd
  obtain rfl : _ = out := h
  obtain ⟨K, E, hu, hK, hE⟩ := mapKind_is hmk
  obtain ⟨rfl, hp2⟩ := keyS_rep hp hk
  obtain ⟨x, c, hbs, rfl⟩ := hx
  obtain ⟨x', c', es, clock, hbs', ho, he⟩ := hi.blk _ _ hm
  rw [hbs] at hbs'; cases hbs'
  obtain ⟨fr, f1, f2⟩ := find_run (w := w) hK hp2 l es.toList he
  have hd2 := ofSV_rep s' v d vv hd hv
  have key : ∃ es' clock', (Instr.mapUpdate t (.map (some x)) (keyV tw p) vv).run P w = .ok () { w with heap := w.heap.setIfInBounds x (.map es' clock') } ∧ EntRep (live lv0 bs m) w tw s' (mput l p.1 p.2 d) es'.toList := by
    cases fr with
    | none =>
      obtain ⟨q1, q2⟩ := f2
      refine ⟨es.push { key := keyV tw p, val := vv, born := clock }, clock + 1, ?_, ?_⟩
      · simp [Instr.mapUpdate, run_underlying hu, run_getMap ho, checkKey_run hK, f1, run_setMap _ ho]
      · rw [Array.toList_push]
        exact put_new (e := { key := keyV tw p, val := vv, born := clock }) rfl hd2 hp2 l es.toList 0 he q2
    | some y =>
      obtain ⟨j, v0⟩ := y
      obtain ⟨q0, d0, q1, q2⟩ := f2
      obtain ⟨_, e, q3, q4⟩ := mplace_key l es.toList 0 j he q0
      have q5 : (((es[j]?).map (·.key)).getD (keyV tw p)) = keyV tw p := by
        have : es[j]? = some e := by simpa using q3
        rw [this]; exact q4
      refine ⟨es.modify j fun e => { e with key := keyV tw p, val := vv }, clock, ?_, ?_⟩
      · simp [Instr.mapUpdate, run_underlying hu, run_getMap ho, checkKey_run hK, f1, run_setMap _ ho, Instr.keyThatStays, q5, same_keyV]
      · have := put_at hd2 hp2 l es.toList 0 j he q0
        simpa using this
  obtain ⟨es', clock', run, hent⟩ := key
  have hlt : x < w.heap.size := (hi.rng _ _ _ hbs).2
  obtain ⟨g1, g2⟩ := hi.setO (k := .mp tw s' (mput l p.1 p.2 d)) hm hbs (w' := { w with heap := w.heap.setIfInBounds x (.map es' clock') }) ⟨rfl, rfl, rfl, by simp, fun y hy hn => by
      have hn : ¬ y = x := hn
      show (w.heap.setIfInBounds x (.map es' clock'))[y]? = _
      simp [Ne.symm hn]⟩ (by simp) (fun hE2 => ⟨x, _, es', clock', hbs, by
      show (w.heap.setIfInBounds x (.map es' clock'))[x]? = _
      simp [hlt], EntRep.extC hE2.hlv (cellsC hE2.heap) hE2.size _ _ hent⟩)
  rw [U.mput_eq]
  exact ⟨undef, _, bs, .inr ⟨hr _ run, rfl⟩, by simpa [mupd] using g1.monoD (fun x => .inl), by simpa [mupd] using g2, rfl⟩
end
end Go.RX

/- One operation that is no call of a function. -/
set_option linter.unusedVariables false
set_option linter.unusedSimpArgs false
namespace Go.RX
open Go Go.RowKit

noncomputable def builtinS (P : Program) (b : Builtin) (ts : List TypeId) (xs : List SV) : T SV :=
  match b, ts, xs with
  | .len, [t], [x] => optS 70 (lenS P t x)
  | .cap, [t], [x] => match P.underlying t, x with | some (.slice _), .lit (.slice none 0 0) => .ret (.ki .i64 0) | _, _ => .stuck 74
  | .min, _, x :: ys => optS 71 (minmaxS false x ys)
  | .max, _, x :: ys => optS 72 (minmaxS true x ys)
  | _, _, _ => .stuck 73

/-- Elements one behind the other, as one. -/
def catE : (ss ts : List Sh) → Els ss → Els ts → Els (ss ++ ts)
  | [], _, _, d => d
  | _ :: ss, ts, d, d' => (d.1, catE ss ts d.2 d')
def repSh (ss : List Sh) : Nat → List Sh
  | 0 => []
  | k + 1 => ss ++ repSh ss k
def joinE (ss : List Sh) (f : Nat → Els ss) : (k i : Nat) → Els (repSh ss k)
  | 0, _ => ()
  | k + 1, i => catE ss (repSh ss k) (f i) (joinE ss f k (i + 1))
theorem catE_rep {lv : Nat → Prop} {w : World} {g : Nat → Option Value} : ∀ (ss ts : List Sh) (d : Els ss) (d' : Els ts) (o : Nat), RepC lv w g ss d o → RepC lv w g ts d' (o + ss.length) → RepC lv w g (ss ++ ts) (catE ss ts d d') o
  | [], ts, d, d', o, _, h => h
  | s :: ss, ts, d, d', o, ⟨h1, h2⟩, h => ⟨h1, catE_rep ss ts d.2 d' (o + 1) h2 (by rw [List.length_cons] at h; rwa [show o + 1 + ss.length = o + (ss.length + 1) by omega])⟩
theorem joinE_rep {lv : Nat → Prop} {w : World} {g : Nat → Option Value} (ss : List Sh) (f : Nat → Els ss) (off : Nat) : ∀ (k i : Nat), (∀ j, j < k → RepC lv w g ss (f (i + j)) (off + (i + j) * ss.length)) → RepC lv w g (repSh ss k) (joinE ss f k i) (off + i * ss.length)
  | 0, _, _ => trivial
  | k + 1, i, h => catE_rep ss (repSh ss k) (f i) _ _ (h 0 (by omega)) (by
      have := joinE_rep ss f off k (i + 1) (fun j hj => by have := h (j + 1) (by omega); rwa [show i + (j + 1) = i + 1 + j by omega] at this)
      rwa [show off + i * ss.length + ss.length = off + (i + 1) * ss.length by rw [Nat.add_mul]; omega])
/-- A slice as a pointer to an array. -/
def arrPtrS (P : Program) (dst : TypeId) (x : SV) : T SV :=
  match P.underlying dst, x with
  | some (.array (k + 1) _), .row ss n f => .ask (k + 1 ≤ n) (.ret (.rptr (repSh ss (k + 1)) 1 (fun _ => joinE ss f (k + 1) 0) 0 0))
  | _, _ => .stuck 68
theorem arrPtrS_sound {P : Program} {bs : Bs} {lv : Nat → Prop} {w : World} {dst : TypeId} {x s : SV} {u : Value} (h : (arrPtrS P dst x).Is s) (hx : Rep bs lv w x u) :
    ∃ r, (Instr.arrayAt dst u).run P w = .ok r w ∧ Rep bs lv w s r := by
  unfold arrPtrS at h
  split at h
  · rename_i k e ss n f hu
    obtain ⟨hk, h⟩ := h
    obtain rfl : _ = s := h
    obtain ⟨a, cap, rfl, hc, htop, hcell⟩ := hx
    obtain ⟨x, off, ha, h1, h2, h3⟩ := hcell (show 0 < n by omega)
    refine ⟨.pointer a, ?_, x, off, ?_, Nat.zero_lt_one, h1, h2, fun i hi => ?_⟩
    · have : ¬ n < k + 1 := by omega
      simp [Instr.arrayAt, run_underlying hu, this]
    · rw [ha]; simp
    · obtain rfl : i = 0 := by omega
      rw [Nat.zero_mul]
      have := joinE_rep (g := fun o => w.cell? ⟨x, o, none⟩) ss f off (k + 1) 0 (fun j hj => by rw [Nat.zero_add]; exact h3 j (by show j < n; omega))
      rwa [Nat.zero_mul] at this
  · exact h.elim

noncomputable def sop (P : Program) (m : Nat → Option Blk) (nid : Nat) (ev : Operand → SV) (o : Op) : T Out :=
  match o with
  | .move x => pureO (ev x)
  | .assign x => pureO (ev x)
  | .pick c a b => (pickS (ev c) (ev a) (ev b)).bind pureO
  | .alloc e => (optS 60 ((zeroS P e).bind cellsO)).bind fun cs => .ret (newO nid e cs)
  | .box e x => (optS 61 (cellsO (ev x))).bind fun cs => .ret (newO nid e cs)
  | .build t parts => (optS 62 (buildS P t (parts.toList.map fun p => (p.1, ev p.2)))).bind pureO
  | .load t a => loadN P m nid t (ev a)
  | .store t a x => storeN P m nid t (ev a) (ev x)
  | .nilCheck x => bif nilOkS (ev x) then pureO (ev x) else .stuck 63
  | .binOp op t x y _ => (binS P op t (ev x) (ev y)).bind pureO
  | .unOp op _ x => (unS op (ev x)).bind pureO
  | .convert s d x => (optS 64 (convS P s d (ev x))).bind pureO
  | .makeFunc fn first cap => pureO (.fn fn (first.toList.map ev) (cap.toList.map ev))
  | .fieldAddr s x f => (fieldAddrS P s f (ev x)).bind pureO
  | .field s x f => (fieldS P s f (ev x)).bind pureO
  | .indexAddr t x ix => (indexAddrS P t (ev x) (ev ix)).bind pureO
  | .index t x ix => (indexS P t (ev x) (ev ix)).bind pureO
  | .extract x i => (optS 65 (extractS (ev x) i)).bind pureO
  | .sliceToArrayPointer dst x => (arrPtrS P dst (ev x)).bind pureO
  | .buildSlice t len parts => bslS P nid t len (parts.toList.map fun p => (p.1, ev p.2))
  | .makeSlice t l c => makeN P nid t (ev l) (ev c)
  | .makeMap t r => makeMapS P nid t (r.map ev)
  | .lookup t x k ok => lookS P m t (ev x) (ev k) ok
  | .mapUpdate t x k v => mupdS P m t (ev x) (ev k) (ev v)
  | .insert t x k v => mupdS P m t (ev x) (ev k) (ev v)
  | .slice t x low high none => sliceS P m nid t (ev x) (low.map ev) (high.map ev)
  | .call c =>
    match c.callee with
    | .builtin b =>
      match b, c.argTypes.toList, c.args.toList.map ev with
      | .append, [t, tx], [x, y] => appS P m nid t tx x y
      | b, ts, xs => (builtinS P b ts xs).bind pureO
    | _ => .stuck 66
  | _ => .stuck 67

section
variable {P : Program} {lv0 : Am} {w0 w : World} {bs : Bs} {D : Nat → Prop} {m : Nat → Option Blk} {nid : Nat} {sl : List SV} {a : Act}

theorem evL {lv : Nat → Prop} {ev : Operand → SV} (h : ∀ x, Rep bs lv w (ev x) (a.eval x)) (xs : List Operand) : RepL bs lv w (xs.map ev) (xs.map a.eval) := by
  induction xs with
  | nil => exact .nil
  | cons x xs ih => exact .cons (h x) ih

theorem bind_pureO {t : T SV} {out : Out} (h : (t.bind pureO).Is out) : ∃ s, t.Is s ∧ out = ⟨s, [], [], 0, false⟩ := by
  obtain ⟨s, h1, h2⟩ := T.is_bind h
  exact ⟨s, h1, (show _ = _ from h2).symm⟩

theorem yields_new (hi : MInv lv0 w0 bs D m w) (hD : ¬ D nid) {e : TypeId} {cs : List SV} {us : Array Value} (hr : RepL bs (live lv0 bs m) w cs us.toList) {r : Result Next}
    (hrun : r = .ok (.value (.pointer (some ⟨w.heap.size, 0, none⟩))) (w.alloc (.cells us e))) : Yields lv0 w0 bs D m w nid (newO nid e cs) r := by
  obtain ⟨h1, h2⟩ := hi.newCells hD e hr
  refine ⟨_, _, bs.put nid (some (w.heap.size, 0, 0)), .inl hrun, ?_, ?_, ?_⟩
  · have := h1.eqD (D' := news D nid 1) (fun x => by unfold news; constructor <;> intro h <;> rcases h with h | h <;> first | exact .inl h | (exact .inr (by omega)))
    simpa [newO, mupd] using this
  · simpa [newO, mupd] using h2
  · exact ⟨w.heap.size, (0, 0), by simp, rfl⟩

theorem sop_sound {ev : Operand → SV} {o : Oper} {out : Out} (h : (sop P m nid ev o.op).Is out) (hi : MInv lv0 w0 bs D m w) (hf : ∀ x, Rep bs (live lv0 bs m) w (ev x) (a.eval x)) (hD : 0 < out.nn → ¬ D nid) :
    Yields lv0 w0 bs D m w nid out ((execOp a.eval o).run P w) := by
  unfold execOp
  generalize o.op = op at *
  cases op <;> simp only [sop] at h ⊢ <;> try exact h.elim
  case move x => obtain rfl : _ = out := h; exact yields_pure hi rfl (hf x)
  case assign x => obtain rfl : _ = out := h; exact yields_pure hi rfl (hf x)
  case pick c x y =>
    obtain ⟨s, h1, rfl⟩ := bind_pureO h
    obtain ⟨b, hb, hs⟩ := pickS_sound (P := P) h1 (hf c) (hf x) (hf y)
    refine yields_pure hi ?_ hs
    simp [hb, asBool]
  case alloc e =>
    obtain ⟨cs, h1, h2⟩ := T.is_bind h
    obtain rfl : _ = out := h2
    obtain ⟨z, hz, hc⟩ := Option.bind_eq_some_iff.1 (optS_is h1)
    obtain ⟨v, hv, hr⟩ := zeroS_sound (bs := bs) (lv := live lv0 bs m) (w := w) hz
    obtain ⟨hcr, _⟩ := cellsO_rep hr hc
    refine yields_new (e := e) hi (hD (by simp [newO])) hcr ?_
    simp [Instr.alloc, hv, newVar, newRow]
  case box e x =>
    obtain ⟨cs, h1, h2⟩ := T.is_bind h
    obtain rfl : _ = out := h2
    obtain ⟨hcr, _⟩ := cellsO_rep (hf x) (optS_is h1)
    refine yields_new (e := e) hi (hD (by simp [newO])) hcr ?_
    simp [Instr.box, newVar, newRow]
  case build t parts =>
    obtain ⟨s, h1, rfl⟩ := bind_pureO h
    obtain ⟨v, hv, hr⟩ := buildS_sound (vals := parts.toList.map fun p => (p.1, a.eval p.2)) (optS_is h1) (by simp) (by
      simp only [List.map_map]
      have := evL hf (parts.toList.map (·.2))
      simpa [List.map_map, Function.comp_def] using this)
    refine yields_pure hi ?_ hr
    have e : (parts.map fun (p : Nat × Operand) => (p.1, a.eval p.2)) = (parts.toList.map fun p => (p.1, a.eval p.2)).toArray := by apply Array.ext'; simp
    rw [Sem.run_bind]
    rw [show (parts.map fun (x : Nat × Operand) => match x with | (i, x) => (i, a.eval x)) = (parts.map fun (p : Nat × Operand) => (p.1, a.eval p.2)) from rfl, e, hv]
    rfl
  case load t x =>
    exact loadN_sound hi h hD (hf x) fun v hv => by simp [hv]
  case store t x y =>
    exact storeN_sound hi h hD (hf x) (hf y) fun w' hv => by simp [hv]
  case nilCheck x =>
    cases hn : nilOkS (ev x)
    · rw [hn] at h; exact h.elim
    · rw [hn] at h
      obtain rfl : _ = out := h
      have hx := hf x
      refine yields_pure hi ?_ hx
      generalize ev x = s at *
      generalize a.eval x = v at *
      cases s <;> simp [nilOkS] at hn
      case ptr b off => obtain ⟨_, _, _, rfl⟩ := hx; rfl
      case fn f first cap => cases f <;> simp at hn; obtain ⟨_, _, rfl, _⟩ := hx; rfl
      case optr => obtain ⟨_, _, _, rfl⟩ := hx; rfl
      case rptr => obtain ⟨_, _, rfl, _⟩ := hx; rfl
  case binOp op t x y ty =>
    obtain ⟨s, h1, rfl⟩ := bind_pureO h
    obtain ⟨r, hr, hrr⟩ := binS_sound x y h1 (hf x) (hf y)
    exact yields_pure hi (by rw [Sem.run_bind, hr]; rfl) hrr
  case sliceToArrayPointer dst x =>
    obtain ⟨s, h1, rfl⟩ := bind_pureO h
    obtain ⟨r, hr, hrr⟩ := arrPtrS_sound h1 (hf x)
    exact yields_pure hi (by rw [Sem.run_bind, hr]; rfl) hrr
  case unOp op t x =>
    obtain ⟨s, h1, rfl⟩ := bind_pureO h
    obtain ⟨r, hr, hrr⟩ := unS_sound (P := P) (w := w) h1 (hf x)
    exact yields_pure hi (by rw [Sem.run_bind, hr]; rfl) hrr
  case convert s d x =>
    obtain ⟨s, h1, rfl⟩ := bind_pureO h
    obtain ⟨r, hr, hrr⟩ := convS_sound (optS_is h1) (hf x)
    exact yields_pure hi (by rw [Sem.run_bind, hr]; rfl) hrr
  case makeFunc fn first cap =>
    obtain rfl : _ = out := h
    refine yields_pure (v := .func fn (first.map a.eval) (cap.map a.eval)) hi rfl ⟨first.toList.map a.eval, cap.toList.map a.eval, ?_, evL hf _, evL hf _⟩
    congr 1 <;> (apply Array.ext'; simp)
  case fieldAddr s x f =>
    obtain ⟨s, h1, rfl⟩ := bind_pureO h
    obtain ⟨r, hr, hrr⟩ := fieldAddrS_sound h1 (hf x)
    exact yields_pure hi (by rw [Sem.run_bind, hr]; rfl) hrr
  case field s x f =>
    obtain ⟨s, h1, rfl⟩ := bind_pureO h
    obtain ⟨r, hr, hrr⟩ := fieldS_sound h1 (hf x)
    exact yields_pure hi (by rw [Sem.run_bind, hr]; rfl) hrr
  case indexAddr t x ix =>
    obtain ⟨s, h1, rfl⟩ := bind_pureO h
    obtain ⟨r, hr, hrr⟩ := indexAddrS_sound h1 (hf x) (hf ix)
    exact yields_pure hi (by rw [Sem.run_bind, hr]; rfl) hrr
  case index t x ix =>
    obtain ⟨s, h1, rfl⟩ := bind_pureO h
    obtain ⟨r, hr, hrr⟩ := indexS_sound h1 (hf x) (hf ix)
    exact yields_pure hi (by rw [Sem.run_bind, hr]; rfl) hrr
  case extract x i =>
    obtain ⟨s, h1, rfl⟩ := bind_pureO h
    obtain ⟨r, hr, hrr⟩ := extractS_sound (P := P) (optS_is h1) (hf x)
    exact yields_pure hi (by rw [Sem.run_bind, hr]; rfl) hrr
  case buildSlice t len parts =>
    refine bslS_sound (vals := parts.toList.map fun p => (p.1, a.eval p.2)) hi h hD (by simp) (by
      simp only [List.map_map]
      have := evL hf (parts.toList.map (·.2))
      simpa [List.map_map, Function.comp_def] using this) fun q w' hq => ?_
    have e : (parts.map fun (p : Nat × Operand) => (p.1, a.eval p.2)) = (parts.toList.map fun p => (p.1, a.eval p.2)).toArray := by apply Array.ext'; simp
    rw [Sem.run_bind]
    rw [show (parts.map fun (x : Nat × Operand) => match x with | (i, x) => (i, a.eval x)) = (parts.map fun (p : Nat × Operand) => (p.1, a.eval p.2)) from rfl, e, hq]
    rfl
  case makeMap t r =>
    refine makeMapS_sound (rv := r.map a.eval) hi h hD (fun hs => by cases r <;> simp at hs ⊢) (fun s hs => ?_) fun q w' hq => ?_
    · cases r <;> simp at hs; subst hs; exact ⟨_, rfl, hf _⟩
    · rw [Sem.run_bind, hq]; rfl
  case lookup t x k ok =>
    refine lookS_sound hi h (hf x) (hf k) fun q w' hq => ?_
    rw [Sem.run_bind, hq]; rfl
  case mapUpdate t x k v =>
    exact mupdS_sound hi h (hf x) (hf k) (hf v) fun w' hq => by simp [hq]
  case insert t x k v =>
    exact mupdS_sound hi h (hf x) (hf k) (hf v) fun w' hq => by simp [hq]
  case makeSlice t l c =>
    refine makeN_sound hi h hD (hf l) (hf c) fun q w' hq => ?_
    rw [Sem.run_bind, hq]; rfl
  case slice t x low high mx =>
    cases mx with
    | some _ => exact h.elim
    | none =>
      refine sliceS_sound (vl := low.map a.eval) (vh := high.map a.eval) hi h hD (hf x) (fun s hs => ?_) (fun hs => by cases low <;> simp at hs ⊢) (fun s hs => ?_) (fun hs => by cases high <;> simp at hs ⊢) fun q w' hq => ?_
      · cases low <;> simp at hs; subst hs; exact ⟨_, rfl, hf _⟩
      · cases high <;> simp at hs; subst hs; exact ⟨_, rfl, hf _⟩
      · rw [Sem.run_bind]
        rw [show Option.map a.eval none = (none : Option Value) from rfl, hq]; rfl
  case call c =>
    obtain ⟨callee, args, ats⟩ := c
    cases callee <;> simp only [] at h <;> try exact h.elim
    rename_i b
    have hr := evL hf args.toList
    have ea : args.map a.eval = (args.toList.map a.eval).toArray := by apply Array.ext'; simp
    have et : ats = ats.toList.toArray := by simp
    simp only [resolve]
    rw [ea]
    generalize args.toList.map a.eval = us at *
    generalize args.toList.map ev = xs at *
    generalize ats.toList = ts at *
    subst et
    split at h
    · rename_i t tx x y
      obtain ⟨u, us', rfl, hx, v, us'', rfl, hy, hr'⟩ := hr
      cases hr'
      refine appS_sound (ty := o.type) hi h hD hx hy fun q w' hq => ?_
      simp [invoke, builtin, hq]
    obtain ⟨s, h1, rfl⟩ := bind_pureO h
    unfold builtinS at h1
    split at h1
    · rename_i t x
      obtain ⟨u, us', rfl, hx, hr'⟩ := hr
      cases hr'
      obtain ⟨r, hr, hrr⟩ := lenS_sound (P := P) (ty := o.type) (optS_is h1) hx
      exact yields_pure hi (by simp [invoke, builtin, hr]) hrr
    · rename_i t x
      split at h1
      · rename_i e hu
        obtain ⟨u, us', rfl, hx, hr'⟩ := hr
        cases hr'
        obtain rfl : u = _ := hx
        obtain rfl : _ = s := h1
        refine yields_pure (v := .int .i64 0) hi ?_ rfl
        simp [invoke, builtin, Builtin.cap_, run_underlying hu]
        rfl
      · exact h1.elim
    · rename_i x ys _
      obtain ⟨u, us', rfl, hx, hr'⟩ := hr
      obtain ⟨r, hr, hrr⟩ := minmaxS_sound (P := P) false ys x s u us' (optS_is h1) hx hr'
      refine yields_pure hi ?_ hrr
      simp only [Bool.false_eq_true, if_false] at hr
      simp [invoke, builtin, Builtin.min_, hr]
    · rename_i x ys _
      obtain ⟨u, us', rfl, hx, hr'⟩ := hr
      obtain ⟨r, hr, hrr⟩ := minmaxS_sound (P := P) true ys x s u us' (optS_is h1) hx hr'
      refine yields_pure hi ?_ hrr
      simp only [if_true] at hr
      simp [invoke, builtin, Builtin.max_, hr]
    · exact h1.elim
end
end Go.RX

/- Steps: an operation with its guard, or a call; what a region of them does in the order of the text. -/
set_option linter.unusedVariables false
set_option linter.unusedSimpArgs false
namespace Go.RX
open Go Go.RowKit

abbrev Dec := List (Nat × Bool)
def Dec.get (d : Dec) (t : Nat) : Option Bool := List.lookup t d

/-- An operand, as far as decisions are known. -/
def evD (dec : Dec) (sl : List SV) (x : Operand) : SV :=
  match x with
  | .tmp t => match dec.get t with
    | some b => .kb b
    | none => ev sl (.tmp t)
  | x => ev sl x

def Mem.fn (m : Mem) : Nat → Option Blk := fun b => (m.getD b (0, none)).2
def Mem.gen (m : Mem) (b : Nat) : Nat := (m.getD b (0, none)).1
def mset (m : Mem) (b : Nat) (v : Option Blk) : Mem := bif Nat.blt b m.length then m.set b (m.gen b + 1, v) else m ++ List.replicate (b - m.length) (0, none) ++ [(0, v)]
def msets (m : Mem) (wr : List (Nat × Option Blk)) : Mem := wr.foldl (fun m p => mset m p.1 p.2) m

theorem mset_get (m : Mem) (b : Nat) (v : Option Blk) (x : Nat) : (mset m b v).getD x (0, none) = if x = b then (if b < m.length then m.gen b + 1 else 0, v) else m.getD x (0, none) := by
  unfold mset
  cases h : Nat.blt b m.length
  · have hle : m.length ≤ b := by
      rcases Nat.lt_or_ge b m.length with h' | h'
      · rw [← Nat.blt_eq] at h'; rw [h] at h'; cases h'
      · exact h'
    simp only [cond_false, List.getD_eq_getElem?_getD]
    by_cases hx : x = b
    · subst hx
      rw [if_pos rfl, if_neg (by omega), List.getElem?_append_right (by simp; omega)]
      have : x - (m ++ List.replicate (x - m.length) (0, none)).length = 0 := by simp; omega
      rw [this]; rfl
    · rw [if_neg hx]
      by_cases h1 : x < m.length
      · rw [List.append_assoc, List.getElem?_append_left h1]
      · have e1 : m[x]? = none := by simp; omega
        rw [e1]
        by_cases h2 : x < b
        · rw [List.getElem?_append_left (by simp; omega), List.getElem?_append_right (by omega)]
          simp [List.getElem?_replicate]; split <;> rfl
        · rw [List.getElem?_eq_none (by simp; omega)]
  · have hlt : b < m.length := by rw [← Nat.blt_eq]; exact h
    simp only [cond_true, List.getD_eq_getElem?_getD, List.getElem?_set]
    by_cases hx : x = b
    · subst hx; simp [hlt]
    · rw [if_neg (Ne.symm hx), if_neg hx]
theorem mset_fn (m : Mem) (b : Nat) (v : Option Blk) : (mset m b v).fn = upd m.fn b v := by
  funext x
  unfold Mem.fn upd
  rw [mset_get]
  split <;> rfl
theorem mset_len0 (m : Mem) (b : Nat) (v : Option Blk) : m.length ≤ (mset m b v).length := by
  unfold mset; cases Nat.blt b m.length <;> simp <;> omega

/-- A later state of knowledge: what was not written is as it was. -/
def Le (m m' : Mem) : Prop := m.length ≤ m'.length ∧ ∀ b, b < m.length → m'.getD b (0, none) = m.getD b (0, none) ∨ m.gen b < m'.gen b
theorem Le.refl (m : Mem) : Le m m := ⟨Nat.le_refl _, fun _ _ => .inl rfl⟩
theorem Le.trans {m m' m'' : Mem} (h : Le m m') (h' : Le m' m'') : Le m m'' := by
  refine ⟨Nat.le_trans h.1 h'.1, fun b hb => ?_⟩
  rcases h.2 b hb with h1 | h1
  · rcases h'.2 b (Nat.lt_of_lt_of_le hb h.1) with h2 | h2
    · exact .inl (h2.trans h1)
    · right; unfold Mem.gen at h2 ⊢; rw [h1] at h2; exact h2
  · rcases h'.2 b (Nat.lt_of_lt_of_le hb h.1) with h2 | h2
    · right; unfold Mem.gen at h1 ⊢; rw [h2]; exact h1
    · exact .inr (Nat.lt_trans h1 h2)
theorem le_mset (m : Mem) (b : Nat) (v : Option Blk) : Le m (mset m b v) := by
  refine ⟨mset_len0 m b v, fun x hx => ?_⟩
  by_cases h : x = b
  · subst h
    right
    unfold Mem.gen
    rw [mset_get, if_pos rfl, if_pos hx]
    exact Nat.lt_succ_self _
  · left; rw [mset_get, if_neg h]
theorem le_msets (wr : List (Nat × Option Blk)) : ∀ m : Mem, Le m (msets m wr) := by
  induction wr with
  | nil => intro m; exact .refl m
  | cons p wr ih => intro m; simp only [msets, List.foldl_cons] at ih ⊢; exact (le_mset m _ _).trans (ih _)

/-- The blocks that were written, or are new. -/
def changed (m m' : Mem) : List (Nat × Option Blk) :=
  ((List.range m'.length).filter fun b => Nat.ble m.length b || !(Nat.beq (m.gen b) (m'.gen b))).map fun b => (b, m'.fn b)
theorem mupd_list (f : Nat → Option Blk) (g : Nat → Option Blk) : ∀ (l : List Nat) (x : Nat), (l.map fun b => (b, g b)).foldl (fun (m : Nat → Option Blk) p => upd m p.1 p.2) f x = if x ∈ l then g x else f x := by
  intro l
  induction l generalizing f with
  | nil => intro x; simp
  | cons a l ih =>
    intro x
    simp only [List.map_cons, List.foldl_cons]
    rw [ih]
    by_cases h : x ∈ l
    · simp [h]
    · rw [if_neg h]
      by_cases hx : x = a
      · subst hx; simp
      · rw [upd_other _ _ hx]; simp [h, hx]

theorem msets_fn (wr : List (Nat × Option Blk)) : ∀ m : Mem, (msets m wr).fn = mupd m.fn wr := by
  induction wr with
  | nil => intro m; rfl
  | cons p wr ih => intro m; simp only [msets, mupd, List.foldl_cons] at ih ⊢; rw [ih, mset_fn]

theorem fn_out {m : Mem} {x : Nat} (h : m.length ≤ x) : m.fn x = none := by
  simp [Mem.fn, List.getD_eq_getElem?_getD, List.getElem?_eq_none h]
theorem changed_fn {m m' : Mem} (h : Le m m') : (msets m (changed m m')).fn = m'.fn := by
  rw [msets_fn]
  funext x
  unfold mupd changed
  rw [mupd_list]
  by_cases hx : x ∈ (List.range m'.length).filter fun b => Nat.ble m.length b || !(Nat.beq (m.gen b) (m'.gen b))
  · rw [if_pos hx]
  · rw [if_neg hx]
    simp only [List.mem_filter, List.mem_range, Bool.or_eq_true, Bool.not_eq_true', not_and, not_or] at hx
    by_cases hl : x < m'.length
    · obtain ⟨h1, h2⟩ := hx hl
      have hlt : x < m.length := by
        rcases Nat.lt_or_ge x m.length with h | h
        · exact h
        · exact absurd (Nat.ble_eq_true_of_le h) h1
      have hg : m.gen x = m'.gen x := by
        cases hb : Nat.beq (m.gen x) (m'.gen x)
        · exact absurd hb h2
        · exact Nat.eq_of_beq_eq_true hb
      rcases h.2 x hlt with h3 | h3
      · unfold Mem.fn; rw [h3]
      · omega
    · rw [fn_out (m := m') (by omega), fn_out (m := m) (by have := h.1; omega)]

/-- A contract of a function that neither is given nor gives back blocks of the call's own. -/
abbrev Con := List SV → T SV
/-- What a call comes to: by a contract, or by going into the body. -/
structure Env where
  P : Program
  con : FuncId → Option Con
  inl : FuncId → List SV → Mem → T (SV × Mem)

/-- A cell of a slice of slices, as it is read: one level. -/
noncomputable def vw1 (m : Nat → Option Blk) : SV → Option (SV × List Nat)
  | .own z b n =>
    match m b with
    | some (.row _ _ ss f _) => some (.row ss n f, [b])
    | _ => none
  | .csl b off n ss =>
    match m b with
    | some (.cells cs _) => (packs ss cs off n).map fun l => (.row ss n (ofList l), [b])
    | _ => none
  | .row ss n f => some (.row ss n f, [])
  | _ => none
noncomputable def vws1 (m : Nat → Option Blk) : List SV → Option (List SV × List Nat)
  | [] => some ([], [])
  | s :: ss =>
    match vw1 m s, vws1 m ss with
    | some p, some q => some (p.1 :: q.1, p.2 ++ q.2)
    | _, _ => none

mutual
/-- A value as a function sees it that may not touch the call's own blocks. -/
noncomputable def viewS (m : Nat → Option Blk) : SV → Option (SV × List Nat)
  | .any => none
  | .lit v => some (.lit v, [])
  | .kb b => some (.lit (.bool b), [])
  | .ki k n => some (.lit (.int k n), [])
  | .ptr b off =>
    match m b with
    | some (.cells cs _) =>
      match shsOf cs with
      | some ss => (packs ss cs 0 1).map fun l => (.rptr ss 1 (ofList l) 0 off, [b])
      | none => none
    | _ => none
  | .agg cs => (viewsS m cs).map fun p => (.agg p.1, p.2)
  | .tup cs => (viewsS m cs).map fun p => (.tup p.1, p.2)
  | .fn f as cs =>
    match viewsS m as, viewsS m cs with
    | some p, some q => some (.fn f p.1 q.1, p.2 ++ q.2)
    | _, _ => none
  | .own z b n =>
    match m b with
    | some (.row _ _ ss f _) => some (.row ss n f, [b])
    | some (.nest _ ss F none _ _) => some (.row [.sl ss] n (nestF F), [b])
    | _ => none
  | .optr _ _ _ _ => none
  | .csl b off n ss =>
    match m b with
    | some (.cells cs _) =>
      match packs ss cs off n with
      | some l => some (.row ss n (ofList l), [b])
      | none =>
        match vws1 m cs with
        | some q => (packs ss q.1 off n).map fun l => (.row ss n (ofList l), b :: q.2)
        | none => none
    | _ => none
  | .row ss n f => some (.row ss n f, [])
  | .rptr ss n f i o => some (.rptr ss n f i o, [])
  | .mp _ => none
noncomputable def viewsS (m : Nat → Option Blk) : List SV → Option (List SV × List Nat)
  | [] => some ([], [])
  | s :: ss =>
    match viewS m s, viewsS m ss with
    | some p, some q => some (p.1 :: q.1, p.2 ++ q.2)
    | _, _ => none
end

def bodyOk (P : Program) (f : FuncId) : Bool :=
  match P.funcs[f]? with
  | some fn => fn.body.isSome && !(fn.name == "runtime.NumGoroutine")
  | none => false

noncomputable def callS (E : Env) (m : Mem) (f : FuncId) (args : List SV) : T Out :=
  bif bodyOk E.P f then
    match E.con f with
    | some c => (optS 80 (viewsS m.fn args)).bind fun p => (c p.1).bind fun sv => bif p.2.isEmpty || sv.flat then .ret ⟨sv, [], p.2, 0, false⟩ else .ret ⟨sv, p.2.map (fun b => (b, none)), p.2, 0, false⟩
    | none => (E.inl f args m).bind fun r => .ret ⟨r.1, changed m r.2, [], r.2.length - m.length, true⟩
  else .stuck 81

mutual
/-- The value that a flat symbolic value says. -/
def valS : SV → Option Value
  | .lit v => some v
  | .kb b => some (.bool b)
  | .ki k n => some (.int k n)
  | .agg cs => (valsS cs).map fun l => .agg l.toArray
  | _ => none
def valsS : List SV → Option (List Value)
  | [] => some []
  | s :: ss =>
    match valS s, valsS ss with
    | some v, some vs => some (v :: vs)
    | _, _ => none
end
mutual
theorem valS_rep {bs : Bs} {lv : Nat → Prop} {w : World} : ∀ (s : SV) (v u : Value), valS s = some v → Rep bs lv w s u → u = v
  | .lit x, v, u, h, hr => by simp only [valS, Option.some.injEq] at h; subst h; exact hr
  | .kb x, v, u, h, hr => by simp only [valS, Option.some.injEq] at h; subst h; exact hr
  | .ki k n, v, u, h, hr => by simp only [valS, Option.some.injEq] at h; subst h; exact hr
  | .agg cs, v, u, h, ⟨us, h1, h2⟩ => by
    simp only [valS, Option.map_eq_some_iff] at h
    obtain ⟨l, h3, h4⟩ := h
    rw [h1, ← h4, valsS_rep cs l us h3 h2]
  | .any, v, u, h, hr | .ptr _ _, v, u, h, hr | .tup _, v, u, h, hr | .fn _ _ _, v, u, h, hr | .own _ _ _, v, u, h, hr | .optr _ _ _ _, v, u, h, hr | .row _ _ _, v, u, h, hr | .rptr _ _ _ _ _, v, u, h, hr | .csl _ _ _ _, v, u, h, hr | .mp _, v, u, h, hr => by simp [valS] at h
theorem valsS_rep {bs : Bs} {lv : Nat → Prop} {w : World} : ∀ (s : List SV) (v u : List Value), valsS s = some v → RepL bs lv w s u → u = v
  | [], v, u, h, hr => by simp only [valsS, Option.some.injEq] at h; subst h; exact hr
  | s :: ss, v, u, h, ⟨x, xs, h1, h2, h3⟩ => by
    rw [valsS] at h
    split at h
    · rename_i a b ha hb
      cases h
      rw [h1, valS_rep s a x ha h2, valsS_rep ss b xs hb h3]
    · cases h
end

/-- What is asked at a call of yield. -/
def YldAsk (P : Program) (l : Nat) (K : Cons) (i : Nat) (vs : List Value) : Prop := K.P = P ∧ K.l = l ∧ i < K.n ∧ vs = K.el i
def YldAskR (P : Program) (l : Nat) (K : Cons) (i : Nat) (ss : List SV) : Prop := K.P = P ∧ K.l = l ∧ i < K.n ∧ SameEls ss (K.el i)
/-- A call of yield: the consumer's round. -/
noncomputable def yieldS (E : Env) (m : Mem) (l : Nat) (args : List SV) : T Out :=
  match m.fn 0 with
  | some (.seq true K i) =>
    match valsS args with
    | some vs => bif hasT vs then .stuck 89 else .ask (YldAsk E.P l K i vs)
      (.br (K.ans i) (.ret ⟨.kb true, [(0, some (.seq true K (i + 1)))], [], 0, true⟩) (.ret ⟨.kb false, [(0, some (.seq false K (i + 1)))], [], 0, true⟩))
    | none => (optS 84 (viewsS m.fn args)).bind fun p =>
      bif p.2.any (Nat.beq 0) then .stuck 88 else .ask (YldAskR E.P l K i p.1)
      (.br (K.ans i) (.ret ⟨.kb true, p.2.map (fun b => (b, none)) ++ [(0, some (.seq true K (i + 1)))], p.2, 0, true⟩) (.ret ⟨.kb false, p.2.map (fun b => (b, none)) ++ [(0, some (.seq false K (i + 1)))], p.2, 0, true⟩))
  | _ => .stuck 83

def isOwn : SV → Bool
  | .own _ _ _ => true
  | .csl _ _ _ _ => true
  | _ => false
/-- Slices of the call's own within an element that is appended: from now on they are only read. -/
noncomputable def frzS (m : Nat → Option Blk) (y : SV) : T (List (Nat × Option Blk) × List Nat) :=
  match y with
  | .csl b off n ss =>
    match m b with
    | some (.cells cs e) =>
      bif cs.any isOwn then
        match viewsS m cs with
        | some (cs', rd) => bif rd.any (Nat.beq b) then .stuck 85 else .ret (rd.map (fun c => (c, none)) ++ [(b, some (.cells cs' e))], b :: rd)
        | none => .stuck 86
      else .ret ([], [b])
    | _ => .stuck 87
  | _ => .ret ([], [])
noncomputable def frzO (m : Nat → Option Blk) (ev : Operand → SV) (o : Op) : T (List (Nat × Option Blk) × List Nat) :=
  match o with
  | .call ⟨.builtin .append, args, _⟩ =>
    match args.toList.map ev with
    | [_, y] => frzS m y
    | _ => .ret ([], [])
  | _ => .ret ([], [])

noncomputable def sopX (E : Env) (m : Mem) (nid : Nat) (ev : Operand → SV) (o : Op) : T Out :=
  match o with
  | .call c =>
    match c.callee with
    | .value f =>
      match ev f with
      | .fn (.func g) first cap => callS E m g (first ++ c.args.toList.map ev ++ cap)
      | .lit (.func (.yield l) ⟨[]⟩ ⟨[]⟩) => yieldS E m l (c.args.toList.map ev)
      | _ => .stuck 82
    | _ => (frzO m.fn ev o).bind fun p => (sop E.P (mupd m.fn p.1) nid ev o).bind fun out => .ret { out with wr := p.1 ++ out.wr, rd := p.2 ++ out.rd }
  | o => sop E.P m.fn nid ev o

def undefO : Out := ⟨.lit undef, [], [], 0, false⟩

/-- Whether an operation is carried out: by its guard. -/
def wantB (ops : List Oper) (dec : Dec) (sl : List SV) (o : Oper) : Option Bool :=
  match o.guard with
  | none => some true
  | some (j, want) =>
    match (ops[j]?).bind (·.dst) with
    | none => some false
    | some d =>
      match evD dec sl (.tmp d) with
      | .kb b => some (b == want)
      | .lit (.tuple ⟨[]⟩) => some false
      | _ => none

structure Step where
  o : Oper
  nid : Nat
  dec : Dec
  out : Out

def putS (sl : List SV) (dst : Option Tmp) (s : SV) : List SV :=
  match dst with
  | some d => sl.set d s
  | none => sl

def Step.app (s : Step) (σ : List SV × Mem) : List SV × Mem := (putS σ.1 s.o.dst s.out.sv, msets σ.2 s.out.wr)

def DecOK (dec : Dec) (sl : List SV) : Prop := ∀ t b, dec.get t = some b → sl.getD t (.lit undef) = .lit (.bool b)

def StepOK (E : Env) (ops : List Oper) (s : Step) (σ : List SV × Mem) : Prop :=
  (∀ t ∈ s.o.looksAt ops.toArray, ∀ b, s.dec.get t = some b → σ.1.getD t (.lit undef) = .lit (.bool b)) ∧
  ((wantB ops s.dec σ.1 s.o = some true ∧ (sopX E σ.2 s.nid (evD s.dec σ.1) s.o.op).Is s.out) ∨ (wantB ops s.dec σ.1 s.o = some false ∧ s.out = undefO))

def LexOK (E : Env) (ops : List Oper) : List Step → List SV × Mem → Prop
  | [], _ => True
  | s :: rest, σ => s.nid = σ.2.length ∧ (s.app σ).2.length = s.nid + s.out.nn ∧ StepOK E ops s σ ∧ LexOK E ops rest (s.app σ)

/-- The decisions that still stand when a slot is written. -/
def Dec.forget (dec : Dec) (dst : Option Tmp) : Dec :=
  match dst with
  | some d => dec.filter fun p => !(Nat.beq p.1 d)
  | none => dec

/-- The guard asked, its Bool decided. -/
def wantS (ops : List Oper) (dec : Dec) (sl : List SV) (o : Oper) : T (Bool × Dec) :=
  match o.guard with
  | none => .ret (true, dec)
  | some (j, want) =>
    match (ops[j]?).bind (·.dst) with
    | none => .ret (false, dec)
    | some d =>
      match evD dec sl (.tmp d) with
      | .kb b => .ret (b == want, dec)
      | .lit (.tuple ⟨[]⟩) => .ret (false, dec)
      | .lit (.bool c) => .br c (.ret (true == want, (d, true) :: dec)) (.ret (false == want, (d, false) :: dec))
      | _ => .stuck 90

noncomputable def srun (E : Env) (ops : List Oper) : List Oper → Dec → List SV × Mem → List Step → T ((List SV × Mem) × List Step)
  | [], _, σ, acc => .ret (σ, acc.reverse)
  | o :: rest, dec, σ, acc =>
    (wantS ops dec σ.1 o).bind fun p =>
      (bif p.1 then sopX E σ.2 σ.2.length (evD p.2 σ.1) o.op else .ret undefO).bind fun out =>
        bif Nat.beq (msets σ.2 out.wr).length (σ.2.length + out.nn) then
          srun E ops rest (p.2.forget o.dst) (Step.app ⟨o, σ.2.length, p.2, out⟩ σ) (⟨o, σ.2.length, p.2, out⟩ :: acc)
        else .stuck 91

theorem lookup_filter {d t : Nat} {b : Bool} : ∀ {dec : Dec}, List.lookup t (dec.filter fun p => !(Nat.beq p.1 d)) = some b → t ≠ d ∧ List.lookup t dec = some b
  | [], h => by simp at h
  | (x, c) :: dec, h => by
    simp only [List.filter_cons] at h
    split at h
    · rename_i hx
      have hx' : x ≠ d := fun e => by subst e; simp at hx
      rw [List.lookup_cons] at h ⊢
      split at h
      · rename_i htx
        have : t = x := by simpa using htx
        subst this
        exact ⟨hx', by simpa using h⟩
      · obtain ⟨h1, h2⟩ := lookup_filter h
        exact ⟨h1, h2⟩
    · rename_i hx
      have hx' : x = d := by simp at hx; exact hx
      obtain ⟨h1, h2⟩ := lookup_filter h
      refine ⟨h1, ?_⟩
      rw [List.lookup_cons]
      have : (t == x) = false := by simp; rw [hx']; exact h1
      rw [this]; exact h2

theorem decOK_forget {dec : Dec} {sl : List SV} {dst : Option Tmp} {s : SV} (h : DecOK dec sl) : DecOK (dec.forget dst) (putS sl dst s) := by
  intro t b hb
  cases dst with
  | none => exact h t b hb
  | some d =>
    obtain ⟨h1, h2⟩ := lookup_filter hb
    have := h t b h2
    simp only [putS, List.getD_eq_getElem?_getD] at this ⊢
    rw [List.getElem?_set_ne (Ne.symm h1)]
    exact this

theorem wantS_sound {ops : List Oper} {dec dec' : Dec} {sl : List SV} {o : Oper} {b : Bool} (h : (wantS ops dec sl o).Is (b, dec')) (hd : DecOK dec sl) :
    wantB ops dec' sl o = some b ∧ DecOK dec' sl := by
  unfold wantS at h
  unfold wantB
  split at h
  · rename_i hg
    obtain ⟨rfl, rfl⟩ := Prod.mk.inj (show (_, _) = (_, _) from h)
    exact ⟨rfl, hd⟩
  · rename_i j want hg
    split at h
    · rename_i hj
      obtain ⟨rfl, rfl⟩ := Prod.mk.inj (show (_, _) = (_, _) from h)
      exact ⟨rfl, hd⟩
    · rename_i d hj
      split at h
      · rename_i c hc
        obtain ⟨rfl, rfl⟩ := Prod.mk.inj (show (_, _) = (_, _) from h)
        rw [hc]; exact ⟨rfl, hd⟩
      · rename_i hc
        obtain ⟨rfl, rfl⟩ := Prod.mk.inj (show (_, _) = (_, _) from h)
        rw [hc]; exact ⟨rfl, hd⟩
      · rename_i c hc
        have hsl : sl.getD d (.lit undef) = .lit (.bool c) := by
          unfold evD at hc
          simp only [] at hc
          split at hc
          · cases hc
          · exact hc
        rcases h with ⟨rfl, h⟩ | ⟨rfl, h⟩
        all_goals
          obtain ⟨rfl, rfl⟩ := Prod.mk.inj (show (_, _) = (_, _) from h)
          refine ⟨by simp [evD, Dec.get], fun t b hb => ?_⟩
          unfold Dec.get at hb
          rw [List.lookup_cons] at hb
          split at hb
          · rename_i ht
            have : t = d := by simpa using ht
            subst this
            cases hb
            exact hsl
          · exact hd t b hb
      · exact h.elim

theorem srun_sound {E : Env} {ops : List Oper} : ∀ (l : List Oper) (dec : Dec) (σ : List SV × Mem) (acc : List Step) (σ' : List SV × Mem) (steps : List Step),
    (srun E ops l dec σ acc).Is (σ', steps) → DecOK dec σ.1 →
      ∃ new, steps = acc.reverse ++ new ∧ new.map (·.o) = l ∧ LexOK E ops new σ ∧ σ' = new.foldl (fun σ s => s.app σ) σ
  | [], dec, σ, acc, σ', steps, h, hd => by
    obtain ⟨rfl, rfl⟩ := Prod.mk.inj (show (_, _) = (_, _) from h)
    exact ⟨[], by simp, rfl, trivial, rfl⟩
  | o :: rest, dec, σ, acc, σ', steps, h, hd => by
    obtain ⟨⟨b, dec'⟩, h1, h⟩ := T.is_bind h
    obtain ⟨out, h2, h⟩ := T.is_bind h
    obtain ⟨hw, hd'⟩ := wantS_sound h1 hd
    cases hlen : Nat.beq (msets σ.2 out.wr).length (σ.2.length + out.nn)
    · rw [hlen] at h; exact h.elim
    rw [hlen] at h
    simp only [cond_true] at h
    obtain ⟨new, e1, e2, e3, e4⟩ := srun_sound rest _ _ _ σ' steps h (decOK_forget hd')
    refine ⟨⟨o, σ.2.length, dec', out⟩ :: new, by simp [e1], by simp [e2], ⟨rfl, Nat.eq_of_beq_eq_true hlen, ⟨fun t _ b hb => hd' t b hb, ?_⟩, e3⟩, by simpa using e4⟩
    cases b
    · exact .inr ⟨hw, (show _ = _ from h2).symm⟩
    · exact .inl ⟨hw, h2⟩
end Go.RX

/- A step does what it says; a region in the order of the text. -/
set_option linter.unusedVariables false
set_option linter.unusedSimpArgs false
namespace Go.RX
open Go Go.RowKit

/-- A contract holds. -/
def ConOK (P : Program) (f : FuncId) (c : Con) : Prop :=
  ∀ (args : List SV) (r : SV), (c args).Is r → ∀ (lv : Nat → Prop) (w : World) (vals : List Value), (∀ x, lv x → x < w.heap.size) → RepL Bs.none lv w args vals →
    Calls P f vals.toArray w fun e w' => ∃ v, e = .returned v ∧ Below w.heap.size w w' ∧ Rep Bs.none lv w' r v

/-- Going into a body does what it says. -/
def InlOK (P : Program) (f : FuncId) (X : List SV → Mem → T (SV × Mem)) : Prop :=
  (∀ (args : List SV) (m m' : Mem) (r : SV), (X args m).Is (r, m') → Le m m') ∧
  ∀ (args : List SV) (m m' : Mem) (r : SV), (X args m).Is (r, m') → ∀ (lv0 : Am) (w0 w : World) (bs : Bs) (vals : List Value),
    MInv lv0 w0 bs (· < m.length) m.fn w → RepL bs (live lv0 bs m.fn) w args vals →
    Calls P f vals.toArray w fun e w' => ∃ v bs' lv1, e = .returned v ∧ Grow lv0 lv1 ∧ MInv lv1 w0 bs' (· < m'.length) m'.fn w' ∧
      Ext bs (live lv0 bs m.fn) w bs' (live lv1 bs' m'.fn) w' ∧ Rep bs' (live lv1 bs' m'.fn) w' r v

structure EnvOK (E : Env) : Prop where
  con : ∀ f c, E.con f = some c → ConOK E.P f c
  inl : ∀ f, InlOK E.P f (E.inl f)

section
variable {E : Env} {lv0 : Am} {w0 w : World} {bs : Bs} {D : Nat → Prop} {m : Mem} {nid : Nat} {sl : List SV} {a : Act}

theorem live_lt {mf : Nat → Option Blk} (hi : MInv lv0 w0 bs D mf w) {x : Nat} (h : live lv0 bs mf x) : x < w.heap.size := by
  rcases h with h | ⟨b, k, h1, h2⟩
  · exact hi.amb x h
  · exact (hi.rngO _ _ h2).2

/-- What the surroundings may not write while values are seen: the blocks lent are given free. -/
def lent (lv0 : Am) (bs : Bs) (mf : Nat → Option Blk) (rd : List Nat) (x : Nat) : Prop := live lv0 bs mf x ∧ ∀ b ∈ rd, ¬ bs.owns b x

theorem csl_row2 {mf : Nat → Option Blk} (hi : MInv lv0 w0 bs D mf w) {lv : Nat → Prop} (hlv : ∀ x, lv x → live lv0 bs mf x) {b off n : Nat} {ss' ss : List Sh} {cs cs' : List SV} {e : TypeId} {l : List (Els ss)} {v : Value} (hm : mf b = some (.cells cs e)) (hp : packs ss cs' off n = some l)
    (hc : ∀ us, RepL bs (live lv0 bs mf) w cs us → RepL Bs.none lv w cs' us)
    (hx : ∀ x c, bs b = some (x, c) → ¬ lv x) (h : Rep bs (live lv0 bs mf) w (.csl b off n ss') v) : RepE lv w (.sl ss) (n, ofList l) v := by
  obtain ⟨x, c, cap, hb, rfl, hcap, htop⟩ := h
  obtain ⟨x', c', us, hb', ho, hr⟩ := hi.blk _ _ hm
  rw [hb] at hb'; cases hb'
  obtain ⟨p1, p2⟩ := mapM_get _ _ _ hp
  refine ⟨_, _, rfl, Nat.le_of_eq hcap.symm, htop, fun hn => ⟨x, off, rfl, (hi.rng _ _ _ hb).2, hx x _ hb, fun i hi' => ?_⟩⟩
  have hi2 : i < n := hi'
  obtain ⟨d, hd, hpk⟩ := p2 i i (by simp [hi2])
  show RepC lv w _ ss (ofList l i) _
  rw [ofList_get l i d hd]
  refine packE_rep ss d _ _ _ _ hpk (((hc us hr).drop (off + i * ss.length)).take ss.length) fun q hq => ?_
  simp only [List.length_take, List.length_drop] at hq
  rw [List.getElem?_take_of_lt (by omega), List.getElem?_drop]
  simp [World.cell?, ho]
theorem vw1_sound {mf : Nat → Option Blk} (hi : MInv lv0 w0 bs D mf w) (lv : Nat → Prop) (hlv : ∀ x, lv x → live lv0 bs mf x) : ∀ (s s' : SV) (rd : List Nat) (v : Value), vw1 mf s = some (s', rd) → (∀ b ∈ rd, ∀ x, bs.owns b x → ¬ lv x) →
    Rep bs (live lv0 bs mf) w s v → Rep Bs.none lv w s' v
  | .own z b n, s', rd, v, h, hl, hr => by
    rw [vw1] at h
    split at h
    · rename_i z' n' ss f e hm
      simp only [Option.some.injEq, Prod.mk.injEq] at h
      obtain ⟨rfl, rfl⟩ := h
      exact own_row hi hlv hm (fun x c hbx => hl b (by simp) x (.inl ⟨c, hbx⟩)) hr
    · cases h
  | .csl b off n ss, s', rd, v, h, hl, hr => by
    rw [vw1] at h
    split at h
    · rename_i cs e hm
      simp only [Option.map_eq_some_iff] at h
      obtain ⟨l, hp, h⟩ := h
      obtain ⟨rfl, rfl⟩ := Prod.mk.inj h
      exact csl_row hi hlv hm hp (fun x c hbx => hl b (by simp) x (.inl ⟨c, hbx⟩)) hr
    · cases h
  | .row ss n f, s', rd, v, h, hl, hr => by
    simp only [vw1, Option.some.injEq, Prod.mk.injEq] at h
    obtain ⟨rfl, rfl⟩ := h
    exact RepE.ext (fun x _ hx => hlv x hx) (fun _ _ _ => rfl) (Nat.le_refl _) (.sl ss) (n, f) v hr
  | .any, s', rd, v, h, hl, hr | .lit _, s', rd, v, h, hl, hr | .kb _, s', rd, v, h, hl, hr | .ki _ _, s', rd, v, h, hl, hr | .ptr _ _, s', rd, v, h, hl, hr | .optr _ _ _ _, s', rd, v, h, hl, hr | .agg _, s', rd, v, h, hl, hr | .tup _, s', rd, v, h, hl, hr | .fn _ _ _, s', rd, v, h, hl, hr | .rptr _ _ _ _ _, s', rd, v, h, hl, hr => by simp [vw1] at h
theorem vws1_sound {mf : Nat → Option Blk} (hi : MInv lv0 w0 bs D mf w) (lv : Nat → Prop) (hlv : ∀ x, lv x → live lv0 bs mf x) : ∀ (s s' : List SV) (rd : List Nat) (v : List Value), vws1 mf s = some (s', rd) → (∀ b ∈ rd, ∀ x, bs.owns b x → ¬ lv x) →
    RepL bs (live lv0 bs mf) w s v → RepL Bs.none lv w s' v
  | [], s', rd, v, h, hl, hr => by simp only [vws1, Option.some.injEq, Prod.mk.injEq] at h; obtain ⟨rfl, rfl⟩ := h; exact hr
  | s :: ss, s', rd, v, h, hl, ⟨u, us, h1, h2, h3⟩ => by
    rw [vws1] at h
    split at h
    · rename_i p q hp hq
      simp only [Option.some.injEq, Prod.mk.injEq] at h
      obtain ⟨rfl, rfl⟩ := h
      exact ⟨u, us, h1, vw1_sound hi lv hlv s p.1 p.2 u hp (fun b hb => hl b (by simp [hb])) h2, vws1_sound hi lv hlv ss q.1 q.2 us hq (fun b hb => hl b (by simp [hb])) h3⟩
    · cases h

mutual
theorem viewS_sound {mf : Nat → Option Blk} (hi : MInv lv0 w0 bs D mf w) (lv : Nat → Prop) (hlv : ∀ x, lv x → live lv0 bs mf x) : ∀ (s s' : SV) (rd : List Nat) (v : Value), viewS mf s = some (s', rd) → (∀ b ∈ rd, ∀ x, bs.owns b x → ¬ lv x) →
    Rep bs (live lv0 bs mf) w s v → Rep Bs.none lv w s' v
  | .any, s', rd, v, h, hl, hr => by simp [viewS] at h
  | .lit u, s', rd, v, h, hl, hr => by simp only [viewS, Option.some.injEq, Prod.mk.injEq] at h; obtain ⟨rfl, rfl⟩ := h; exact hr
  | .kb u, s', rd, v, h, hl, hr => by simp only [viewS, Option.some.injEq, Prod.mk.injEq] at h; obtain ⟨rfl, rfl⟩ := h; exact hr
  | .ki u n, s', rd, v, h, hl, hr => by simp only [viewS, Option.some.injEq, Prod.mk.injEq] at h; obtain ⟨rfl, rfl⟩ := h; exact hr
  | .ptr b off, s', rd, v, h, hl, hr => by
    rw [viewS] at h
    split at h
    · rename_i cs e hm
      split at h
      · simp only [Option.map_eq_some_iff] at h
        obtain ⟨l, hp, h⟩ := h
        obtain ⟨rfl, rfl⟩ := Prod.mk.inj h
        exact ptr_rptr hi hlv hm hp (fun x c hbx => hl b (by simp) x (.inl ⟨c, hbx⟩)) hr
      · cases h
    · cases h
  | .optr _ _ _ _, s', rd, v, h, hl, hr => by simp [viewS] at h
  | .agg cs, s', rd, v, h, hl, ⟨us, h1, h2⟩ => by
    simp only [viewS, Option.map_eq_some_iff] at h
    obtain ⟨⟨cs', rd'⟩, h3, h4⟩ := h
    obtain ⟨rfl, rfl⟩ := Prod.mk.inj h4
    exact ⟨us, h1, viewsS_sound hi lv hlv cs cs' _ us h3 hl h2⟩
  | .tup cs, s', rd, v, h, hl, ⟨us, h1, h2⟩ => by
    simp only [viewS, Option.map_eq_some_iff] at h
    obtain ⟨⟨cs', rd'⟩, h3, h4⟩ := h
    obtain ⟨rfl, rfl⟩ := Prod.mk.inj h4
    exact ⟨us, h1, viewsS_sound hi lv hlv cs cs' _ us h3 hl h2⟩
  | .fn f as cs, s', rd, v, h, hl, ⟨us, ts, h1, h2, h3⟩ => by
    rw [viewS] at h
    split at h
    · rename_i p q hp hq
      simp only [Option.some.injEq, Prod.mk.injEq] at h
      obtain ⟨rfl, rfl⟩ := h
      exact ⟨us, ts, h1, viewsS_sound hi lv hlv as p.1 p.2 us hp (fun b hb => hl b (by simp [hb])) h2, viewsS_sound hi lv hlv cs q.1 q.2 ts hq (fun b hb => hl b (by simp [hb])) h3⟩
    · cases h
  | .own z b n, s', rd, v, h, hl, hr => by
    rw [viewS] at h
    split at h
    · rename_i z' n' ss f e hm
      simp only [Option.some.injEq, Prod.mk.injEq] at h
      obtain ⟨rfl, rfl⟩ := h
      exact own_row hi hlv hm (fun x c hbx => hl b (by simp) x (.inl ⟨c, hbx⟩)) hr
    · rename_i n' ss F e e2 hm
      simp only [Option.some.injEq, Prod.mk.injEq] at h
      obtain ⟨rfl, rfl⟩ := h
      exact own_nest hi hlv hm (fun x hbx => hl b (by simp) x hbx) hr
    · cases h
  | .csl b off n ss, s', rd, v, h, hl, hr => by
    rw [viewS] at h
    split at h
    · rename_i cs e hm
      split at h
      · rename_i l hp
        simp only [Option.some.injEq, Prod.mk.injEq] at h
        obtain ⟨rfl, rfl⟩ := h
        exact csl_row hi hlv hm hp (fun x c hbx => hl b (by simp) x (.inl ⟨c, hbx⟩)) hr
      · split at h
        · rename_i q hq
          simp only [Option.map_eq_some_iff] at h
          obtain ⟨l, hp, h⟩ := h
          obtain ⟨rfl, rfl⟩ := Prod.mk.inj h
          exact csl_row2 hi hlv hm hp (fun us hu => vws1_sound hi lv hlv cs q.1 q.2 us hq (fun b' hb' => hl b' (by simp [hb'])) hu) (fun x c hbx => hl b (by simp) x (.inl ⟨c, hbx⟩)) hr
        · cases h
    · cases h
  | .row ss n f, s', rd, v, h, hl, hr => by
    simp only [viewS, Option.some.injEq, Prod.mk.injEq] at h
    obtain ⟨rfl, rfl⟩ := h
    exact RepE.ext (fun x _ hx => hlv x hx) (fun _ _ _ => rfl) (Nat.le_refl _) (.sl ss) (n, f) v hr
  | .rptr ss n f i o, s', rd, v, h, hl, ⟨x, off, h1, h2, g2, g3, g4⟩ => by
    simp only [viewS, Option.some.injEq, Prod.mk.injEq] at h
    obtain ⟨rfl, rfl⟩ := h
    exact ⟨x, off, h1, h2, g2, fun hx => g3 (hlv x hx), fun i hi' => RepC.ext (fun x _ hx => hlv x hx) (fun _ _ _ => rfl) (Nat.le_refl _) ss (f i) _ _ _ (fun _ _ _ h => h) (g4 i hi')⟩
theorem viewsS_sound {mf : Nat → Option Blk} (hi : MInv lv0 w0 bs D mf w) (lv : Nat → Prop) (hlv : ∀ x, lv x → live lv0 bs mf x) : ∀ (s s' : List SV) (rd : List Nat) (v : List Value), viewsS mf s = some (s', rd) → (∀ b ∈ rd, ∀ x, bs.owns b x → ¬ lv x) →
    RepL bs (live lv0 bs mf) w s v → RepL Bs.none lv w s' v
  | [], s', rd, v, h, hl, hr => by simp only [viewsS, Option.some.injEq, Prod.mk.injEq] at h; obtain ⟨rfl, rfl⟩ := h; exact hr
  | s :: ss, s', rd, v, h, hl, ⟨u, us, h1, h2, h3⟩ => by
    rw [viewsS] at h
    split at h
    · rename_i p q hp hq
      simp only [Option.some.injEq, Prod.mk.injEq] at h
      obtain ⟨rfl, rfl⟩ := h
      exact ⟨u, us, h1, viewS_sound hi lv hlv s p.1 p.2 u hp (fun b hb => hl b (by simp [hb])) h2, viewsS_sound hi lv hlv ss q.1 q.2 us hq (fun b hb => hl b (by simp [hb])) h3⟩
    · cases h
end
end
end Go.RX

/- A step in its frame; a region in the order of the text. -/
set_option linter.unusedVariables false
set_option linter.unusedSimpArgs false
namespace Go.RX
open Go Go.RowKit

theorem vw1_rd {mf : Nat → Option Blk} : ∀ (s s' : SV) (rd : List Nat), vw1 mf s = some (s', rd) → ∀ b ∈ rd, ∃ k, mf b = some k
  | .own z b n, s', rd, h => by
    rw [vw1] at h
    split at h
    · rename_i z' n' ss f e hm
      simp only [Option.some.injEq, Prod.mk.injEq] at h
      obtain ⟨_, rfl⟩ := h
      intro c hc
      obtain rfl : c = b := by simpa using hc
      exact ⟨_, hm⟩
    · cases h
  | .csl b off n ss, s', rd, h => by
    rw [vw1] at h
    split at h
    · rename_i cs e hm
      simp only [Option.map_eq_some_iff] at h
      obtain ⟨l, hp, h⟩ := h
      obtain ⟨_, rfl⟩ := Prod.mk.inj h
      intro c hc
      obtain rfl : c = b := by simpa using hc
      exact ⟨_, hm⟩
    · cases h
  | .row ss n f, s', rd, h => by
    simp only [vw1, Option.some.injEq, Prod.mk.injEq] at h
    obtain ⟨_, rfl⟩ := h; simp
  | .any, s', rd, h | .lit _, s', rd, h | .kb _, s', rd, h | .ki _ _, s', rd, h | .ptr _ _, s', rd, h | .optr _ _ _ _, s', rd, h | .agg _, s', rd, h | .tup _, s', rd, h | .fn _ _ _, s', rd, h | .rptr _ _ _ _ _, s', rd, h => by simp [vw1] at h
theorem vws1_rd {mf : Nat → Option Blk} : ∀ (s s' : List SV) (rd : List Nat), vws1 mf s = some (s', rd) → ∀ b ∈ rd, ∃ k, mf b = some k
  | [], s', rd, h => by simp only [vws1, Option.some.injEq, Prod.mk.injEq] at h; obtain ⟨_, rfl⟩ := h; simp
  | s :: ss, s', rd, h => by
    rw [vws1] at h
    split at h
    · rename_i p q hp hq
      simp only [Option.some.injEq, Prod.mk.injEq] at h
      obtain ⟨_, rfl⟩ := h
      intro c hc
      rcases List.mem_append.1 hc with hc | hc
      · exact vw1_rd s p.1 p.2 hp c hc
      · exact vws1_rd ss q.1 q.2 hq c hc
    · cases h
mutual
/-- What was looked at is there. -/
theorem viewS_rd {mf : Nat → Option Blk} : ∀ (s s' : SV) (rd : List Nat), viewS mf s = some (s', rd) → ∀ b ∈ rd, ∃ k, mf b = some k
  | .any, s', rd, h => by simp [viewS] at h
  | .lit u, s', rd, h => by simp only [viewS, Option.some.injEq, Prod.mk.injEq] at h; obtain ⟨_, rfl⟩ := h; simp
  | .kb u, s', rd, h => by simp only [viewS, Option.some.injEq, Prod.mk.injEq] at h; obtain ⟨_, rfl⟩ := h; simp
  | .ki u n, s', rd, h => by simp only [viewS, Option.some.injEq, Prod.mk.injEq] at h; obtain ⟨_, rfl⟩ := h; simp
  | .ptr b off, s', rd, h => by
    rw [viewS] at h
    split at h
    · rename_i cs e hm
      split at h
      · simp only [Option.map_eq_some_iff] at h
        obtain ⟨l, hp, h⟩ := h
        obtain ⟨_, rfl⟩ := Prod.mk.inj h
        intro c hc
        obtain rfl : c = b := by simpa using hc
        exact ⟨_, hm⟩
      · cases h
    · cases h
  | .optr _ _ _ _, s', rd, h => by simp [viewS] at h
  | .agg cs, s', rd, h => by
    simp only [viewS, Option.map_eq_some_iff] at h
    obtain ⟨⟨cs', rd'⟩, h3, h4⟩ := h
    obtain ⟨_, rfl⟩ := Prod.mk.inj h4
    exact viewsS_rd cs cs' _ h3
  | .tup cs, s', rd, h => by
    simp only [viewS, Option.map_eq_some_iff] at h
    obtain ⟨⟨cs', rd'⟩, h3, h4⟩ := h
    obtain ⟨_, rfl⟩ := Prod.mk.inj h4
    exact viewsS_rd cs cs' _ h3
  | .fn f as cs, s', rd, h => by
    rw [viewS] at h
    split at h
    · rename_i p q hp hq
      simp only [Option.some.injEq, Prod.mk.injEq] at h
      obtain ⟨_, rfl⟩ := h
      intro b hb
      rcases List.mem_append.1 hb with hb | hb
      · exact viewsS_rd as p.1 p.2 hp b hb
      · exact viewsS_rd cs q.1 q.2 hq b hb
    · cases h
  | .own z b n, s', rd, h => by
    rw [viewS] at h
    split at h
    · rename_i z' n' ss f e hm
      simp only [Option.some.injEq, Prod.mk.injEq] at h
      obtain ⟨_, rfl⟩ := h
      intro c hc
      obtain rfl : c = b := by simpa using hc
      exact ⟨_, hm⟩
    · rename_i n' ss F e e2 hm
      simp only [Option.some.injEq, Prod.mk.injEq] at h
      obtain ⟨_, rfl⟩ := h
      intro c hc
      obtain rfl : c = b := by simpa using hc
      exact ⟨_, hm⟩
    · cases h
  | .csl b off n ss, s', rd, h => by
    rw [viewS] at h
    split at h
    · rename_i cs e hm
      split at h
      · simp only [Option.some.injEq, Prod.mk.injEq] at h
        obtain ⟨_, rfl⟩ := h
        intro c hc
        obtain rfl : c = b := by simpa using hc
        exact ⟨_, hm⟩
      · split at h
        · rename_i q hq
          simp only [Option.map_eq_some_iff] at h
          obtain ⟨l, hp, h⟩ := h
          obtain ⟨_, rfl⟩ := Prod.mk.inj h
          intro c hc
          rcases List.mem_cons.1 hc with rfl | hc
          · exact ⟨_, hm⟩
          · exact vws1_rd cs q.1 q.2 hq c hc
        · cases h
    · cases h
  | .row ss n f, s', rd, h => by
    simp only [viewS, Option.some.injEq, Prod.mk.injEq] at h
    obtain ⟨_, rfl⟩ := h; simp
  | .rptr ss n f i o, s', rd, h => by
    simp only [viewS, Option.some.injEq, Prod.mk.injEq] at h
    obtain ⟨_, rfl⟩ := h; simp
theorem viewsS_rd {mf : Nat → Option Blk} : ∀ (s s' : List SV) (rd : List Nat), viewsS mf s = some (s', rd) → ∀ b ∈ rd, ∃ k, mf b = some k
  | [], s', rd, h => by simp only [viewsS, Option.some.injEq, Prod.mk.injEq] at h; obtain ⟨_, rfl⟩ := h; simp
  | s :: ss, s', rd, h => by
    rw [viewsS] at h
    split at h
    · rename_i p q hp hq
      simp only [Option.some.injEq, Prod.mk.injEq] at h
      obtain ⟨_, rfl⟩ := h
      intro b hb
      rcases List.mem_append.1 hb with hb | hb
      · exact viewS_rd s p.1 p.2 hp b hb
      · exact viewsS_rd ss q.1 q.2 hq b hb
    · cases h
end

section
variable {E : Env} {lv0 : Am} {w0 w : World} {bs : Bs} {D : Nat → Prop} {m : Mem} {nid : Nat} {sl : List SV} {a : Act}

/-- Blocks are forgotten. -/
theorem MInv.drops : ∀ (l : List Nat) {mf : Nat → Option Blk}, MInv lv0 w0 bs D mf w → MInv lv0 w0 bs D (mupd mf (l.map fun b => (b, none))) w ∧ Ext bs (live lv0 bs mf) w bs (live lv0 bs (mupd mf (l.map fun b => (b, none)))) w
  | [], mf, h => ⟨h, Ext.refl _ _ _⟩
  | b :: l, mf, h => by
    obtain ⟨d1, d2⟩ := h.drop b
    obtain ⟨e1, e2⟩ := MInv.drops l d1
    exact ⟨e1, d2.trans e2⟩
theorem mupd_none (mf : Nat → Option Blk) (l : List Nat) (x : Nat) : mupd mf (l.map fun b => (b, none)) x = if x ∈ l then none else mf x :=
  mupd_list mf (fun _ => none) l x

theorem FInv.put {lv lv' : Nat → Prop} {bs' : Bs} {w' : World} (h : FInv bs lv w sl a) (he : Ext bs lv w bs' lv' w') {s : SV} {v : Value} (dst : Option Tmp) (hr : Rep bs' lv' w' s v) :
    FInv bs' lv' w' (putS sl dst s) (a.put dst v) := by
  cases dst with
  | none => exact ⟨he.repL h.rep⟩
  | some d =>
    refine ⟨?_⟩
    have := (he.repL h.rep).set d hr
    simpa [putS, Act.put, Array.toList_setIfInBounds] using this

/-- What holds behind a step. -/
def After (lv0 : Am) (w0 : World) (D : Nat → Prop) (m : Mem) (nid : Nat) (sl : List SV) (dst : Option Tmp) (out : Out) (bs : Bs) (w : World) (a' : Act) (w' : World) : Prop :=
  ∃ bs' lv1, Grow lv0 lv1 ∧ MInv lv1 w0 bs' (news D nid out.nn) (msets m out.wr).fn w' ∧ FInv bs' (live lv1 bs' (msets m out.wr).fn) w' (putS sl dst out.sv) a' ∧
    Ext bs (live lv0 bs m.fn) w bs' (live lv1 bs' (msets m out.wr).fn) w'

/-- A block is told anew, the world as it is. -/
theorem MInv.retell {mf : Nat → Option Blk} (h : MInv lv0 w0 bs D mf w) {b : Nat} {k0 k : Blk} (hb : mf b = some k0) (hns : k.isSeq = false) (hk : BlkRep lv0 bs (live lv0 bs (upd mf b (some k))) w b k) (hnn : k.isNest = k0.isNest := by rfl) :
    MInv lv0 w0 bs D (upd mf b (some k)) w ∧ Ext bs (live lv0 bs mf) w bs (live lv0 bs (upd mf b (some k))) w := by
  have he : Ext bs (live lv0 bs mf) w bs (live lv0 bs (upd mf b (some k))) w :=
    ⟨fun _ _ h => h, fun y _ hl => live_upd hb hl, fun _ _ _ => rfl, Nat.le_refl _⟩
  refine ⟨?_, he⟩
  exact { below := h.below, base := h.base, amb := h.amb, fixed := h.fixed, sepO := (fun c k1 y hc => by obtain ⟨k2, g⟩ := owned_upd hb hc; exact h.sepO c k2 y g), rngO := h.rngO
          one := fun c k1 hc hs => by
            by_cases e : c = b
            · subst e; simp at hc; subst hc; rw [hns] at hs; cases hs
            · rw [upd_other _ _ e] at hc; exact h.one c k1 hc hs
          injO := fun c c' k1 k2 x h1 h2 h3 h4 => by
            obtain ⟨_, g1⟩ := owned_upd hb h1
            obtain ⟨_, g2⟩ := owned_upd hb h2
            exact h.injO _ _ _ _ _ g1 g2 h3 h4
          blk := fun c k1 hc => by
            by_cases e : c = b
            · subst e; simp at hc; subst hc; exact hk
            · rw [upd_other _ _ e] at hc; exact he.blk (h.blk c k1 hc) (fun _ _ => rfl) id (fun _ => .rfl) (Turn.refl _ _)
          nst := fun c k1 x h1 h2 => by
            by_cases e : c = b
            · subst e; simp at h1; subst h1; rw [hnn]; exact h.nst c k0 x hb h2
            · rw [upd_other _ _ e] at h1; exact h.nst c k1 x h1 h2
          domO := fun c hc => by
            have e : c ≠ b := fun e => by subst e; have := (h.dom c hc).2; rw [hb] at this; cases this
            rw [upd_other _ _ e]; exact h.domO c hc }

theorem frz_sound {mf : Nat → Option Blk} (hi : MInv lv0 w0 bs D mf w) {y : SV} {p : List (Nat × Option Blk) × List Nat} (h : (frzS mf y).Is p) :
    MInv lv0 w0 bs D (mupd mf p.1) w ∧ Ext bs (live lv0 bs mf) w bs (live lv0 bs (mupd mf p.1)) w := by
  have triv : p = ([], []) ∨ (∃ b, p = ([], [b])) → MInv lv0 w0 bs D (mupd mf p.1) w ∧ Ext bs (live lv0 bs mf) w bs (live lv0 bs (mupd mf p.1)) w := fun hp => by
    rcases hp with rfl | ⟨b, rfl⟩ <;> exact ⟨hi, Ext.refl _ _ _⟩
  unfold frzS at h
  split at h
  rotate_left
  · exact triv (.inl (show _ = p from h).symm)
  rename_i b off n ss
  split at h
  rotate_left
  · exact h.elim
  rename_i cs e hb
  cases ho : cs.any isOwn
  · rw [ho] at h; exact triv (.inr ⟨b, (show _ = p from h).symm⟩)
  rw [ho] at h
  simp only [cond_true] at h
  split at h
  rotate_left
  · exact h.elim
  rename_i cs' rd hv
  cases hr : rd.any (Nat.beq b)
  rotate_left
  · rw [hr] at h; exact h.elim
  rw [hr] at h
  simp only [cond_false] at h
  obtain rfl : _ = p := h
  have hnb : b ∉ rd := fun hm => by
    rw [List.any_eq_false] at hr
    exact hr b hm (by simp)
  obtain ⟨d1, d2⟩ := MInv.drops rd hi
  have hrd := viewsS_rd cs cs' rd hv
  have hb' : mupd mf (rd.map fun b => (b, none)) b = some (.cells cs e) := by rw [mupd_none, if_neg hnb]; exact hb
  have e0 : mupd mf (rd.map (fun c => (c, none)) ++ [(b, some (.cells cs' e))]) = upd (mupd mf (rd.map fun c => (c, none))) b (some (.cells cs' e)) := by
    unfold mupd; rw [List.foldl_append]; rfl
  show MInv lv0 w0 bs D (mupd mf (rd.map (fun c => (c, none)) ++ [(b, some (.cells cs' e))])) w ∧ _
  have hlv : ∀ x, live lv0 bs (upd (mupd mf (rd.map fun c => (c, none))) b (some (.cells cs' e))) x → live lv0 bs mf x ∧ ∀ c ∈ rd, ¬ bs.owns c x := fun x hx => by
    rcases hx with hx | ⟨c, k, g1, g2⟩
    · exact ⟨.inl hx, fun c hc' hc => by obtain ⟨k2, hk2⟩ := hrd c hc'; exact hi.sepO c k2 x hk2 hc hx⟩
    · have hc : c ∉ rd ∧ ∃ k', mf c = some k' := by
        by_cases e : c = b
        · rw [e]; exact ⟨hnb, _, hb⟩
        · rw [upd_other _ _ e, mupd_none] at g1
          split at g1
          · cases g1
          · rename_i hn; exact ⟨hn, _, g1⟩
      obtain ⟨hc1, k', hc2⟩ := hc
      refine ⟨.inr ⟨c, k', hc2, g2⟩, fun c' hc' hbx => ?_⟩
      obtain ⟨k2, hk2⟩ := hrd c' hc'
      exact hc1 ((hi.injO _ _ _ _ _ hk2 hc2 hbx g2) ▸ hc')
  obtain ⟨x, c, us, g1, g2, g3⟩ := hi.blk b _ hb
  have hre := d1.retell (k := .cells cs' e) hb' rfl ⟨x, c, us, g1, g2, RepL.ext (bs := Bs.none) (fun _ _ h => by cases h) (fun _ _ h => h) (fun _ _ _ => rfl) (Nat.le_refl _) _ _
    (viewsS_sound hi _ (fun x hx => (hlv x hx).1) cs cs' rd us hv (fun c hc x hbx hx => (hlv x hx).2 c hc hbx) g3)⟩
  rw [e0]
  exact ⟨hre.1, d2.trans hre.2⟩
theorem mupd_append (mf : Nat → Option Blk) (l l' : List (Nat × Option Blk)) : mupd mf (l ++ l') = mupd (mupd mf l) l' := by unfold mupd; rw [List.foldl_append]
theorem frzO_sound {mf : Nat → Option Blk} (hi : MInv lv0 w0 bs D mf w) {ev : Operand → SV} {o : Op} {p : List (Nat × Option Blk) × List Nat} (h : (frzO mf ev o).Is p) :
    MInv lv0 w0 bs D (mupd mf p.1) w ∧ Ext bs (live lv0 bs mf) w bs (live lv0 bs (mupd mf p.1)) w := by
  have triv : ([], []) = p → MInv lv0 w0 bs D (mupd mf p.1) w ∧ Ext bs (live lv0 bs mf) w bs (live lv0 bs (mupd mf p.1)) w := fun hp => by
    subst hp; exact ⟨hi, Ext.refl _ _ _⟩
  unfold frzO at h
  split at h
  · split at h
    · exact frz_sound hi h
    · exact triv h
  · exact triv h

/-- All functions, no bound of depth; within a round of a loop over a function, or within none. -/
def Fr (ro : Option Nat) : Fence := { Fence.wide with round := ro }
theorem callsIn_fr {ro : Option Nat} {n : Nat} {P : Program} {f : FuncId} {args : Array Value} {w : World} {R : Ending → World → Prop} : CallsIn (Fr ro) n P f args w R ↔ Calls P f args w R :=
  (callsIn_wide (n := n) : CallsIn Fence.wide n P f args w R ↔ Calls P f args w R)
theorem fr_any {ro : Option Nat} {n m : Nat} {P : Program} {c : Code} {Q : Exit → Act → World → Prop} {a : Act} {w : World} (h : c.wpIn (Fr ro) n P Q a w) : c.wpIn (Fr ro) m P Q a w :=
  fun b k cs hro hb _ => h b k cs hro hb (fun d hd => by cases hd)
theorem put_defers (a : Act) (d : Option Tmp) (v : Value) : (a.put d v).defers = a.defers := by cases d <;> rfl
theorem after_of_yields {ro : Option Nat} {o : Oper} {out : Out} {r : Result Next} {Q : Exit → Act → World → Prop} (hf : FInv bs (live lv0 bs m.fn) w sl a) (h : Yields lv0 w0 bs D m.fn w nid out r) :
    o.uponIn (Fr ro) 3 E.P a (fun a' w' => After lv0 w0 D m nid sl o.dst out bs w a' w' ∧ a'.defers = a.defers) Q r := by
  obtain ⟨v, w', bs', hr, h1, h2, h3⟩ := h
  rw [← msets_fn] at h1 h2 h3
  rcases hr with rfl | ⟨rfl, rfl⟩
  · exact ⟨⟨bs', lv0, .refl _, h1, hf.put h2 o.dst h3, h2⟩, put_defers _ _ _⟩
  · exact ⟨⟨bs', lv0, .refl _, h1, hf.put h2 o.dst h3, h2⟩, put_defers _ _ _⟩

theorem round_fr {ro : Option Nat} {n m : Nat} {P : Program} {l : Nat} {f : FuncId} {tmps : Array Value} {assign body : Code} {w : World} {R : Ending → World → Prop} (h : RoundIn Fence.wide n P l f tmps assign body w R) : RoundIn (Fr ro) m P l f tmps assign body w R :=
  ⟨trivial, fun c cs _ => h.2 c cs (room_wide _)⟩
/-- A consumer's round: what is known behind it. -/
theorem MInv.turn {mf : Nat → Option Blk} (h : MInv lv0 w0 bs D mf w) {K : Cons} {go : Bool} {i : Nat} (hK : mf 0 = some (.seq go K i)) {V V' : Nat → Prop} {w' : World} (hC : K.C i V w) (hV : ∀ x, V x → lv0 x ∧ lv0.fix x = none)
    (k1 : K.C (i + 1) V' w') (k2 : ∀ x, V x → V' x) (k3 : ∀ x, V' x → V x ∨ w.heap.size ≤ x) (k4 : Turn V w w') {go' : Bool} (hs : SeqAt K go' (i + 1)) :
    ∃ lv1, Grow lv0 lv1 ∧ MInv lv1 w0 bs D (upd mf 0 (some (.seq go' K (i + 1)))) w' ∧ Ext bs (live lv0 bs mf) w bs (live lv1 bs (upd mf 0 (some (.seq go' K (i + 1))))) w' := by
  obtain ⟨c1, c2, c3, c4, _⟩ := h.blk 0 _ hK
  obtain ⟨lv1, rfl⟩ : ∃ lv1 : Am, lv1 = { lv0 with lv := fun x => lv0 x ∨ V' x } := ⟨_, rfl⟩
  have hsub := c1.sub (i + 1) V' w' k1
  have hsub0 := c1.sub i V w hC
  have hg : Grow lv0 { lv0 with lv := fun x => lv0 x ∨ V' x } := ⟨fun x hx => .inl hx, rfl, rfl, rfl⟩
  have hv0 : ∀ x, x < w.heap.size → (lv0 x ∨ V' x) → lv0 x := fun x hx h => h.elim id fun h => (k3 x h).elim (fun h => (hV x h).1) (fun h => absurd hx (by omega))
  have hm' : ∀ b k, upd mf 0 (some (.seq go' K (i + 1))) b = some k → ∃ k', mf b = some k' := fun b k hb => by
    by_cases e : b = 0
    · subst e; exact ⟨_, hK⟩
    · rw [upd_other _ _ e] at hb; exact ⟨_, hb⟩
  have hlv : ∀ x, x < w.heap.size → live { lv0 with lv := fun x => lv0 x ∨ V' x } bs (upd mf 0 (some (.seq go' K (i + 1)))) x → live lv0 bs mf x := fun x hx hl => by
    rcases hl with hl | ⟨b, k, g1, g2⟩
    · exact .inl (hv0 x hx hl)
    · obtain ⟨k', hk'⟩ := hm' b k g1
      exact .inr ⟨b, k', hk', g2⟩
  have hx : Ext bs (live lv0 bs mf) w bs (live { lv0 with lv := fun x => lv0 x ∨ V' x } bs (upd mf 0 (some (.seq go' K (i + 1))))) w' :=
    ⟨fun _ _ h => h, hlv, fun x hx hl => k4.heap x hx fun hv => hl (.inl (hV x hv).1), k4.size⟩
  refine ⟨_, hg, ?_, hx⟩
  have hown : ∀ b k x, mf b = some k → bs.owns b x → w'.heap[x]? = w.heap[x]? := fun b k x hk hb => k4.heap x (h.rngO b x hb).2 fun hv => h.sepO b k x hk hb (hV x hv).1
  exact {
    below := h.below.trans k4 fun x hx hv => (hsub0 x hv).2.elim (c3 x) (fun hB => (h.base.2 x hx).elim (fun h' => absurd (by rw [c2]; exact h') hB) id)
    base := h.base
    amb := fun x hx => hx.elim (fun hx => Nat.lt_of_lt_of_le (h.amb x hx) k4.size) (fun hx => (hsub x hx).1)
    fixed := fun x o hf => ⟨.inl (h.fixed x o hf).1, (k4.heap x (h.amb x (h.fixed x o hf).1) fun hv => by rw [(hV x hv).2] at hf; cases hf).trans (h.fixed x o hf).2⟩
    sepO := fun b k x hk hb hx => by
      obtain ⟨k', hk'⟩ := hm' b k hk
      exact hx.elim (h.sepO b k' x hk' hb) fun hx => (k3 x hx).elim (fun hv => h.sepO b k' x hk' hb (hV x hv).1) (fun hle => by have := (h.rngO b x hb).2; omega)
    one := fun b k hb hq => by
      by_cases e : b = 0
      · exact e
      · rw [upd_other _ _ e] at hb; exact h.one b k hb hq
    rngO := fun b x hb => ⟨(h.rngO b x hb).1, Nat.lt_of_lt_of_le (h.rngO b x hb).2 k4.size⟩
    injO := fun c c' k1 k2 x h1 h2 h3 h4 => by
      obtain ⟨_, g1⟩ := hm' c k1 h1
      obtain ⟨_, g2⟩ := hm' c' k2 h2
      exact h.injO _ _ _ _ _ g1 g2 h3 h4
    blk := fun b k hb => by
      by_cases e : b = 0
      · subst e
        simp at hb; subst hb
        exact ⟨c1, c2, c3, hs, V', k1, fun x hx => ⟨.inr hx, by
          show lv0.fix x = none
          cases hf : lv0.fix x with
          | none => rfl
          | some o =>
            have hlx := (h.fixed x o hf).1
            rcases k3 x hx with hv | hv
            · rw [(hV x hv).2] at hf; cases hf
            · exact absurd (h.amb x hlx) (by omega)⟩⟩
      · rw [upd_other _ _ e] at hb
        have hq : k.isSeq = false := by
          cases hq : k.isSeq
          · rfl
          · exact absurd (h.one b k hb hq) e
        exact blkRep_other hq (h.blk b k hb) hx.hbs hx.hlv hx.heap hx.size (fun x hbx => hown b k x hb hbx) id (fun _ => .rfl)
    nst := fun b k x h1 h2 => by
      by_cases e : b = 0
      · subst e; have := h.nst 0 _ x hK h2; cases this
      · rw [upd_other _ _ e] at h1; exact h.nst b k x h1 h2
    domO := fun b hb => by
      refine ⟨(h.domO b hb).1, (h.domO b hb).2.1, ?_⟩
      by_cases e : b = 0
      · subst e; have := (h.dom 0 hb).2; rw [hK] at this; cases this
      · rw [upd_other _ _ e]; exact (h.dom b hb).2 }

theorem run_callFunc {P : Program} {f : FuncId} (h : bodyOk P f = true) (args : Array Value) : (callFunc f args).run P w = .ok (.enter f args) w := by
  unfold bodyOk at h
  split at h
  · rename_i fn hf
    simp only [Bool.and_eq_true, Bool.not_eq_true'] at h
    have hb : fn.body.isNone = false := by cases hb : fn.body <;> simp [hb] at h ⊢
    have h2 : ¬ fn.name = "runtime.NumGoroutine" := by simpa using h.2
    have h3 : ¬ fn.body = none := by intro e; rw [e] at hb; cases hb
    simp [callFunc, hf, h2, h3]
  · cases h

theorem stepX_wp {ro : Option Nat} (hE : EnvOK E) {ev' : Operand → SV} {o : Oper} {out : Out} {Q : Exit → Act → World → Prop} (h : (sopX E m nid ev' o.op).Is out)
    (hi : MInv lv0 w0 bs D m.fn w) (hf : FInv bs (live lv0 bs m.fn) w sl a) (hv : ∀ x, Rep bs (live lv0 bs m.fn) w (ev' x) (a.eval x))
    (hD : ∀ b, nid ≤ b → b < nid + out.nn → ¬ D b) (hbar : out.bar = true → m.length = nid ∧ ∀ b, D b ↔ b < nid) :
    o.wpIn (Fr ro) 3 E.P a w (fun a' w' => After lv0 w0 D m nid sl o.dst out bs w a' w' ∧ a'.defers = a.defers) Q := by
  have plain : (sop E.P m.fn nid ev' o.op).Is out → o.wpIn (Fr ro) 3 E.P a w (fun a' w' => After lv0 w0 D m nid sl o.dst out bs w a' w' ∧ a'.defers = a.defers) Q := fun h =>
    ⟨fun _ _ => trivial, by
      rw [Oper.semAt_eq _ _ _ (fun c hc => by rw [hc] at h; exact h.elim)]
      exact after_of_yields hf (sop_sound h hi hv fun hn => hD nid (Nat.le_refl _) (by omega))⟩
  cases hop : o.op <;> rw [hop] at h <;> (try exact plain (by rw [hop]; exact h))
  rename_i c
  obtain ⟨callee, args, ats⟩ := c
  have other : ((frzO m.fn ev' (.call ⟨callee, args, ats⟩)).bind fun p => (sop E.P (mupd m.fn p.1) nid ev' (.call ⟨callee, args, ats⟩)).bind fun out => .ret { out with wr := p.1 ++ out.wr, rd := p.2 ++ out.rd }).Is out →
      o.wpIn (Fr ro) 3 E.P a w (fun a' w' => After lv0 w0 D m nid sl o.dst out bs w a' w' ∧ a'.defers = a.defers) Q := fun h => by
    obtain ⟨p, hp, h⟩ := T.is_bind h
    obtain ⟨out0, h1, h2⟩ := T.is_bind h
    obtain rfl : _ = out := h2
    obtain ⟨hi', hx'⟩ := frzO_sound hi hp
    refine ⟨fun _ _ => trivial, ?_⟩
    rw [Oper.semAt_eq _ _ _ (fun c hc => by rw [hop] at hc; cases hc)]
    rw [← hop] at h1
    obtain ⟨v, w', bs', hr, y1, y2, y3⟩ := sop_sound h1 hi' (fun x => hx'.rep (hv x)) fun hn => hD nid (Nat.le_refl _) (by show nid < nid + out0.nn; omega)
    rw [← mupd_append] at y1 y2 y3
    exact after_of_yields hf ⟨v, w', bs', hr, y1, hx'.trans y2, y3⟩
  cases callee <;> (try exact other h)
  rename_i f
  simp only [sopX] at h
  split at h
  rotate_left
  · -- the consumer's round
    rename_i l hev
    have hfv := hv f
    rw [hev] at hfv
    have hfe : a.eval f = .func (.yield l) #[] #[] := hfv
    unfold yieldS at h
    split at h
    rotate_left
    · exact h.elim
    rename_i K i hK
    -- what is handed over: values, or slices that are given up
    obtain ⟨rd, vs', hrd, hi1, hx1, hP, hl, hin, hel, hout⟩ : ∃ (rd : List Nat) (vs' : List Value), 0 ∉ rd ∧ MInv lv0 w0 bs D (mupd m.fn (rd.map fun b => (b, none))) w ∧ Ext bs (live lv0 bs m.fn) w bs (live lv0 bs (mupd m.fn (rd.map fun b => (b, none)))) w ∧
        K.P = E.P ∧ K.l = l ∧ i < K.n ∧ (ElsRep (live lv0 bs (mupd m.fn (rd.map fun b => (b, none)))) w (K.el i) vs' ∧ args.toList.map a.eval = vs') ∧
        ((K.ans i = true ∧ out = ⟨.kb true, rd.map (fun b => (b, none)) ++ [(0, some (.seq true K (i + 1)))], rd, 0, true⟩) ∨ (K.ans i = false ∧ out = ⟨.kb false, rd.map (fun b => (b, none)) ++ [(0, some (.seq false K (i + 1)))], rd, 0, true⟩)) := by
      split at h
      · rename_i vs hvv
        cases ht : hasT vs
        rotate_left
        · rw [ht] at h; exact h.elim
        rw [ht] at h
        obtain ⟨⟨hP, hl, hin, hvs⟩, h⟩ := h
        have hvals := valsS_rep _ vs _ hvv (evL hv args.toList)
        refine ⟨[], vs, by simp, hi, Ext.refl _ _ _, hP, hl, hin, ⟨by rw [← hvs]; exact (elsRep_self vs vs ht).2 rfl, hvals⟩, ?_⟩
        exact h.imp (fun h => ⟨h.1, h.2.symm⟩) (fun h => ⟨h.1, h.2.symm⟩)
      · obtain ⟨p, h1, h⟩ := T.is_bind h
        cases ht : p.2.any (Nat.beq 0)
        rotate_left
        · rw [ht] at h; exact h.elim
        rw [ht] at h
        obtain ⟨⟨hP, hl, hin, hvs⟩, h⟩ := h
        have h0 : 0 ∉ p.2 := fun hm => by
          rw [List.any_eq_false] at ht
          exact ht 0 hm (by simp)
        obtain ⟨d1, d2⟩ := MInv.drops p.2 hi
        have hrd := viewsS_rd _ p.1 p.2 (optS_is h1)
        have hlv : ∀ x, live lv0 bs (mupd m.fn (p.2.map fun b => (b, none))) x → live lv0 bs m.fn x ∧ ∀ c ∈ p.2, ¬ bs.owns c x := fun x hx => by
          rcases hx with hx | ⟨c, k, g1, g2⟩
          · exact ⟨.inl hx, fun c hc' hc => by obtain ⟨k2, hk2⟩ := hrd c hc'; exact hi.sepO c k2 x hk2 hc hx⟩
          · rw [mupd_none] at g1
            split at g1
            · cases g1
            · rename_i hn
              refine ⟨.inr ⟨c, k, g1, g2⟩, fun c' hc' hbx => ?_⟩
              obtain ⟨k2, hk2⟩ := hrd c' hc'
              exact hn ((hi.injO _ _ _ _ _ hk2 g1 hbx g2) ▸ hc')
        have hvs2 := viewsS_sound hi _ (fun x hx => (hlv x hx).1) _ p.1 p.2 _ (optS_is h1) (fun c hc x hbx hx => (hlv x hx).2 c hc hbx) (evL hv args.toList)
        refine ⟨p.2, _, h0, d1, d2, hP, hl, hin, ⟨sameEls_rep _ _ _ hvs hvs2, rfl⟩, ?_⟩
        exact h.imp (fun h => ⟨h.1, h.2.symm⟩) (fun h => ⟨h.1, h.2.symm⟩)
    have hK1 : mupd m.fn (rd.map fun b => (b, none)) 0 = some (.seq true K i) := by rw [mupd_none, if_neg hrd]; exact hK
    obtain ⟨c1, c2, c3, ⟨c4, c5⟩, V, c6, c7⟩ := hi1.blk 0 _ hK1
    obtain ⟨fn, tmps, assign, body, hy, hR⟩ := c1.round i V w vs' hin c5 c6 (ElsRep.mono (fun x _ hx => .inl (c7 x hx).1) _ _ hel.1)
    have hrun : (execOp a.eval o).run E.P w = .ok (.round l fn tmps assign body) w := by
      unfold execOp
      rw [hop]
      simp only [resolve, Deferred.ofValue, hfe, Sem.run_bind, Sem.run_pure, Result.andThen_ok, invoke]
      have e : (#[] : Array Value) ++ args.map a.eval = vs'.toArray := by
        rw [← hel.2]; apply Array.ext'; simp
      rw [e, ← hl, ← hP]
      exact hy
    refine ⟨fun _ _ => trivial, ?_⟩
    rw [Oper.semAt_eq _ _ _ (fun c hc => by rw [hop] at hc; cases hc), hrun, Oper.uponIn_round]
    refine ⟨fun h => absurd h (by simp [Fr, Fence.wide]), ?_⟩
    rw [← hP, ← hl]
    refine RoundIn.mono (R := fun e W' => e = .returned (.bool (K.ans i)) ∧ ∃ V', K.C (i + 1) V' W' ∧ (∀ x, V x → V' x) ∧ (∀ x, V' x → V x ∨ w.heap.size ≤ x) ∧ Turn V w W') (round_fr hR) ?_
    rintro e w' ⟨rfl, V', k1, k2, k3, k4⟩
    have done : ∀ (b : Bool), K.ans i = b → out = ⟨.kb b, rd.map (fun b => (b, none)) ++ [(0, some (.seq b K (i + 1)))], rd, 0, true⟩ → After lv0 w0 D m nid sl o.dst out bs w (a.put o.dst (.bool (K.ans i))) w' := by
      rintro b hb rfl
      obtain ⟨lv1, hg, hm1, hx2⟩ := hi1.turn hK1 c6 c7 k1 k2 k3 k4 (go' := b) (by
        cases b with
        | true => exact ⟨by omega, fun j hj => (by rcases Nat.lt_or_eq_of_le (Nat.le_of_lt_succ hj) with h | rfl; exact c5 j h; exact hb)⟩
        | false => exact ⟨i, hin, rfl, hb, c5⟩)
      have hmm : mupd m.fn (rd.map (fun b => (b, none)) ++ [(0, some (.seq b K (i + 1)))]) = upd (mupd m.fn (rd.map fun b => (b, none))) 0 (some (.seq b K (i + 1))) := by rw [mupd_append]; rfl
      refine ⟨bs, lv1, hg, ?_, ?_, ?_⟩
      · have := hm1.monoD (D' := news D nid 0) (fun x => .inl)
        rw [msets_fn]
        show MInv lv1 w0 bs _ (mupd m.fn (rd.map (fun b => (b, none)) ++ [(0, some (.seq b K (i + 1)))])) w'
        rw [hmm]; exact this
      · rw [msets_fn]
        show FInv bs (live lv1 bs (mupd m.fn (rd.map (fun b => (b, none)) ++ [(0, some (.seq b K (i + 1)))]))) w' _ _
        rw [hmm]
        refine hf.put (hx1.trans hx2) o.dst ?_
        rw [hb]; exact rfl
      · rw [msets_fn]
        show Ext bs (live lv0 bs m.fn) w bs (live lv1 bs (mupd m.fn (rd.map (fun b => (b, none)) ++ [(0, some (.seq b K (i + 1)))]))) w'
        rw [hmm]; exact hx1.trans hx2
    rcases hout with ⟨hb, h⟩ | ⟨hb, h⟩
    · exact ⟨done true hb h, put_defers _ _ _⟩
    · exact ⟨done false hb h, put_defers _ _ _⟩
  · exact h.elim
  rename_i g first cap hev
  have hfv := hv f
  rw [hev] at hfv
  obtain ⟨us, ts, hfe, hus, hts⟩ := hfv
  have hargs := evL hv args.toList
  unfold callS at h
  cases hbo : bodyOk E.P g
  · rw [hbo] at h; exact h.elim
  rw [hbo] at h
  simp only [cond_true] at h
  have hvals : RepL bs (live lv0 bs m.fn) w (first ++ args.toList.map ev' ++ cap) (us ++ args.toList.map a.eval ++ ts) := (hus.append hargs).append hts
  have hrun : (execOp a.eval o).run E.P w = .ok (.enter g (us ++ args.toList.map a.eval ++ ts).toArray) w := by
    unfold execOp
    rw [hop]
    simp only [resolve, Deferred.ofValue, hfe, Sem.run_bind, Sem.run_pure, Result.andThen_ok, invoke]
    rw [run_callFunc hbo]
    congr 2
    apply Array.ext'
    simp
  refine ⟨fun _ _ => trivial, ?_⟩
  rw [Oper.semAt_eq _ _ _ (fun c hc => by rw [hop] at hc; cases hc), hrun, Oper.uponIn_enter]
  refine ⟨fun h => absurd h (by simp [Fr, Fence.wide]), callsIn_fr.2 ?_⟩
  split at h
  · -- by a contract
    rename_i c hc
    obtain ⟨p, h1, h⟩ := T.is_bind h
    obtain ⟨sv, h2, h⟩ := T.is_bind h
    have hvs := viewsS_sound hi (lent lv0 bs m.fn p.2) (fun x hx => hx.1) _ p.1 p.2 _ (optS_is h1) (fun b hb x hbx hl => hl.2 b hb hbx) hvals
    have hcall := hE.con g c hc p.1 sv h2 (lent lv0 bs m.fn p.2) w _ (fun x hx => live_lt hi hx.1) hvs
    refine hcall.mono ?_
    rintro e w' ⟨v, rfl, hb, hr⟩
    cases hfl : (p.2.isEmpty || sv.flat)
    · rw [hfl] at h
      obtain rfl : _ = out := h
      obtain ⟨d1, d2⟩ := MInv.drops p.2 hi
      have hrd := viewsS_rd _ p.1 p.2 (optS_is h1)
      have hr' : Rep bs (live lv0 bs (mupd m.fn (p.2.map fun b => (b, none)))) w' sv v := by
        refine Rep.ext (fun _ _ h => by cases h) (fun x hx hl => ?_) (fun _ _ _ => rfl) (Nat.le_refl _) _ _ hr
        rcases hl with hl | ⟨b, k, g1, g2⟩
        · exact ⟨.inl hl, fun b hb hbx => by obtain ⟨k2, hk2⟩ := hrd b hb; exact hi.sepO b k2 x hk2 hbx hl⟩
        · rw [mupd_none] at g1
          split at g1
          · cases g1
          · rename_i hnb
            refine ⟨.inr ⟨b, k, g1, g2⟩, fun b' hb' hbx => ?_⟩
            obtain ⟨k', hk'⟩ := hrd b' hb'
            exact hnb ((hi.injO _ _ _ _ _ hk' g1 hbx g2) ▸ hb')
      have hx := d2.trans (ext_grow bs (live lv0 bs (mupd m.fn (p.2.map fun b => (b, none)))) hb)
      refine ⟨⟨bs, lv0, .refl _, ?_, ?_, ?_⟩, put_defers _ _ _⟩
      · show MInv lv0 w0 bs (news D nid 0) (msets m (p.2.map fun b => (b, none))).fn w'
        rw [msets_fn]
        exact (d1.grow hb).monoD (fun x => .inl)
      · show FInv bs (live lv0 bs (msets m (p.2.map fun b => (b, none))).fn) w' (putS sl o.dst sv) (a.put o.dst v)
        rw [msets_fn]
        exact hf.put hx o.dst hr'
      · show Ext bs (live lv0 bs m.fn) w bs (live lv0 bs (msets m (p.2.map fun b => (b, none))).fn) w'
        rw [msets_fn]
        exact hx
    rw [hfl] at h
    obtain rfl : _ = out := h
    have hm' := hi.grow hb
    have hr' : Rep bs (live lv0 bs m.fn) w' sv v := by
      simp only [Bool.or_eq_true] at hfl
      rcases hfl with he | hfl
      · have : p.2 = [] := by simpa using he
        refine Rep.ext (fun _ _ h => by cases h) (fun x hx hl => ?_) (fun _ _ _ => rfl) (Nat.le_refl _) _ _ hr
        exact ⟨hl, by rw [this]; simp⟩
      · exact Rep.flat _ _ hfl hr
    exact ⟨⟨bs, lv0, .refl _, by simpa [msets] using hm'.monoD (fun x => .inl), by simpa [msets] using hf.put (ext_grow bs (live lv0 bs m.fn) hb) o.dst hr', by simpa [msets] using ext_grow bs (live lv0 bs m.fn) hb⟩, put_defers _ _ _⟩
  · -- by going in
    obtain ⟨⟨sv, m'⟩, h1, h⟩ := T.is_bind h
    obtain rfl : _ = out := h
    have hLe := (hE.inl g).1 _ m m' sv h1
    have hle := hLe.1
    obtain ⟨hml, hDl⟩ := hbar rfl
    have hi' : MInv lv0 w0 bs (· < m.length) m.fn w := hi.monoD fun x hx => by rw [hml]; exact (hDl x).1 hx
    refine ((hE.inl g).2 _ m m' sv h1 lv0 w0 w bs _ hi' hvals).mono ?_
    rintro e w' ⟨v, bs', lv1, rfl, hg, g1, g2, g3⟩
    have hmf : (msets m (changed m m')).fn = m'.fn := changed_fn hLe
    refine ⟨⟨bs', lv1, hg, ?_, ?_, ?_⟩, put_defers _ _ _⟩
    · show MInv lv1 w0 bs' (news D nid (m'.length - m.length)) (msets m (changed m m')).fn w'
      rw [hmf]
      refine g1.monoD fun x hx => ?_
      by_cases h : x < nid
      · exact .inl ((hDl x).2 h)
      · exact .inr ⟨by omega, by omega⟩
    · show FInv bs' (live lv1 bs' (msets m (changed m m')).fn) w' (putS sl o.dst sv) (a.put o.dst v)
      rw [hmf]
      exact hf.put g2 o.dst g3
    · show Ext bs (live lv0 bs m.fn) w bs' (live lv1 bs' (msets m (changed m m')).fn) w'
      rw [hmf]
      exact g2
end
end Go.RX

/- Regions: in the order of the text, and in whatever order. -/
set_option linter.unusedVariables false
set_option linter.unusedSimpArgs false
namespace Go.RX
open Go Go.RowKit

theorem sop_congr (P : Program) (m : Nat → Option Blk) (nid : Nat) {ev ev' : Operand → SV} (o : Op) (h : ∀ x ∈ o.operands, ev x = ev' x) : sop P m nid ev o = sop P m nid ev' o := by
  have hl : ∀ (xs : Array Operand), (∀ x ∈ xs, ev x = ev' x) → xs.toList.map ev = xs.toList.map ev' := fun xs hx => List.map_congr_left fun x hm => hx x (by simpa using hm)
  cases o <;> simp only [sop] <;> simp only [Op.operands] at h
  case move x => rw [h x (by simp)]
  case assign x => rw [h x (by simp)]
  case pick c x y => rw [h c (by simp), h x (by simp), h y (by simp)]
  case box e x => rw [h x (by simp)]
  case build t parts =>
    have : (parts.toList.map fun p => (p.1, ev p.2)) = (parts.toList.map fun p => (p.1, ev' p.2)) := List.map_congr_left fun p hp => by
      rw [h p.2 (by simp; exact ⟨p.1, by simpa using hp⟩)]
    rw [this]
  case load t x => rw [h x (by simp)]
  case store t x y => rw [h x (by simp), h y (by simp)]
  case nilCheck x => rw [h x (by simp)]
  case binOp op t x y ty => rw [h x (by simp), h y (by simp)]
  case unOp op t x => rw [h x (by simp)]
  case sliceToArrayPointer dst x => rw [h x (by simp)]
  case convert s d x => rw [h x (by simp)]
  case makeFunc fn first cap => rw [hl first (fun x hx => h x (by simp [hx])), hl cap (fun x hx => h x (by simp [hx]))]
  case fieldAddr s x f => rw [h x (by simp)]
  case field s x f => rw [h x (by simp)]
  case indexAddr t x ix => rw [h x (by simp), h ix (by simp)]
  case index t x ix => rw [h x (by simp), h ix (by simp)]
  case extract x i => rw [h x (by simp)]
  case buildSlice t n parts =>
    have : (parts.toList.map fun p => (p.1, ev p.2)) = (parts.toList.map fun p => (p.1, ev' p.2)) := List.map_congr_left fun p hp => by
      rw [h p.2 (by simp; exact ⟨p.1, by simpa using hp⟩)]
    rw [this]
  case makeSlice t x y => rw [h x (by simp), h y (by simp)]
  case makeMap t r =>
    have e1 : r.map ev = r.map ev' := by cases r with | none => rfl | some y => simp [h y (by simp)]
    rw [e1]
  case lookup t x k ok => rw [h x (by simp), h k (by simp)]
  case mapUpdate t x k v => rw [h x (by simp), h k (by simp), h v (by simp)]
  case insert t x k v => rw [h x (by simp), h k (by simp), h v (by simp)]
  case slice t x lo hi mx =>
    cases mx with
    | some _ => rfl
    | none =>
      have e1 : lo.map ev = lo.map ev' := by cases lo with | none => rfl | some y => simp [h y (by simp)]
      have e2 : hi.map ev = hi.map ev' := by cases hi with | none => rfl | some y => simp [h y (by simp)]
      simp only [h x (by simp), e1, e2]
  case call c =>
    obtain ⟨callee, args, ats⟩ := c
    cases callee <;> simp only []
    rw [hl args (fun x hx => h x (by simp [Call.operands, hx]))]

theorem sopX_congr (E : Env) (m : Mem) (nid : Nat) {ev ev' : Operand → SV} (o : Op) (h : ∀ x ∈ o.operands, ev x = ev' x) : sopX E m nid ev o = sopX E m nid ev' o := by
  have plain := sop_congr E.P m.fn nid o h
  cases o <;> (try exact plain)
  rename_i c
  obtain ⟨callee, args, ats⟩ := c
  have fz : ∀ callee, (∀ x ∈ (Op.call ⟨callee, args, ats⟩).operands, ev x = ev' x) → frzO m.fn ev (.call ⟨callee, args, ats⟩) = frzO m.fn ev' (.call ⟨callee, args, ats⟩) := fun callee h => by
    have : args.toList.map ev = args.toList.map ev' := List.map_congr_left fun x hm => h x (by simp only [Op.operands, Call.operands]; simp at hm; simp [hm])
    unfold frzO
    cases callee <;> (try rfl)
    rename_i b
    cases b <;> (try rfl)
    simp only [this]
  cases callee
  rotate_left
  · simp only [sopX, fz _ h, sop_congr E.P _ nid _ h]
  · simp only [sopX, fz _ h, sop_congr E.P _ nid _ h]
  rename_i f
  simp only [sopX]
  simp only [Op.operands, Call.operands] at h
  have : args.toList.map ev = args.toList.map ev' := List.map_congr_left fun x hm => h x (by simp at hm; simp [hm])
  rw [h f (by simp), this]

theorem vw1_congr {m m' : Nat → Option Blk} : ∀ (s s' : SV) (rd : List Nat), vw1 m s = some (s', rd) → (∀ b ∈ rd, m b = m' b) → vw1 m' s = some (s', rd)
  | .own z b n, s', rd, h, hm => by
    rw [vw1] at h ⊢
    split at h
    · rename_i z' n' ss f e hb
      simp only [Option.some.injEq, Prod.mk.injEq] at h
      obtain ⟨rfl, rfl⟩ := h
      rw [← hm b (by simp), hb]
    · cases h
  | .csl b off n ss, s', rd, h, hm => by
    rw [vw1] at h ⊢
    split at h
    · rename_i cs e hb
      have h0 := h
      simp only [Option.map_eq_some_iff] at h
      obtain ⟨l, hp, h⟩ := h
      obtain ⟨rfl, rfl⟩ := Prod.mk.inj h
      rw [← hm b (by simp), hb]
      exact h0
    · cases h
  | .row ss n f, s', rd, h, hm => h
  | .any, s', rd, h, _ | .lit _, s', rd, h, _ | .kb _, s', rd, h, _ | .ki _ _, s', rd, h, _ | .ptr _ _, s', rd, h, _ | .optr _ _ _ _, s', rd, h, _ | .agg _, s', rd, h, _ | .tup _, s', rd, h, _ | .fn _ _ _, s', rd, h, _ | .rptr _ _ _ _ _, s', rd, h, _ | .mp _, s', rd, h, _ => by simp [vw1] at h
theorem vws1_congr {m m' : Nat → Option Blk} : ∀ (s s' : List SV) (rd : List Nat), vws1 m s = some (s', rd) → (∀ b ∈ rd, m b = m' b) → vws1 m' s = some (s', rd)
  | [], _, _, h, _ => h
  | s :: ss, s', rd, h, hm => by
    rw [vws1] at h ⊢
    split at h
    · rename_i p q hp hq
      simp only [Option.some.injEq, Prod.mk.injEq] at h
      obtain ⟨rfl, rfl⟩ := h
      rw [vw1_congr s p.1 p.2 hp (fun b hb => hm b (by simp [hb])), vws1_congr ss q.1 q.2 hq (fun b hb => hm b (by simp [hb]))]
    · cases h
mutual
theorem viewS_congr {m m' : Nat → Option Blk} : ∀ (s s' : SV) (rd : List Nat), viewS m s = some (s', rd) → (∀ b ∈ rd, m b = m' b) → viewS m' s = some (s', rd)
  | .any, _, _, h, _ => by simp [viewS] at h
  | .lit _, _, _, h, _ => h
  | .kb _, _, _, h, _ => h
  | .ki _ _, _, _, h, _ => h
  | .ptr b off, s', rd, h, hm => by
    rw [viewS] at h ⊢
    split at h
    · rename_i cs e hb
      split at h
      · rename_i ss hss
        have h0 := h
        simp only [Option.map_eq_some_iff] at h
        obtain ⟨l, hp, h⟩ := h
        obtain ⟨rfl, rfl⟩ := Prod.mk.inj h
        rw [← hm b (by simp), hb]
        simp only [hss]
        exact h0
      · cases h
    · cases h
  | .optr _ _ _ _, _, _, h, _ => by simp [viewS] at h
  | .row _ _ _, _, _, h, _ => h
  | .rptr _ _ _ _ _, _, _, h, _ => h
  | .agg cs, s', rd, h, hm => by
    simp only [viewS, Option.map_eq_some_iff] at h ⊢
    obtain ⟨p, h3, h4⟩ := h
    obtain ⟨rfl, rfl⟩ := Prod.mk.inj h4
    exact ⟨p, viewsS_congr cs p.1 p.2 h3 hm, rfl⟩
  | .tup cs, s', rd, h, hm => by
    simp only [viewS, Option.map_eq_some_iff] at h ⊢
    obtain ⟨p, h3, h4⟩ := h
    obtain ⟨rfl, rfl⟩ := Prod.mk.inj h4
    exact ⟨p, viewsS_congr cs p.1 p.2 h3 hm, rfl⟩
  | .fn f as cs, s', rd, h, hm => by
    rw [viewS] at h ⊢
    split at h
    · rename_i p q hp hq
      simp only [Option.some.injEq, Prod.mk.injEq] at h
      obtain ⟨rfl, rfl⟩ := h
      rw [viewsS_congr as p.1 p.2 hp (fun b hb => hm b (by simp [hb])), viewsS_congr cs q.1 q.2 hq (fun b hb => hm b (by simp [hb]))]
    · cases h
  | .own z b n, s', rd, h, hm => by
    rw [viewS] at h ⊢
    split at h
    · rename_i z' n' ss f e hb
      simp only [Option.some.injEq, Prod.mk.injEq] at h
      obtain ⟨rfl, rfl⟩ := h
      rw [← hm b (by simp), hb]
    · rename_i n' ss F e e2 hb
      simp only [Option.some.injEq, Prod.mk.injEq] at h
      obtain ⟨rfl, rfl⟩ := h
      rw [← hm b (by simp), hb]
    · cases h
  | .csl b off n ss, s', rd, h, hm => by
    rw [viewS] at h ⊢
    split at h
    · rename_i cs e hb
      split at h
      · rename_i l hp
        simp only [Option.some.injEq, Prod.mk.injEq] at h
        obtain ⟨rfl, rfl⟩ := h
        rw [← hm b (by simp), hb]
        simp only [hp]
      · rename_i hp
        split at h
        · rename_i q hq
          have h0 := h
          simp only [Option.map_eq_some_iff] at h
          obtain ⟨l, hp2, h⟩ := h
          obtain ⟨rfl, rfl⟩ := Prod.mk.inj h
          rw [← hm b (by simp), hb]
          simp only [hp, vws1_congr cs q.1 q.2 hq (fun c hc => hm c (by simp [hc]))]
          exact h0
        · cases h
    · cases h
theorem viewsS_congr {m m' : Nat → Option Blk} : ∀ (s s' : List SV) (rd : List Nat), viewsS m s = some (s', rd) → (∀ b ∈ rd, m b = m' b) → viewsS m' s = some (s', rd)
  | [], _, _, h, _ => h
  | s :: ss, s', rd, h, hm => by
    rw [viewsS] at h ⊢
    split at h
    · rename_i p q hp hq
      simp only [Option.some.injEq, Prod.mk.injEq] at h
      obtain ⟨rfl, rfl⟩ := h
      rw [viewS_congr s p.1 p.2 hp (fun b hb => hm b (by simp [hb])), viewsS_congr ss q.1 q.2 hq (fun b hb => hm b (by simp [hb]))]
    · cases h
end

theorem loadS_mem {P : Program} {m m' : Nat → Option Blk} {t : TypeId} {x : SV} {p : SV × List Nat} (h : (loadS P m t x).Is p) (hm : ∀ b ∈ p.2, m b = m' b) : (loadS P m' t x).Is p := by
  unfold loadS at h ⊢
  split at h
  · rename_i b off
    split at h
    · rename_i cs e hb
      obtain ⟨s, h1, h2⟩ := T.is_bind h
      obtain rfl : _ = p := h2
      simp only [← hm b (by simp), hb]
      exact h
    · exact h.elim
  · exact h
  · rename_i b i off k
    split at h
    · rename_i z n ss f e hb
      have hrd : p.2 = [b] := by
        cases hk : Nat.beq k ss.length
        · rw [hk] at h; exact h.elim
        · rw [hk] at h
          obtain ⟨_, h⟩ := h
          obtain ⟨s, h1, h2⟩ := T.is_bind h
          rw [← (show _ = p from h2)]
      simp only [← hm b (by simp [hrd]), hb]
      exact h
    · exact h.elim
  · exact h.elim

theorem storeS_mem {P : Program} {m m' : Nat → Option Blk} {t : TypeId} {x v : SV} {p : List (Nat × Option Blk) × List Nat} (h : (storeS P m t x v).Is p) (hm : ∀ b ∈ p.2, m b = m' b) : (storeS P m' t x v).Is p := by
  unfold storeS at h ⊢
  split at h
  · rename_i i vs h1 h2
    cases hsz : Nat.beq vs.length i.size
    · rw [hsz] at h; exact h.elim
    · rw [hsz] at h
      simp only [cond_true] at h ⊢
      split at h
      · rename_i b off
        split at h
        · rename_i cs e hb
          have hrd : p.2 = [b] := by
            cases hle : Nat.ble (off + vs.length) cs.length
            · rw [hle] at h; exact h.elim
            · rw [hle] at h; rw [← (show _ = p from h)]
          simp only [← hm b (by simp [hrd]), hb]
          exact h
        · exact h.elim
      · rename_i b ix off k
        split at h
        · rename_i z n ss f e hb
          have hrd : p.2 = [b] := by
            cases hk : (Nat.beq k ss.length && Nat.ble (off + vs.length) k)
            · rw [hk] at h; exact h.elim
            · rw [hk] at h
              simp only [cond_true] at h
              split at h
              · obtain ⟨_, h⟩ := h
                rw [← (show _ = p from h)]
              · exact h.elim
          simp only [← hm b (by simp [hrd]), hb]
          exact h
        · exact h.elim
      · exact h.elim
  · exact h.elim

theorem srcS_mem {m m' : Nat → Option Blk} {ss : List Sh} {y : SV} {n : Nat} {f : Nat → Els ss} {rd : List Nat} {kn : Bool} (h : srcS m ss y = some ((n, f), (rd, kn))) (hm : ∀ b ∈ rd, m b = m' b) : srcS m' ss y = some ((n, f), (rd, kn)) := by
  unfold srcS at h ⊢
  split at h
  · rename_i b off n2 s2
    split at h
    · rename_i cs e hb
      have hrd : rd = [b] := by
        split at h
        · rename_i l hl
          cases hle : Nat.ble (off + n2 * ss.length) cs.length
          · rw [hle] at h; cases h
          · rw [hle] at h; cases h; rfl
        · cases h
      simp only [← hm b (by simp [hrd]), hb]
      exact h
    · cases h
  · rename_i z b n2
    split at h
    · rename_i z' n' ss' f' e hb
      have hrd : rd = [b] := by
        split at h
        · cases h; rfl
        · cases h
      simp only [← hm b (by simp [hrd]), hb]
      exact h
    · cases h
  · exact h
  · exact h
  · cases h

theorem appendS_mem {P : Program} {m m' : Nat → Option Blk} {nid : Nat} {t tx : TypeId} {x y : SV} {out : Out} (h : (appendS P m nid t tx x y).Is out) (hm : ∀ b ∈ out.rd, m b = m' b) : (appendS P m' nid t tx x y).Is out := by
  unfold appendS at h ⊢
  split at h
  rotate_left
  · exact h.elim
  split at h
  rotate_left
  · exact h.elim
  rename_i i hin
  split at h
  rotate_left
  · exact h.elim
  rename_i z hz
  cases hc : (Nat.beq z.cells.size i.size && Nat.ble 1 i.bytes)
  · rw [hc] at h; exact h.elim
  rw [hc] at h
  simp only [cond_true] at h ⊢
  split at h
  · split at h
    rotate_left
    · exact h.elim
    rename_i ss hss
    cases hl : Nat.beq ss.length i.size
    · rw [hl] at h; exact h.elim
    rw [hl] at h
    simp only [cond_true] at h ⊢
    split at h
    rotate_left
    · exact h.elim
    rename_i n2 f2 rd kn hs
    obtain ⟨hb, h⟩ := h
    obtain rfl : _ = out := h
    rw [srcS_mem hs hm]
    exact ⟨hb, rfl⟩
  · rename_i z0 b n
    split at h
    rotate_left
    · exact h.elim
    rename_i z1 n' ss f e2 hmb
    cases hl : (Nat.beq e2 _ && Nat.beq ss.length i.size)
    · rw [hl] at h; exact h.elim
    rw [hl] at h
    simp only [cond_true] at h
    split at h
    rotate_left
    · exact h.elim
    rename_i n2 f2 rd kn hs
    obtain ⟨hb, h⟩ := h
    obtain rfl : _ = out := h
    have e1 : m' b = m b := (hm b (by simp)).symm
    have hs' := srcS_mem hs (fun c hc => hm c (by simp [hc]))
    simp only [e1, hmb, hl, cond_true, hs']
    exact ⟨hb, rfl⟩
  · rename_i b n k
    split at h
    rotate_left
    · exact h.elim
    rename_i ss cs e2 hss hmb
    cases hl : Nat.beq ss.length i.size
    · rw [hl] at h; exact h.elim
    rw [hl] at h
    simp only [cond_true] at h
    split at h
    rotate_left
    · exact h.elim
    rename_i l n2 f2 rd kn hp hs
    cases hb0 : Nat.ble (0 + n * ss.length) cs.length
    · rw [hb0] at h; exact h.elim
    rw [hb0] at h
    simp only [cond_true] at h
    have h0 := h
    have hrd : out.rd = b :: rd := by
      cases kn
      · simp only [cond_false] at h
        rcases h with ⟨_, h⟩ | ⟨_, _, h⟩ <;> (obtain rfl : _ = out := h; rfl)
      · obtain ⟨_, h⟩ := h
        obtain rfl : _ = out := h
        rfl
    have e1 : m' b = m b := (hm b (by simp [hrd])).symm
    have hs' := srcS_mem hs (fun c hc => hm c (by simp [hrd, hc]))
    simp only [hss, e1, hmb, hl, cond_true, hp, hs', hb0]
    exact h0
  · exact h.elim

theorem cutS_mem {P : Program} {m m' : Nat → Option Blk} {t : TypeId} {x : SV} {low high : Option SV} {out : Out} (h : (cutS P m t x low high).Is out) (hm : ∀ b ∈ out.rd, m b = m' b) : (cutS P m' t x low high).Is out := by
  rw [cutS_eq] at h ⊢
  unfold cutS0 at h ⊢
  split at h
  rotate_left
  · exact h.elim
  split at h
  · exact h
  · rename_i q z b n hq
    split at h
    rotate_left
    · exact h.elim
    rename_i z' n' ss f e' hmb
    have hrd : out.rd = [b] := by
      cases hk : Nat.beq ss.length q.size
      · rw [hk] at h; exact h.elim
      rw [hk] at h
      simp only [cond_true] at h
      split at h
      · obtain ⟨_, h⟩ := h
        rw [← (show _ = out from h)]
      · exact h.elim
    simp only [← hm b (by simp [hrd]), hmb]
    exact h
  · exact h.elim

theorem appS_mem {P : Program} {m m' : Nat → Option Blk} {nid : Nat} {t tx : TypeId} {x y : SV} {out : Out} (h : (appS P m nid t tx x y).Is out) (hm : ∀ b ∈ out.rd, m b = m' b) : (appS P m' nid t tx x y).Is out := by
  unfold appS at h ⊢
  split at h
  · exact h
  · exact appendS_mem h hm
theorem cut0_mem {m m' : Nat → Option Blk} {nid : Nat} {x : SV} {out : Out} (h : (cut0 m nid x).Is out) (hm : ∀ b ∈ out.rd, m b = m' b) : (cut0 m' nid x).Is out := by
  unfold cut0 at h ⊢
  split at h
  · rename_i z b n
    split at h
    · rename_i hmb
      obtain rfl : _ = out := h
      simp only [← hm b (by simp), hmb]
      rfl
    · exact h.elim
  · exact h.elim
theorem arrS_mem {P : Program} {m m' : Nat → Option Blk} {e : TypeId} {k : Nat} {x : SV} {low high : Option SV} {out : Out} (h : (arrS P m e k x low high).Is out) (hm : ∀ b ∈ out.rd, m b = m' b) : (arrS P m' e k x low high).Is out := by
  unfold arrS at h ⊢
  split at h
  rotate_left
  · exact h.elim
  rename_i b
  split at h
  rotate_left
  · exact h.elim
  rename_i cs e' ss q hmb hss hq
  have h0 := h
  have hrd : out.rd = [b] := by
    cases hc : (Nat.beq ss.length q.size && Nat.beq cs.length (0 + k * ss.length) && Nat.blt 0 k && Nat.ble k 1000000)
    · rw [hc] at h; exact h.elim
    rw [hc] at h
    simp only [cond_true] at h
    split at h
    rotate_left
    · exact h.elim
    obtain ⟨_, h⟩ := h
    obtain rfl : _ = out := h
    rfl
  have e1 : m' b = some (.cells cs e') := by rw [← hm b (by simp [hrd])]; exact hmb
  simp only [e1, hss, hq]
  exact h0
theorem cslS_mem {P : Program} {m m' : Nat → Option Blk} {e : TypeId} {q : TypeInfo} {b n : Nat} {low high : Option SV} {out : Out} (h : (cslS P m e q b n low high).Is out) (hm : ∀ b ∈ out.rd, m b = m' b) : (cslS P m' e q b n low high).Is out := by
  unfold cslS at h ⊢
  split at h
  rotate_left
  · exact h.elim
  rename_i cs e' ss hmb hss
  have h0 := h
  have hrd : out.rd = [b] := by
    cases hc : Nat.beq ss.length q.size
    · rw [hc] at h; exact h.elim
    rw [hc] at h
    simp only [cond_true] at h
    split at h
    rotate_left
    · exact h.elim
    obtain ⟨_, h⟩ := h
    obtain rfl : _ = out := h
    rfl
  have e1 : m' b = some (.cells cs e') := by rw [← hm b (by simp [hrd])]; exact hmb
  simp only [e1, hss]
  exact h0
theorem sliceS_mem {P : Program} {m m' : Nat → Option Blk} {nid : Nat} {t : TypeId} {x : SV} {low high : Option SV} {out : Out} (h : (sliceS P m nid t x low high).Is out) (hm : ∀ b ∈ out.rd, m b = m' b) : (sliceS P m' nid t x low high).Is out := by
  unfold sliceS at h ⊢
  split at h
  · split at h
    · exact h
    · exact cut0_mem h hm
    · exact cslS_mem h hm
    · exact cutS_mem h hm
  · exact arrS_mem h hm
  · exact cutS_mem h hm

theorem loadN_mem {P : Program} {m m' : Nat → Option Blk} {nid : Nat} {t : TypeId} {x : SV} {out : Out} (h : (loadN P m nid t x).Is out) (hm : ∀ b ∈ out.rd, m b = m' b) : (loadN P m' nid t x).Is out := by
  have old : ((loadS P m t x).bind fun p => .ret ⟨p.1, [], p.2, 0, false⟩ : T Out).Is out → ((loadS P m' t x).bind fun p => .ret ⟨p.1, [], p.2, 0, false⟩ : T Out).Is out := fun h => by
    obtain ⟨p, h1, h2⟩ := T.is_bind h
    obtain rfl : _ = out := h2
    exact T.bind_is (loadS_mem h1 hm) rfl
  have h0 := h
  unfold loadN at h ⊢
  simp only [] at h ⊢
  split at h
  rotate_left
  · exact old h
  rename_i b i off k
  split at h
  · rename_i n ss F foc e e2 hmb
    have e1 : m' b = m b := by
      split at h
      · rename_i d hd
        cases hc : (aggD d || !(Nat.beq k 1) || !(Nat.beq off 0))
        rotate_left
        · rw [hc] at h; exact h.elim
        rw [hc] at h
        simp only [cond_false] at h
        split at h
        · obtain ⟨_, h⟩ := h
          obtain rfl : _ = out := h
          exact (hm b (by simp)).symm
        · obtain ⟨_, h⟩ := h
          obtain rfl : _ = out := h
          exact (hm b (by simp)).symm
      · exact h.elim
    simp only [e1, hmb]
    exact h
  · rename_i hn
    have h1 := old h
    have e1 : ∀ n ss F foc e e2, m' b = some (.nest n ss F foc e e2) → False := fun n ss F foc e e2 hb => by
      obtain ⟨p, g1, g2⟩ := T.is_bind h1
      unfold loadS at g1
      simp only [hb] at g1
      exact g1.elim
    split
    · rename_i hb; exact (e1 _ _ _ _ _ _ hb).elim
    · exact h1
theorem storeN_mem {P : Program} {m m' : Nat → Option Blk} {nid : Nat} {t : TypeId} {x v : SV} {out : Out} (h : (storeN P m nid t x v).Is out) (hm : ∀ b ∈ out.rd, m b = m' b) : (storeN P m' nid t x v).Is out := by
  have old : ((storeS P m t x v).bind fun p => .ret ⟨.lit undef, p.1, p.2, 0, false⟩ : T Out).Is out → ((storeS P m' t x v).bind fun p => .ret ⟨.lit undef, p.1, p.2, 0, false⟩ : T Out).Is out := fun h => by
    obtain ⟨p, h1, h2⟩ := T.is_bind h
    obtain rfl : _ = out := h2
    exact T.bind_is (storeS_mem h1 hm) rfl
  unfold storeN at h ⊢
  simp only [] at h ⊢
  split at h
  rotate_left
  · exact old h
  rename_i b i off k
  split at h
  · rename_i n ss F foc e e2 hmb
    have e1 : m' b = m b := by
      split at h
      · rename_i q s hq hs
        cases hc : (!(Nat.beq q.size 1) || !(Nat.beq k 1) || !(Nat.beq off 0))
        rotate_left
        · rw [hc] at h; exact h.elim
        rw [hc] at h
        simp only [cond_false] at h
        split at h
        · obtain ⟨_, h⟩ := h
          obtain rfl : _ = out := h
          exact (hm b (by simp)).symm
        · obtain ⟨_, h⟩ := h
          obtain rfl : _ = out := h
          exact (hm b (by simp)).symm
      · exact h.elim
    simp only [e1, hmb]
    exact h
  · rename_i hn
    have h1 := old h
    have e1 : ∀ n ss F foc e e2, m' b = some (.nest n ss F foc e e2) → False := fun n ss F foc e e2 hb => by
      obtain ⟨p, g1, g2⟩ := T.is_bind h1
      unfold storeS at g1
      split at g1
      · rename_i q vs hq hvs
        cases hsz : Nat.beq vs.length q.size
        · rw [hsz] at g1; exact g1.elim
        · rw [hsz] at g1
          simp only [cond_true, hb] at g1
          exact g1.elim
      · exact g1.elim
    split
    · rename_i hb; exact (e1 _ _ _ _ _ _ hb).elim
    · exact h1

theorem lookS_mem {P : Program} {m m' : Nat → Option Blk} {t : TypeId} {x k : SV} {ok : Bool} {out : Out} (h : (lookS P m t x k ok).Is out) (hm : ∀ b ∈ out.rd, m b = m' b) : (lookS P m' t x k ok).Is out := by
  unfold lookS at h ⊢
  split at h
  rotate_left
  · exact h.elim
  rename_i tw s b hk
  split at h
  rotate_left
  · exact h.elim
  rename_i tw' s' l hmb
  have h0 := h
  have hrd : out.rd = [b] := by
    cases hc : (eqB tw tw' && eqSh s' s)
    · rw [hc] at h; exact h.elim
    rw [hc] at h
    simp only [cond_true] at h
    split at h
    rotate_left
    · exact h.elim
    obtain rfl : _ = out := h
    rfl
  have e1 : m' b = some (.mp tw' s' l) := by rw [← hm b (by simp [hrd])]; exact hmb
  simp only [e1]
  exact h0
theorem mupdS_mem {P : Program} {m m' : Nat → Option Blk} {t : TypeId} {x k v : SV} {out : Out} (h : (mupdS P m t x k v).Is out) (hm : ∀ b ∈ out.rd, m b = m' b) : (mupdS P m' t x k v).Is out := by
  unfold mupdS at h ⊢
  split at h
  rotate_left
  · exact h.elim
  rename_i tw s b hk
  split at h
  rotate_left
  · exact h.elim
  rename_i tw' s' l hmb
  have h0 := h
  have hrd : out.rd = [b] := by
    cases hc : (eqB tw tw' && eqSh s' s)
    · rw [hc] at h; exact h.elim
    rw [hc] at h
    simp only [cond_true] at h
    split at h
    rotate_left
    · exact h.elim
    obtain rfl : _ = out := h
    rfl
  have e1 : m' b = some (.mp tw' s' l) := by rw [← hm b (by simp [hrd])]; exact hmb
  simp only [e1]
  exact h0
theorem sop_mem {P : Program} {m m' : Nat → Option Blk} {nid : Nat} {ev : Operand → SV} {o : Op} {out : Out} (h : (sop P m nid ev o).Is out) (hm : ∀ b ∈ out.rd, m b = m' b) : (sop P m' nid ev o).Is out := by
  cases o <;> simp only [sop] at h ⊢ <;> (try exact h)
  case load t x =>
    exact loadN_mem h hm
  case store t x y =>
    exact storeN_mem h hm
  case lookup t x k ok =>
    exact lookS_mem h hm
  case mapUpdate t x k v =>
    exact mupdS_mem h hm
  case insert t x k v =>
    exact mupdS_mem h hm
  case slice t x lo hi mx =>
    cases mx with
    | some _ => exact h
    | none => exact sliceS_mem h hm
  case call c =>
    split at h
    · split at h
      · exact appS_mem h hm
      · exact h
    · exact h

theorem sopX_mem {E : Env} {m m' : Mem} {nid : Nat} {ev : Operand → SV} {o : Op} {out : Out} (h : (sopX E m nid ev o).Is out) (hm : ∀ b ∈ out.rd, m.fn b = m'.fn b) (hb : out.bar = true → m = m') : (sopX E m' nid ev o).Is out := by
  have plain : (sop E.P m.fn nid ev o).Is out → (sop E.P m'.fn nid ev o).Is out := fun h => sop_mem h hm
  cases o <;> (try exact plain h)
  rename_i c
  obtain ⟨callee, args, ats⟩ := c
  have other : ∀ (o : Op), ((frzO m.fn ev o).bind fun p => (sop E.P (mupd m.fn p.1) nid ev o).bind fun out => .ret { out with wr := p.1 ++ out.wr, rd := p.2 ++ out.rd }).Is out →
      ((frzO m'.fn ev o).bind fun p => (sop E.P (mupd m'.fn p.1) nid ev o).bind fun out => .ret { out with wr := p.1 ++ out.wr, rd := p.2 ++ out.rd }).Is out := fun o h => by
    obtain ⟨p, hp, h⟩ := T.is_bind h
    obtain ⟨out0, h1, h2⟩ := T.is_bind h
    obtain rfl : _ = out := h2
    have hag : ∀ b ∈ p.2, m.fn b = m'.fn b := fun b hb => hm b (by simp [hb])
    have same : (frzO m'.fn ev o).Is p ∧ ∀ b, m.fn b = m'.fn b → mupd m.fn p.1 b = mupd m'.fn p.1 b := by
      have triv : ∀ q : List (Nat × Option Blk) × List Nat, q = p → q.1 = [] → ∀ b, m.fn b = m'.fn b → mupd m.fn p.1 b = mupd m'.fn p.1 b := fun q hq h0 b hbe => by
        subst hq; rw [h0]; exact hbe
      unfold frzO at hp ⊢
      split at hp
      · split at hp
        · rename_i y hl
          unfold frzS at hp ⊢
          split at hp
          rotate_left
          · exact ⟨hp, triv _ hp rfl⟩
          rename_i b off n ss
          split at hp
          rotate_left
          · exact hp.elim
          rename_i cs e hmb
          cases ho : cs.any isOwn
          · rw [ho] at hp
            have hp' : ([], [b]) = p := hp
            have e1 : m'.fn b = some (.cells cs e) := by rw [← hag b (by rw [← hp']; simp)]; exact hmb
            simp only [e1, ho, cond_false]
            exact ⟨hp', triv _ hp' rfl⟩
          rw [ho] at hp
          simp only [cond_true] at hp
          split at hp
          rotate_left
          · exact hp.elim
          rename_i cs' rd hv
          cases hr : rd.any (Nat.beq b)
          rotate_left
          · rw [hr] at hp; exact hp.elim
          rw [hr] at hp
          simp only [cond_false] at hp
          obtain rfl : _ = p := hp
          have e1 : m'.fn b = some (.cells cs e) := by rw [← hag b (by simp)]; exact hmb
          have e2 := viewsS_congr cs cs' rd hv (fun c hc => hag c (by simp [hc]))
          simp only [e1, ho, cond_true, e2, hr, cond_false]
          refine ⟨rfl, fun c hc => ?_⟩
          have e3 : ∀ f : Nat → Option Blk, mupd f (rd.map (fun c => (c, none)) ++ [(b, some (.cells cs' e))]) c = if c = b then some (.cells cs' e) else if c ∈ rd then none else f c := fun f => by
            rw [mupd_append]
            show upd (mupd f (rd.map fun c => (c, none))) b (some (.cells cs' e)) c = _
            by_cases h : c = b
            · subst h; simp
            · rw [upd_other _ _ h, if_neg h, mupd_none]
          simp only [e3, hc]
        · exact ⟨hp, triv _ hp rfl⟩
      · exact ⟨hp, triv _ hp rfl⟩
    exact T.bind_is same.1 (T.bind_is (sop_mem h1 fun b hb => same.2 b (hm b (by simp [hb]))) rfl)
  cases callee <;> (try exact other _ h)
  simp only [sopX] at h ⊢
  split at h
  · unfold callS at h ⊢
    rename_i g first cap hev
    cases hbo : bodyOk E.P g
    · rw [hbo] at h; exact h.elim
    rw [hbo] at h
    simp only [cond_true] at h ⊢
    split at h
    · obtain ⟨p, h1, h⟩ := T.is_bind h
      obtain ⟨sv, h2, h⟩ := T.is_bind h
      have hrd : out.rd = p.2 := by
        cases hfl : (p.2.isEmpty || sv.flat)
        · rw [hfl] at h; rw [← (show _ = out from h)]
        · rw [hfl] at h; rw [← (show _ = out from h)]
      refine T.bind_is (a := p) ?_ (T.bind_is h2 h)
      rw [viewsS_congr _ p.1 p.2 (optS_is h1) (fun b hb => hm b (by rw [hrd]; exact hb))]
      rfl
    · obtain ⟨r, h1, h2⟩ := T.is_bind h
      have hbar : out.bar = true := by rw [← (show _ = out from h2)]
      rw [← hb hbar]
      exact h
  · rename_i l hev
    have hbar : out.bar = true := by
      have h := h
      unfold yieldS at h
      split at h
      · split at h
        · rename_i vs _
          cases ht : hasT vs
          · rw [ht] at h
            rcases h.2 with ⟨_, h⟩ | ⟨_, h⟩ <;> rw [← (show _ = out from h)]
          · rw [ht] at h; exact h.elim
        · obtain ⟨p, h1, h⟩ := T.is_bind h
          cases ht : p.2.any (Nat.beq 0)
          · rw [ht] at h
            rcases h.2 with ⟨_, h⟩ | ⟨_, h⟩ <;> rw [← (show _ = out from h)]
          · rw [ht] at h; exact h.elim
      · exact h.elim
    rw [← hb hbar]
    exact h
  · exact h.elim

section
variable {E : Env} {lv0 : Am} {w0 w : World} {bs : Bs} {D : Nat → Prop} {σ : List SV × Mem} {a : Act} {ops : List Oper}

theorem evD_rep {lv : Nat → Prop} {dec : Dec} {sl : List SV} (hf : FInv bs lv w sl a) {x : Operand} (hd : ∀ t, x = .tmp t → ∀ b, dec.get t = some b → sl.getD t (.lit undef) = .lit (.bool b)) :
    Rep bs lv w (evD dec sl x) (a.eval x) := by
  cases x with
  | tmp t =>
    unfold evD
    simp only []
    split
    · rename_i b hb
      have h1 : Rep bs lv w (sl.getD t (.lit undef)) (a.eval (.tmp t)) := hf.ev (.tmp t)
      rw [hd t rfl b hb] at h1
      exact h1
    · exact hf.ev _
  | const v => exact hf.ev (.const v)
  | global g => exact hf.ev (.global g)
  | func f => exact hf.ev (.func f)

theorem wantB_wanted {lv : Nat → Prop} {dec : Dec} {sl : List SV} {o : Oper} {b : Bool} (hf : FInv bs lv w sl a) (h : wantB ops dec sl o = some b)
    (hd : ∀ t ∈ o.looksAt ops.toArray, ∀ b, dec.get t = some b → sl.getD t (.lit undef) = .lit (.bool b)) : Region.wanted o (yielded ops.toArray a.tmps) = b := by
  unfold wantB at h
  unfold Region.wanted
  split at h
  · rename_i hg; simp only [hg]; simpa using h
  · rename_i j want hg
    simp only [hg]
    unfold yielded
    split at h
    · rename_i hj
      simp only [List.getElem?_toArray, hj, Option.bind_none]
      simp only [Option.some.injEq] at h
      subst h; rfl
    · rename_i d hj
      simp only [List.getElem?_toArray, hj, Option.bind_some]
      have hlook : d ∈ o.looksAt ops.toArray := by
        unfold Oper.looksAt
        rw [hg]
        simp [hj]
      have hr := evD_rep hf (x := .tmp d) (dec := dec) (fun t e b hb => by cases e; exact hd d hlook b hb)
      have he : a.eval (.tmp d) = a.tmps.getD d undef := rfl
      rw [he] at hr
      split at h
      · rename_i c hc
        rw [hc] at hr
        have hr' : a.tmps.getD d undef = .bool c := hr
        have : a.tmps[d]? = some (.bool c) := by
          cases hx : a.tmps[d]? with
          | none => simp [hx, undef] at hr'
          | some v => simp [hx] at hr'; rw [hr']
        rw [this]
        simp only [Option.some.injEq] at h
        subst h
        cases c <;> cases want <;> rfl
      · rename_i hc
        rw [hc] at hr
        have hr' : a.tmps.getD d undef = undef := hr
        simp only [Option.some.injEq] at h
        subst h
        cases hx : a.tmps[d]? with
        | none => rfl
        | some v => simp [hx] at hr'; rw [hr']; rfl
      · cases h

structure Anchor where
  bs : Bs
  lv : Nat → Prop
  w : World
  n : Nat
  dom : ∀ b, n ≤ b → bs b = none
  ro : Option Nat := none
/-- The mark of a loop over a function. -/
def mark (x : Nat) : Deferred := { target := .collected x, args := #[] }
/-- The marks that lie on the frame; the record of the loop of whose round this is lies fixed. -/
def Side (A : Anchor) (lv0 : Am) (lv : Nat → Prop) (w : World) (ds : List Deferred) : Prop :=
  (ds.Nodup ∧ ∀ d ∈ ds, ∃ x, d = mark x ∧ A.w.heap.size ≤ x ∧ x < w.heap.size ∧ ¬ lv x ∧ w.heap[x]? = some (.deferred (some []))) ∧
  ∀ l, A.ro = some l → ∃ r, lv0.fix l = some (.loop r)
theorem Side.ext {A : Anchor} {lv0 : Am} {bs bs' : Bs} {lv lv' : Nat → Prop} {w w' : World} {ds : List Deferred} (h : Side A lv0 lv w ds) (he : Ext bs lv w bs' lv' w') : Side A lv0 lv' w' ds :=
  ⟨⟨h.1.1, fun d hd => by
    obtain ⟨x, h1, h2, h3, h4, h5⟩ := h.1.2 d hd
    exact ⟨x, h1, h2, Nat.lt_of_lt_of_le h3 he.size, fun hl => h4 (he.hlv x h3 hl), (he.heap x h3 h4).trans h5⟩⟩, h.2⟩
theorem Side.weaken {A : Anchor} {lv0 : Am} {lv lv' : Nat → Prop} {w : World} {ds : List Deferred} (h : Side A lv0 lv w ds) (hl : ∀ x, lv' x → lv x) : Side A lv0 lv' w ds :=
  ⟨⟨h.1.1, fun d hd => by
    obtain ⟨x, h1, h2, h3, h4, h5⟩ := h.1.2 d hd
    exact ⟨x, h1, h2, h3, fun hx => h4 (hl x hx), h5⟩⟩, h.2⟩
theorem side_nil {bs : Bs} {lv0 : Am} {lv lv' : Nat → Prop} {w w' : World} {n : Nat} {dom : ∀ b, n ≤ b → bs b = none} : Side ⟨bs, lv, w, n, dom, none⟩ lv0 lv' w' [] :=
  ⟨⟨List.nodup_nil, fun d hd => by cases hd⟩, fun l hl => by cases hl⟩
/-- The state of the walk: what is known of the world and of the frame, and that all goes on from an anchor. -/
def SInv (A : Anchor) (lv0 : Am) (w0 : World) (D : Nat → Prop) (σ : List SV × Mem) (a : Act) (w : World) : Prop :=
  ∃ bs lv1, Grow lv0 lv1 ∧ MInv lv1 w0 bs D σ.2.fn w ∧ FInv bs (live lv1 bs σ.2.fn) w σ.1 a ∧ Ext A.bs A.lv A.w bs (live lv1 bs σ.2.fn) w ∧ Side A lv0 (live lv1 bs σ.2.fn) w a.defers

/-- A step, wherever it comes. -/
theorem step_wp {A : Anchor} (hE : EnvOK E) {s : Step} {Q : Exit → Act → World → Prop} (hs : StepOK E ops s σ) (hi : SInv A lv0 w0 D σ a w)
    (hD : ∀ b, s.nid ≤ b → b < s.nid + s.out.nn → ¬ D b) (hbar : s.out.bar = true → σ.2.length = s.nid ∧ ∀ b, D b ↔ b < s.nid)
    {K : Act → World → Prop} (hK : ∀ a' w', SInv A lv0 w0 (news D s.nid s.out.nn) (s.app σ) a' w' → K a' w') :
    if Region.wanted s.o (yielded ops.toArray a.tmps) then s.o.wpIn (Fr A.ro) 3 E.P a w K Q else (∀ f, s.o.about E.P w a.eval = some f → (Fr A.ro).fn f) ∧ K (a.put s.o.dst undef) w := by
  obtain ⟨bs, lv1, hg, hm, hf, hx, hsd⟩ := hi
  obtain ⟨hdec, hs⟩ := hs
  rcases hs with ⟨hw, hs⟩ | ⟨hw, ho⟩
  · rw [wantB_wanted hf hw hdec]
    simp only [if_true]
    classical
    have hs' : (sopX E σ.2 s.nid (fun x => if x ∈ s.o.op.operands then evD s.dec σ.1 x else .any) s.o.op).Is s.out := by
      rw [sopX_congr E σ.2 s.nid (ev' := evD s.dec σ.1) s.o.op (fun x hx => by simp [hx])]
      exact hs
    refine Oper.wpIn_mono (fun a' w' ⟨⟨bs', lv2, hg2, h1, h2, h3⟩, hd⟩ => hK a' w' ⟨bs', lv2, hg.trans hg2, h1, h2, hx.trans h3, by rw [hd]; exact hsd.ext h3⟩) (stepX_wp hE hs' hm hf (fun x => ?_) hD hbar)
    by_cases hxo : x ∈ s.o.op.operands
    · simp only [hxo, if_true]
      refine evD_rep hf fun t e b hb => hdec t ?_ b hb
      subst e
      unfold Oper.looksAt
      simp only [List.mem_append, List.mem_filterMap]
      exact .inl ⟨.tmp t, by simpa using hxo, rfl⟩
    · simp only [hxo, if_false]; exact trivial
  · rw [wantB_wanted hf hw hdec]
    simp only [Bool.false_eq_true, if_false]
    obtain ⟨o, nid, dec, out⟩ := s
    obtain rfl : out = undefO := ho
    refine ⟨fun _ _ => trivial, hK _ _ ⟨bs, lv1, hg, ?_, ?_, hx, by rw [put_defers]; exact hsd⟩⟩
    · have := hm.monoD (D' := news D nid 0) (fun x hx => .inl hx)
      exact this
    · exact hf.put (s := .lit undef) (v := undef) (Ext.refl _ _ _) o.dst (show undef = undef from rfl)

/-- A region in the order of the text. -/
theorem seq_wp {A : Anchor} (hE : EnvOK E) {Q : Exit → Act → World → Prop} : ∀ (l : List Step) (σ : List SV × Mem) (a : Act) (w : World), LexOK E ops l σ → SInv A lv0 w0 (· < σ.2.length) σ a w →
    (∀ a' w', SInv A lv0 w0 (· < (l.foldl (fun σ s => s.app σ) σ).2.length) (l.foldl (fun σ s => s.app σ) σ) a' w' → Q .normal a' w') → wpListIn (Fr A.ro) 3 E.P ops.toArray Q (l.map (·.o)) a w
  | [], σ, a, w, _, hi, hQ => hQ a w hi
  | s :: rest, σ, a, w, ⟨hn, hl, hs, hr⟩, hi, hQ => by
    rw [List.map_cons, wpListIn]
    have := step_wp hE (Q := Q) hs hi (fun b h1 _ => by omega) (fun _ => ⟨hn.symm, fun b => by rw [hn]⟩) (K := wpListIn (Fr A.ro) 3 E.P ops.toArray Q (rest.map (·.o)))
      (fun a' w' h => seq_wp hE rest (s.app σ) a' w' hr (by
        obtain ⟨bs, lv1, hg, h1, h2, h3⟩ := h
        refine ⟨bs, lv1, hg, h1.monoD fun x hx => ?_, h2, h3⟩
        show x < (s.app σ).2.length
        rw [hl]
        rcases hx with hx | hx <;> omega) hQ)
    exact this
end
end Go.RX

/- Regions whose order is drawn: the order of the text serves every order, where what two operations share is ordered. -/
set_option linter.unusedVariables false
set_option linter.unusedSimpArgs false
namespace Go.RX
open Go Go.RowKit

/-- Which operations come before which: sets as numbers. -/
def bef : List Oper → List Nat → List Nat
  | [], acc => acc
  | o :: rest, acc => bef rest (acc ++ [o.after.toList.foldl (fun s e => bif Region.binds .any e then s ||| (2 ^ e.on ||| acc.getD e.on 0) else s) 0])

def keys (wr : List (Nat × Option Blk)) : List Nat := wr.map (·.1)
def memy (s : Step) : Bool := s.out.bar || !s.out.wr.isEmpty || !(Nat.beq s.out.nn 0)
def meets (l l' : List Nat) : Bool := l.any fun b => l'.any fun c => Nat.beq b c
def Step.dsts (s : Step) : List Nat := s.o.dst.toList
/-- Whether two steps touch one thing. -/
def confl (ops : List Oper) (s t : Step) : Bool :=
  meets s.dsts (t.o.looksAt ops.toArray) || meets t.dsts (s.o.looksAt ops.toArray) || meets s.dsts t.dsts ||
  meets (keys s.out.wr) t.out.rd || meets (keys s.out.wr) (keys t.out.wr) || meets s.out.rd (keys t.out.wr) || (s.out.bar && memy t) || (t.out.bar && memy s)

/-- What two steps share is ordered: j from k on. -/
def ordFrom (ops : List Oper) (bs : List Nat) : List Step → Nat → List Step → Bool
  | _, _, [] => true
  | past, j, t :: rest => (past.zipIdx.all fun p => !(confl ops p.1 t) || (bs.getD j 0).testBit p.2) && ordFrom ops bs (past ++ [t]) (j + 1) rest

def backward (ops : List Oper) : Bool := ops.zipIdx.all fun p => p.1.after.toList.all fun e => !(Region.binds .any e) || Nat.blt e.on p.2

def drawOK (ops : List Oper) (steps : List Step) : Bool := backward ops && ordFrom ops (bef ops []) [] 0 steps

theorem meets_of {l l' : List Nat} {b : Nat} (h : b ∈ l) (h' : b ∈ l') : meets l l' = true := by
  simp only [meets, List.any_eq_true]
  exact ⟨b, h, b, h', by simp⟩

/-- i is reached from j along the edges that bind. -/
inductive Anc (ops : List Oper) : Nat → Nat → Prop
  | edge {j : Nat} {o : Oper} {e : Edge} : ops[j]? = some o → e ∈ o.after.toList → Region.binds .any e = true → Anc ops j e.on
  | more {j i : Nat} {o : Oper} {e : Edge} : ops[j]? = some o → e ∈ o.after.toList → Region.binds .any e = true → Anc ops e.on i → Anc ops j i

theorem bef_anc (ops : List Oper) : ∀ (rest : List Oper) (acc : List Nat), (∃ done, ops = done ++ rest ∧ done.length = acc.length) →
    (∀ j i, (acc.getD j 0).testBit i = true → Anc ops j i) → ∀ j i, ((bef rest acc).getD j 0).testBit i = true → Anc ops j i
  | [], acc, _, h => h
  | o :: rest, acc, ⟨done, hd, hl⟩, h => by
    rw [bef]
    refine bef_anc ops rest _ ⟨done ++ [o], by simp [hd], by simp [hl]⟩ fun j i hb => ?_
    rw [List.getD_eq_getElem?_getD] at hb
    by_cases hj : j < acc.length
    · rw [List.getElem?_append_left hj] at hb
      exact h j i (by rw [List.getD_eq_getElem?_getD]; exact hb)
    · by_cases hj' : j = acc.length
      · subst hj'
        rw [List.getElem?_append_right (Nat.le_refl _)] at hb
        simp only [Nat.sub_self, List.getElem?_cons_zero, Option.getD_some] at hb
        have ho : ops[acc.length]? = some o := by rw [hd, ← hl]; simp
        have key : ∀ (es : List Edge) (s : Nat), (∀ e ∈ es, e ∈ o.after.toList) → (s.testBit i = true → Anc ops acc.length i) →
            (es.foldl (fun s e => bif Region.binds .any e then s ||| (2 ^ e.on ||| acc.getD e.on 0) else s) s).testBit i = true → Anc ops acc.length i := by
          intro es
          induction es with
          | nil => intro s _ hs hb; exact hs hb
          | cons e es ih =>
            intro s hes hs hb
            rw [List.foldl_cons] at hb
            refine ih _ (fun e he => hes e (by simp [he])) (fun hb' => ?_) hb
            cases hbd : Region.binds .any e
            · rw [hbd] at hb'; exact hs hb'
            · rw [hbd] at hb'
              simp only [cond_true, Nat.testBit_or, Bool.or_eq_true] at hb'
              rcases hb' with h1 | h1 | h1
              · exact hs h1
              · rw [Nat.testBit_two_pow] at h1
                have : e.on = i := by simpa using h1
                subst this
                exact .edge ho (hes e (by simp)) hbd
              · exact .more ho (hes e (by simp)) hbd (h _ _ h1)
        exact key _ 0 (fun e he => he) (fun h0 => by simp at h0) hb
      · rw [List.getElem?_eq_none (by simp; omega)] at hb
        simp at hb

theorem anc_listed {ops : List Oper} {L : Nat → Bool} (hc : ∀ j o, ops[j]? = some o → L j = true → ∀ e ∈ o.after.toList, Region.binds .any e = true → L e.on = true) {j i : Nat} (h : Anc ops j i) :
    L j = true → L i = true := by
  induction h with
  | edge ho he hb => intro hl; exact hc _ _ ho hl _ he hb
  | more ho he hb _ ih => intro hl; exact ih (hc _ _ ho hl _ he hb)

theorem ordFrom_spec {ops : List Oper} {bs : List Nat} : ∀ (rest past : List Step), ordFrom ops bs past past.length rest = true →
    ∀ i j s t, i < j → past.length ≤ j → (past ++ rest)[i]? = some s → (past ++ rest)[j]? = some t → confl ops s t = true → (bs.getD j 0).testBit i = true
  | [], past, _, i, j, s, t, hij, hj, hs, ht, hc => by simp [List.getElem?_eq_none hj] at ht
  | u :: rest, past, h, i, j, s, t, hij, hj, hs, ht, hc => by
    rw [ordFrom, Bool.and_eq_true] at h
    by_cases hj' : j = past.length
    · subst hj'
      rw [List.getElem?_append_right (Nat.le_refl _)] at ht
      simp only [Nat.sub_self, List.getElem?_cons_zero, Option.some.injEq] at ht
      subst ht
      rw [List.getElem?_append_left hij] at hs
      have := List.all_eq_true.1 h.1 (s, i) (by rw [List.mem_zipIdx_iff_getElem?]; exact hs)
      simp only [hc, Bool.not_true, Bool.false_or] at this
      exact this
    · have h2 := h.2
      rw [show past.length + 1 = (past ++ [u]).length by simp] at h2
      exact ordFrom_spec rest (past ++ [u]) h2 i j s t hij (by simp; omega) (by simpa using hs) (by simpa using ht) hc

/-- The steps of a set, in the order of the text. -/
def foldL (L : Nat → Bool) : List Step → Nat → List SV × Mem → List SV × Mem
  | [], _, σ => σ
  | s :: rest, i, σ => foldL L rest (i + 1) (bif L i then s.app σ else σ)

theorem putS_len (sl : List SV) (d : Option Tmp) (s : SV) : (putS sl d s).length = sl.length := by cases d <;> simp [putS]
theorem putS_get (sl : List SV) (d : Option Tmp) (s : SV) (t : Nat) (h : t ∉ d.toList) : (putS sl d s)[t]? = sl[t]? := by
  cases d with
  | none => rfl
  | some d => simp only [putS, Option.toList_some, List.mem_singleton] at h ⊢; exact List.getElem?_set_ne (Ne.symm h)
theorem putS_get_same {sl sl' : List SV} (hl : sl.length = sl'.length) (d : Option Tmp) (s : SV) (t : Nat) (h : t ∈ d.toList) : (putS sl d s)[t]? = (putS sl' d s)[t]? := by
  cases d with
  | none => simp at h
  | some d =>
    simp only [Option.toList_some, List.mem_singleton] at h
    subst h
    simp only [putS, List.getElem?_set]
    by_cases hlt : t < sl.length
    · have : t < sl'.length := by omega
      simp [hlt, this]
    · have : ¬ t < sl'.length := by omega
      simp [hlt, this]

theorem mupd_not (wr : List (Nat × Option Blk)) : ∀ (f : Nat → Option Blk) (b : Nat), b ∉ keys wr → mupd f wr b = f b := by
  induction wr with
  | nil => intro f b _; rfl
  | cons p wr ih =>
    intro f b h
    simp only [keys, List.map_cons, List.mem_cons, not_or] at h
    simp only [mupd, List.foldl_cons] at ih ⊢
    rw [ih _ b h.2]
    exact upd_other _ _ h.1
theorem mupd_same (wr : List (Nat × Option Blk)) : ∀ (f g : Nat → Option Blk) (b : Nat), b ∈ keys wr ∨ f b = g b → mupd f wr b = mupd g wr b := by
  induction wr with
  | nil => intro f g b h; rcases h with h | h; · simp [keys] at h
           · exact h
  | cons p wr ih =>
    intro f g b h
    simp only [mupd, List.foldl_cons] at ih ⊢
    refine ih _ _ b ?_
    by_cases hb : b = p.1
    · right; subst hb; simp
    · rw [upd_other _ _ hb, upd_other _ _ hb]
      rcases h with h | h
      · simp only [keys, List.map_cons, List.mem_cons] at h
        rcases h with h | h
        · exact absurd h hb
        · exact .inl h
      · exact .inr h

theorem app_len (s : Step) (σ : List SV × Mem) : (s.app σ).1.length = σ.1.length := putS_len _ _ _
theorem foldL_len (L : Nat → Bool) : ∀ (l : List Step) (i : Nat) (σ : List SV × Mem), (foldL L l i σ).1.length = σ.1.length
  | [], _, _ => rfl
  | s :: rest, i, σ => by
    rw [foldL, foldL_len]
    cases L i
    · rfl
    · exact app_len s σ

/-- Two sets that agree on the writers of a slot agree on the slot. -/
theorem foldL_slot {L L' : Nat → Bool} (t : Nat) : ∀ (l : List Step) (i : Nat) (σ σ' : List SV × Mem), σ.1.length = σ'.1.length → σ.1[t]? = σ'.1[t]? →
    (∀ k s, l[k]? = some s → t ∈ s.dsts → L (i + k) = L' (i + k)) → (foldL L l i σ).1[t]? = (foldL L' l i σ').1[t]?
  | [], _, _, _, _, h, _ => h
  | s :: rest, i, σ, σ', hl, h, hw => by
    rw [foldL, foldL]
    refine foldL_slot t rest (i + 1) _ _ ?_ ?_ (fun k u hk hu => by have := hw (k + 1) u (by simpa using hk) hu; rwa [show i + (k + 1) = i + 1 + k by omega] at this)
    · cases L i <;> cases L' i <;> simp only [cond_true, cond_false, app_len] <;> exact hl
    · by_cases ht : t ∈ s.dsts
      · have := hw 0 s rfl ht
        simp only [Nat.add_zero] at this
        rw [this]
        cases L' i
        · exact h
        · exact putS_get_same hl _ _ t ht
      · cases L i <;> cases L' i <;> simp only [cond_true, cond_false]
        · exact h
        · exact h.trans (putS_get _ _ _ t ht).symm
        · exact (putS_get _ _ _ t ht).trans h
        · exact (putS_get _ _ _ t ht).trans (h.trans (putS_get _ _ _ t ht).symm)

theorem app_fn (s : Step) (σ : List SV × Mem) : (s.app σ).2.fn = mupd σ.2.fn s.out.wr := msets_fn _ _

theorem foldL_mem {L L' : Nat → Bool} (b : Nat) : ∀ (l : List Step) (i : Nat) (σ σ' : List SV × Mem), σ.2.fn b = σ'.2.fn b →
    (∀ k s, l[k]? = some s → b ∈ keys s.out.wr → L (i + k) = L' (i + k)) → (foldL L l i σ).2.fn b = (foldL L' l i σ').2.fn b
  | [], _, _, _, h, _ => h
  | s :: rest, i, σ, σ', h, hw => by
    rw [foldL, foldL]
    refine foldL_mem b rest (i + 1) _ _ ?_ (fun k u hk hu => by have := hw (k + 1) u (by simpa using hk) hu; rwa [show i + (k + 1) = i + 1 + k by omega] at this)
    by_cases ht : b ∈ keys s.out.wr
    · have := hw 0 s rfl ht
      simp only [Nat.add_zero] at this
      rw [this]
      cases L' i
      · exact h
      · simp only [cond_true, app_fn]; exact mupd_same _ _ _ b (.inl ht)
    · cases L i <;> cases L' i <;> simp only [cond_true, cond_false, app_fn, mupd_not _ _ b ht] <;> exact h

theorem app_mem_nil {s : Step} (h : s.out.wr = []) (σ : List SV × Mem) : (s.app σ).2 = σ.2 := by simp [Step.app, h, msets]

theorem foldL_all {L L' : Nat → Bool} : ∀ (l : List Step) (i : Nat) (σ σ' : List SV × Mem), σ.2 = σ'.2 →
    (∀ k s, l[k]? = some s → s.out.wr ≠ [] → L (i + k) = L' (i + k)) → (foldL L l i σ).2 = (foldL L' l i σ').2
  | [], _, _, _, h, _ => h
  | s :: rest, i, σ, σ', h, hw => by
    rw [foldL, foldL]
    refine foldL_all rest (i + 1) _ _ ?_ (fun k u hk hu => by have := hw (k + 1) u (by simpa using hk) hu; rwa [show i + (k + 1) = i + 1 + k by omega] at this)
    by_cases ht : s.out.wr = []
    · cases L i <;> cases L' i <;> simp only [cond_true, cond_false, app_mem_nil ht] <;> exact h
    · have := hw 0 s rfl ht
      simp only [Nat.add_zero] at this
      rw [this]
      cases L' i
      · exact h
      · simp only [cond_true, Step.app]; rw [h]

theorem foldL_none {L : Nat → Bool} : ∀ (l : List Step) (i : Nat) (σ : List SV × Mem), (∀ k, k < l.length → L (i + k) = false) → foldL L l i σ = σ
  | [], _, _, _ => rfl
  | s :: rest, i, σ, h => by
    rw [foldL]
    have := h 0 (by simp)
    simp only [Nat.add_zero] at this
    rw [this]
    exact foldL_none rest (i + 1) σ (fun k hk => by have := h (k + 1) (by simpa using hk); rwa [show i + (k + 1) = i + 1 + k by omega] at this)

theorem foldL_every {L : Nat → Bool} : ∀ (l : List Step) (i : Nat) (σ : List SV × Mem), (∀ k, k < l.length → L (i + k) = true) → foldL L l i σ = l.foldl (fun σ s => s.app σ) σ
  | [], _, _, _ => rfl
  | s :: rest, i, σ, h => by
    rw [foldL]
    have := h 0 (by simp)
    simp only [Nat.add_zero] at this
    rw [this]
    exact foldL_every rest (i + 1) _ (fun k hk => by have := h (k + 1) (by simpa using hk); rwa [show i + (k + 1) = i + 1 + k by omega] at this)

theorem foldL_append (L : Nat → Bool) : ∀ (l l' : List Step) (i : Nat) (σ : List SV × Mem), foldL L (l ++ l') i σ = foldL L l' (i + l.length) (foldL L l i σ)
  | [], _, _, _ => rfl
  | s :: rest, l', i, σ => by
    rw [List.cons_append, foldL, foldL, foldL_append L rest l', List.length_cons, show i + 1 + rest.length = i + (rest.length + 1) by omega]
end Go.RX

/- Regions whose order is drawn: the theorem. -/
set_option linter.unusedVariables false
set_option linter.unusedSimpArgs false
namespace Go.RX
open Go Go.RowKit

def sat (steps : List Step) (σ : List SV × Mem) (i : Nat) : List SV × Mem := (steps.take i).foldl (fun σ s => s.app σ) σ

theorem mset_len (m : Mem) (b : Nat) (v : Option Blk) : m.length ≤ (mset m b v).length := by
  unfold mset; cases Nat.blt b m.length <;> simp <;> omega
theorem msets_len (wr : List (Nat × Option Blk)) : ∀ m : Mem, m.length ≤ (msets m wr).length := by
  induction wr with
  | nil => intro m; exact Nat.le_refl _
  | cons p wr ih => intro m; simp only [msets, List.foldl_cons] at ih ⊢; exact Nat.le_trans (mset_len m _ _) (ih _)

section
variable {E : Env} {ops : List Oper} {steps : List Step} {σ : List SV × Mem}

theorem lex_at : ∀ (steps : List Step) (σ : List SV × Mem), LexOK E ops steps σ → ∀ (i : Nat) (s : Step), steps[i]? = some s →
    s.nid = (sat steps σ i).2.length ∧ (s.app (sat steps σ i)).2.length = s.nid + s.out.nn ∧ StepOK E ops s (sat steps σ i)
  | [], _, _, i, s, h => by simp at h
  | u :: rest, σ, ⟨h1, h2, h3, h4⟩, i, s, h => by
    cases i with
    | zero => simp at h; subst h; exact ⟨h1, h2, h3⟩
    | succ i =>
      have := lex_at rest (u.app σ) h4 i s (by simpa using h)
      simpa [sat] using this

theorem sat_succ {i : Nat} {s : Step} (h : steps[i]? = some s) : sat steps σ (i + 1) = s.app (sat steps σ i) := by
  unfold sat
  rw [List.take_add_one, h]
  simp

theorem sat_mono (steps : List Step) (σ : List SV × Mem) {i j : Nat} (h : i ≤ j) : (sat steps σ i).2.length ≤ (sat steps σ j).2.length := by
  induction j with
  | zero => have : i = 0 := by omega
            subst this; exact Nat.le_refl _
  | succ j ih =>
    by_cases hij : i = j + 1
    · subst hij; exact Nat.le_refl _
    · refine Nat.le_trans (ih (by omega)) ?_
      cases hs : steps[j]? with
      | none =>
        have : steps.length ≤ j := by simpa using hs
        unfold sat
        rw [List.take_of_length_le this, List.take_of_length_le (by omega)]
        exact Nat.le_refl _
      | some s => rw [sat_succ hs]; exact msets_len _ _

theorem foldL_lt (i : Nat) (steps : List Step) (σ : List SV × Mem) : foldL (fun j => decide (j < i)) steps 0 σ = sat steps σ i := by
  conv => lhs; rw [← List.take_append_drop i steps]
  rw [foldL_append, foldL_every _ 0 σ (fun k hk => by simp at hk ⊢; omega)]
  rw [foldL_none]
  · rfl
  · intro k hk
    simp only [List.length_take, List.length_drop] at hk ⊢
    simp; omega

def DL (steps : List Step) (base : Nat) (L : Nat → Bool) (x : Nat) : Prop := x < base ∨ ∃ j s, steps[j]? = some s ∧ L j = true ∧ s.nid ≤ x ∧ x < s.nid + s.out.nn

def addL (L : Nat → Bool) (i : Nat) : Nat → Bool := fun j => L j || decide (j = i)

theorem wantB_congr {dec : Dec} {sl sl' : List SV} {o : Oper} (h : ∀ t ∈ o.looksAt ops.toArray, sl.getD t (.lit undef) = sl'.getD t (.lit undef)) : wantB ops dec sl o = wantB ops dec sl' o := by
  unfold wantB
  cases hg : o.guard with
  | none => rfl
  | some p =>
    obtain ⟨j, want⟩ := p
    cases hj : (ops[j]?).bind (·.dst) with
    | none => simp only [hj]
    | some d =>
      have hd : d ∈ o.looksAt ops.toArray := by unfold Oper.looksAt; rw [hg]; simp [hj]
      have : evD dec sl (.tmp d) = evD dec sl' (.tmp d) := by
        unfold evD
        simp only []
        cases dec.get d with
        | some b => rfl
        | none => exact h d hd
      simp only [hj, this]

variable {lv0 : Am} {w0 w : World} {a : Act}

theorem draw_step {A : Anchor} (hE : EnvOK E) (hlex : LexOK E ops steps σ) (hord : ordFrom ops (bef ops []) [] 0 steps = true) {L : Nat → Bool}
    (hc : ∀ j o, ops[j]? = some o → L j = true → ∀ e ∈ o.after.toList, Region.binds .any e = true → L e.on = true)
    {i : Nat} {s : Step} (hs : steps[i]? = some s) (hLi : L i = false) (hanc : ∀ k, Anc ops i k → L k = true) {Q : Exit → Act → World → Prop}
    (hi : SInv A lv0 w0 (DL steps σ.2.length L) (foldL L steps 0 σ) a w) {K : Act → World → Prop}
    (hK : ∀ a' w', SInv A lv0 w0 (DL steps σ.2.length (addL L i)) (foldL (addL L i) steps 0 σ) a' w' → K a' w') :
    if Region.wanted s.o (yielded ops.toArray a.tmps) then s.o.wpIn (Fr A.ro) 3 E.P a w K Q else (∀ f, s.o.about E.P w a.eval = some f → (Fr A.ro).fn f) ∧ K (a.put s.o.dst undef) w := by
  obtain ⟨hn, hl, hok⟩ := lex_at steps σ hlex i s hs
  have hbef := bef_anc ops ops [] ⟨[], rfl, rfl⟩ (fun j i h => by simp at h)
  -- what meets the step is listed just if it stands ahead of it
  have hmeet : ∀ j u, steps[j]? = some u → confl ops u s = true → confl ops s u = true → L j = decide (j < i) := by
    intro j u hu c1 c2
    rcases Nat.lt_trichotomy j i with h | h | h
    · have := ordFrom_spec steps [] hord j i u s h (Nat.zero_le _) (by simpa using hu) (by simpa using hs) c1
      simp [h, hanc j (hbef _ _ this)]
    · subst h; simp [hLi]
    · have := ordFrom_spec steps [] hord i j s u h (Nat.zero_le _) (by simpa using hs) (by simpa using hu) c2
      have hno : L j = false := by
        cases hj : L j
        · rfl
        · rw [anc_listed hc (hbef _ _ this) hj] at hLi; cases hLi
      simp [hno]; omega
  have hslot : ∀ t ∈ s.o.looksAt ops.toArray, (foldL L steps 0 σ).1[t]? = (sat steps σ i).1[t]? := by
    intro t ht
    rw [← foldL_lt]
    refine foldL_slot t steps 0 σ σ rfl rfl fun k u hk hu => ?_
    rw [Nat.zero_add]
    exact hmeet k u hk (by simp [confl, meets_of hu ht]) (by simp [confl, meets_of hu ht])
  have hslot' : ∀ t ∈ s.o.looksAt ops.toArray, (foldL L steps 0 σ).1.getD t (.lit undef) = (sat steps σ i).1.getD t (.lit undef) := by
    intro t ht; rw [List.getD_eq_getElem?_getD, List.getD_eq_getElem?_getD, hslot t ht]
  have hmem : ∀ b ∈ s.out.rd, (sat steps σ i).2.fn b = (foldL L steps 0 σ).2.fn b := by
    intro b hb
    rw [← foldL_lt]
    refine (foldL_mem b steps 0 σ σ rfl fun k u hk hu => ?_).symm
    rw [Nat.zero_add]
    exact hmeet k u hk (by simp [confl, meets_of hu hb]) (by simp [confl, meets_of hb hu])
  have hbarm : ∀ (hb : s.out.bar = true) j u, steps[j]? = some u → memy u = true → L j = decide (j < i) := fun hb j u hu hm =>
    hmeet j u hu (by simp [confl, hb, hm]) (by simp [confl, hb, hm])
  have hall : s.out.bar = true → (sat steps σ i).2 = (foldL L steps 0 σ).2 := by
    intro hb
    rw [← foldL_lt]
    refine (foldL_all steps 0 σ σ rfl fun k u hk hu => ?_).symm
    rw [Nat.zero_add]
    exact hbarm hb k u hk (by unfold memy; cases hw : u.out.wr <;> simp_all)
  have hstep : StepOK E ops s (foldL L steps 0 σ) := by
    obtain ⟨h1, h2⟩ := hok
    refine ⟨fun t ht b hb => by rw [hslot' t ht]; exact h1 t ht b hb, ?_⟩
    rw [wantB_congr hslot']
    refine h2.imp (fun ⟨g1, g2⟩ => ⟨g1, ?_⟩) id
    refine sopX_mem ?_ hmem hall
    rw [sopX_congr E _ _ (ev' := evD s.dec (sat steps σ i).1) s.o.op (fun x hx => ?_)]
    · exact g2
    · cases x with
      | tmp t =>
        have ht : t ∈ s.o.looksAt ops.toArray := by
          unfold Oper.looksAt
          simp only [List.mem_append, List.mem_filterMap]
          exact .inl ⟨.tmp t, by simpa using hx, rfl⟩
        unfold evD
        simp only []
        cases s.dec.get t with
        | some b => rfl
        | none => exact hslot' t ht
      | const v => rfl
      | global g => rfl
      | func f => rfl
  refine step_wp hE hstep hi ?_ ?_ ?_
  · -- the new numbers are new
    rintro b h1 h2 (h3 | ⟨j, u, hu, hLj, h4, h5⟩)
    · have := sat_mono steps σ (Nat.zero_le i)
      simp only [sat, List.take_zero, List.foldl_nil] at this hn
      omega
    · obtain ⟨hn', hl', _⟩ := lex_at steps σ hlex j u hu
      rcases Nat.lt_trichotomy j i with h | h | h
      · have := sat_mono steps σ (show j + 1 ≤ i by omega)
        rw [sat_succ hu, hl'] at this
        omega
      · subst h; rw [hLi] at hLj; cases hLj
      · have := sat_mono steps σ (show i + 1 ≤ j by omega)
        rw [sat_succ hs, hl] at this
        omega
  · -- a step that must stand in its place
    intro hb
    refine ⟨by rw [← hall hb, hn], fun b => ⟨?_, fun hlt => ?_⟩⟩
    · rintro (h3 | ⟨j, u, hu, hLj, h4, h5⟩)
      · have := sat_mono steps σ (Nat.zero_le i)
        simp only [sat, List.take_zero, List.foldl_nil] at this hn
        omega
      · have hm : memy u = true := by
          unfold memy
          have : Nat.beq u.out.nn 0 = false := by
            cases h : Nat.beq u.out.nn 0
            · rfl
            · have := Nat.eq_of_beq_eq_true h; omega
          simp [this]
        have := hbarm hb j u hu hm
        rw [hLj] at this
        have hji : j < i := by simpa using this.symm
        obtain ⟨hn', hl', _⟩ := lex_at steps σ hlex j u hu
        have := sat_mono steps σ (show j + 1 ≤ i by omega)
        rw [sat_succ hu, hl'] at this
        omega
    · -- every number below is in use
      by_cases hbase : b < σ.2.length
      · exact .inl hbase
      · have key : ∀ k, k ≤ i → b < (sat steps σ k).2.length → ∃ j u, j < k ∧ steps[j]? = some u ∧ u.nid ≤ b ∧ b < u.nid + u.out.nn := by
          intro k
          induction k with
          | zero => intro _ h; simp only [sat, List.take_zero, List.foldl_nil] at h; omega
          | succ k ih =>
            intro hk h
            by_cases h' : b < (sat steps σ k).2.length
            · obtain ⟨j, u, h1, h2⟩ := ih (by omega) h'
              exact ⟨j, u, by omega, h2⟩
            · have hlen : k < steps.length := by
                have : i < steps.length := by rw [List.getElem?_eq_some_iff] at hs; exact hs.1
                omega
              have hk' : steps[k]? = some steps[k] := List.getElem?_eq_getElem hlen
              obtain ⟨hn', hl', _⟩ := lex_at steps σ hlex k _ hk'
              rw [sat_succ hk', hl'] at h
              exact ⟨k, _, by omega, hk', by omega, h⟩
        obtain ⟨j, u, h1, h2, h3, h4⟩ := key i (Nat.le_refl _) (by rw [← hn]; exact hlt)
        have hm : memy u = true := by
          unfold memy
          have : Nat.beq u.out.nn 0 = false := by
            cases h : Nat.beq u.out.nn 0
            · rfl
            · have := Nat.eq_of_beq_eq_true h; omega
          simp [this]
        exact .inr ⟨j, u, h2, by rw [hbarm hb j u h2 hm]; simp [h1], h3, h4⟩
  · -- what holds behind it
    intro a' w' h
    refine hK a' w' ?_
    obtain ⟨bs, lv1, hg, h1, h2, h2x⟩ := h
    have hsplit : steps = steps.take i ++ s :: steps.drop (i + 1) := by
      have hlen : i < steps.length := by rw [List.getElem?_eq_some_iff] at hs; exact hs.1
      have : steps[i] = s := by rw [List.getElem?_eq_getElem hlen] at hs; simpa using hs
      rw [← this]; exact (List.take_append_drop i steps).symm.trans (by rw [List.drop_eq_getElem_cons hlen])
    have hlen : i < steps.length := by rw [List.getElem?_eq_some_iff] at hs; exact hs.1
    have hafter : foldL (addL L i) steps 0 σ = foldL (addL L i) (steps.drop (i + 1)) (i + 1) (s.app (foldL (addL L i) (steps.take i) 0 σ)) := by
      conv => lhs; rw [hsplit]
      rw [foldL_append, foldL]
      have e1 : 0 + (steps.take i).length = i := by simp; omega
      rw [e1]
      have e2 : addL L i i = true := by simp [addL]
      rw [e2, cond_true]
    have hdrop : ∀ k u, (steps.drop (i + 1))[k]? = some u → steps[i + 1 + k]? = some u := fun k u h => by simpa using h
    have e1 : (s.app (foldL L steps 0 σ)).1 = (foldL (addL L i) steps 0 σ).1 := by
      apply List.ext_getElem?
      intro t
      by_cases ht : t ∈ s.dsts
      · rw [hafter]
        rw [foldL_slot (L := addL L i) (L' := fun _ => false) t (steps.drop (i + 1)) (i + 1) _ (s.app (foldL (addL L i) (steps.take i) 0 σ)) rfl rfl
          (fun k u hk hu => by
            have hm := hmeet (i + 1 + k) u (hdrop k u hk) (by simp [confl, meets_of hu ht]) (by simp [confl, meets_of ht hu])
            have : ¬ (i + 1 + k < i) := by omega
            simp [addL, hm, this]; omega)]
        rw [foldL_none (L := fun _ => false) (steps.drop (i + 1)) (i + 1) _ (fun _ _ => rfl)]
        exact putS_get_same (by rw [foldL_len, foldL_len]) _ _ t ht
      · have : (s.app (foldL L steps 0 σ)).1[t]? = (foldL L steps 0 σ).1[t]? := putS_get _ _ _ t ht
        rw [this]
        refine foldL_slot t steps 0 σ σ rfl rfl fun k u hk hu => ?_
        rw [Nat.zero_add]
        have hki : k ≠ i := fun e => by subst e; rw [hs] at hk; cases hk; exact ht hu
        simp [addL, hki]
    have e2 : (s.app (foldL L steps 0 σ)).2.fn = (foldL (addL L i) steps 0 σ).2.fn := by
      funext b
      by_cases hb : b ∈ keys s.out.wr
      · rw [hafter]
        rw [foldL_mem (L := addL L i) (L' := fun _ => false) b (steps.drop (i + 1)) (i + 1) _ (s.app (foldL (addL L i) (steps.take i) 0 σ)) rfl
          (fun k u hk hu => by
            have hm := hmeet (i + 1 + k) u (hdrop k u hk) (by simp [confl, meets_of hu hb]) (by simp [confl, meets_of hb hu])
            have : ¬ (i + 1 + k < i) := by omega
            simp [addL, hm, this]; omega)]
        rw [foldL_none (L := fun _ => false) (steps.drop (i + 1)) (i + 1) _ (fun _ _ => rfl), app_fn, app_fn]
        exact mupd_same _ _ _ b (.inl hb)
      · rw [app_fn, mupd_not _ _ b hb]
        refine foldL_mem b steps 0 σ σ rfl fun k u hk hu => ?_
        rw [Nat.zero_add]
        have hki : k ≠ i := fun e => by subst e; rw [hs] at hk; cases hk; exact hb hu
        simp [addL, hki]
    rw [e2] at h1 h2 h2x
    rw [e1] at h2
    refine ⟨bs, lv1, hg, h1.monoD fun x hx => ?_, h2, h2x⟩
    rcases hx with (hx | ⟨j, u, g1, g2, g3⟩) | hx
    · exact .inl hx
    · exact .inr ⟨j, u, g1, by simp [addL, g2], g3⟩
    · exact .inr ⟨i, s, hs, by simp [addL], hx⟩
end
end Go.RX

/- Code: whole bodies over symbolic values, and that they do what they say. -/
set_option linter.unusedVariables false
set_option linter.unusedSimpArgs false
namespace Go.RX
open Go Go.RowKit

theorem count_set_false : ∀ (l : List Bool) (i : Nat), l[i]? = some false → (l.set i true).count false + 1 = l.count false
  | [], i, h => by simp at h
  | b :: l, 0, h => by
    simp at h; subst h
    simp
  | b :: l, i + 1, h => by
    have := count_set_false l i (by simpa using h)
    simp only [List.set_cons_succ, List.count_cons]
    omega

section
variable {E : Env} {ops : List Oper} {steps : List Step} {σ : List SV × Mem} {lv0 : Am} {w0 : World} {A : Anchor}

theorem any_wp (hE : EnvOK E) (hlex : LexOK E ops steps σ) (hord : drawOK ops steps = true) (hmap : steps.map (·.o) = ops) {Q : Exit → Act → World → Prop}
    (hQ : ∀ a w, SInv A lv0 w0 (· < (sat steps σ steps.length).2.length) (sat steps σ steps.length) a w → Q .normal a w) :
    ∀ (fuel : Nat) (listed : Array Bool) (a : Act) (w : World), listed.size = ops.length →
      (∀ j o, ops[j]? = some o → listed.getD j false = true → ∀ e ∈ o.after.toList, Region.binds .any e = true → listed.getD e.on false = true) →
      listed.toList.count false ≤ fuel → SInv A lv0 w0 (DL steps σ.2.length fun j => listed.getD j false) (foldL (fun j => listed.getD j false) steps 0 σ) a w →
      wpAnyIn (Fr A.ro) 3 E.P .any ops.toArray Q fuel listed a w := by
  have hord' := hord
  unfold drawOK at hord'
  rw [Bool.and_eq_true] at hord'
  obtain ⟨hback, ho⟩ := hord'
  have hlen : steps.length = ops.length := by rw [← hmap]; simp
  -- none is ready: all are listed
  have hdone : ∀ (listed : Array Bool), listed.size = ops.length → Region.ready .any ops.toArray listed = [] → ∀ i, i < ops.length → listed.getD i false = true := by
    intro listed hsz hr i
    induction i using Nat.strongRecOn with
    | _ i ih =>
      intro hi
      cases hl : listed.getD i false
      · exfalso
        have hmem : i ∈ Region.ready .any ops.toArray listed := by
          rw [mem_ready]
          refine ⟨?_, ops[i], by simp [hi], fun e he hb => ?_⟩
          · have : i < listed.size := by omega
            simp [this] at hl ⊢
            exact hl
          · have := List.all_eq_true.1 hback (ops[i], i) (by rw [List.mem_zipIdx_iff_getElem?]; simp [hi])
            have := List.all_eq_true.1 this e (by simpa using he)
            simp only [hb, Bool.not_true, Bool.false_or] at this
            have hlt : e.on < i := by rw [← Nat.blt_eq]; exact this
            exact ih e.on hlt (by omega)
        rw [hr] at hmem; cases hmem
      · rfl
  have hfin : ∀ (listed : Array Bool) (a : Act) (w : World), listed.size = ops.length → Region.ready .any ops.toArray listed = [] →
      SInv A lv0 w0 (DL steps σ.2.length fun j => listed.getD j false) (foldL (fun j => listed.getD j false) steps 0 σ) a w → Q .normal a w := by
    intro listed a w hsz hr hi
    have hall := hdone listed hsz hr
    rw [foldL_every (L := fun j => listed.getD j false) steps 0 σ (fun k hk => by simp only [Nat.zero_add]; exact hall k (by omega))] at hi
    have e : steps.foldl (fun σ s => s.app σ) σ = sat steps σ steps.length := by unfold sat; rw [List.take_length]
    rw [e] at hi
    obtain ⟨bs, lv1, hg, h1, h2, h3⟩ := hi
    refine hQ a w ⟨bs, lv1, hg, h1.monoD fun x hx => ?_, h2, h3⟩
    show x < (sat steps σ steps.length).2.length
    rcases hx with hx | ⟨j, s, hs, _, h4, h5⟩
    · have := sat_mono steps σ (Nat.zero_le steps.length)
      simp only [sat, List.take_zero, List.foldl_nil] at this ⊢
      omega
    · obtain ⟨_, hl', _⟩ := lex_at steps σ hlex j s hs
      have hj : j < steps.length := by rw [List.getElem?_eq_some_iff] at hs; exact hs.1
      have := sat_mono steps σ (show j + 1 ≤ steps.length by omega)
      rw [sat_succ hs, hl'] at this
      omega
  intro fuel
  induction fuel with
  | zero =>
    intro listed a w hsz hc hcnt hi
    have hr : Region.ready .any ops.toArray listed = [] := by
      cases hr : Region.ready .any ops.toArray listed with
      | nil => rfl
      | cons i rs =>
        exfalso
        have hmem : i ∈ Region.ready .any ops.toArray listed := by rw [hr]; simp
        obtain ⟨h1, o, h2, _⟩ := mem_ready.1 hmem
        have hi' : i < ops.length := by
          have : i < ops.toArray.size := by rw [Array.getElem?_eq_some_iff] at h2; exact h2.1
          simpa using this
        have : false ∈ listed.toList := by
          have hlt : i < listed.size := by omega
          simp [hlt] at h1
          rw [← h1]; simp
        have := List.count_pos_iff.2 this
        omega
    exact ⟨hr, hfin listed a w hsz hr hi⟩
  | succ fuel ih =>
    intro listed a w hsz hc hcnt hi
    refine ⟨fun hr => hfin listed a w hsz hr hi, fun i hmem => ?_⟩
    obtain ⟨h1, o, h2, h3⟩ := mem_ready.1 hmem
    have hi' : i < ops.length := by
      have : i < ops.toArray.size := by rw [Array.getElem?_eq_some_iff] at h2; exact h2.1
      simpa using this
    have hlt : i < listed.size := by omega
    have hs : steps[i]? = some steps[i] := List.getElem?_eq_getElem (by omega)
    have hso : steps[i].o = o := by
      have : (steps.map (·.o))[i]? = some steps[i].o := by simp [hs]
      rw [hmap] at this
      have h2' : ops[i]? = some o := by simpa using h2
      rw [h2'] at this
      exact (Option.some.inj this).symm
    have hLi : listed.getD i false = false := by simp [hlt] at h1 ⊢; exact h1
    have hset : (fun j => (listed.setIfInBounds i true).getD j false) = addL (fun j => listed.getD j false) i := by
      funext j
      simp only [addL]
      by_cases hj : j = i
      · subst hj; simp [hlt]
      · simp [hj, Array.getElem?_setIfInBounds_ne (Ne.symm hj)]
    have hdir : ∀ e ∈ o.after.toList, Region.binds .any e = true → listed.getD e.on false = true := fun e he hb => h3 e (by simpa using he) hb
    have hstep := draw_step (A := A) (lv0 := lv0) (w0 := w0) (w := w) (a := a) hE hlex ho (L := fun j => listed.getD j false) hc hs hLi
      (fun k hk => by
        cases hk with
        | edge ho' he hb =>
          have : ops[i]? = some o := by simpa using h2
          rw [this] at ho'; cases ho'
          exact hdir _ he hb
        | more ho' he hb hmore =>
          have : ops[i]? = some o := by simpa using h2
          rw [this] at ho'; cases ho'
          exact anc_listed (L := fun j => listed.getD j false) hc hmore (hdir _ he hb)) (Q := Q) hi
      (K := wpAnyIn (Fr A.ro) 3 E.P .any ops.toArray Q fuel (listed.setIfInBounds i true)) (fun a' w' h => by
        refine ih _ a' w' (by simpa using hsz) ?_ ?_ (by rw [hset]; exact h)
        · intro j o' hj hl e he hb
          have hl' : (fun j => (listed.setIfInBounds i true).getD j false) j = true := hl
          rw [hset] at hl'
          show (fun j => (listed.setIfInBounds i true).getD j false) e.on = true
          rw [hset]
          simp only [addL, Bool.or_eq_true, decide_eq_true_eq] at hl' ⊢
          rcases hl' with hl' | rfl
          · exact .inl (hc j o' hj hl' e he hb)
          · have : ops[j]? = some o := by simpa using h2
            rw [this] at hj; cases hj
            exact .inl (hdir e he hb)
        · have := count_set_false listed.toList i (by simp [hlt] at h1 ⊢; exact h1)
          rw [Array.toList_setIfInBounds]
          omega)
    unfold wpOpIn
    rw [h2]
    rw [hso] at hstep
    exact hstep

/-! ### Code -/
inductive Ex where
  | normal
  | exit (id : Nat)
  | ret
def Ex.out : Ex → Exit
  | .normal => .normal
  | .exit id => .exit id
  | .ret => .ret

abbrev St := List SV × Mem

def firstReg : Code → Option Nat
  | .region id _ _ => some id
  | .seq a b => match firstReg a with | some i => some i | none => firstReg b
  | .cond _ a b => match firstReg a with | some i => some i | none => firstReg b
  | .block _ c => firstReg c
  | .loop c => firstReg c
  | _ => none

def loopsIn : Code → List Code
  | .seq a b => loopsIn a ++ loopsIn b
  | .cond _ a b => loopsIn a ++ loopsIn b
  | .block _ c => loopsIn c
  | .loop c => c :: loopsIn c
  | .scope c => loopsIn c
  | .rangeFunc _ _ a c => loopsIn a ++ loopsIn c
  | _ => []
def rangesIn : Code → List Code
  | .seq a b => rangesIn a ++ rangesIn b
  | .cond _ a b => rangesIn a ++ rangesIn b
  | .block _ c => rangesIn c
  | .loop c => rangesIn c
  | .scope c => rangesIn c
  | .rangeFunc g ps a c => .rangeFunc g ps a c :: (rangesIn a ++ rangesIn c)
  | _ => []
/-- The number under which a loop over a function is spoken of: 1000 behind its first region. -/
def rkey (a c : Code) : Option Nat := match firstReg a with | some k => some (1000 + k) | none => (firstReg c).map (1000 + ·)

def refine (sl : List SV) (x : Operand) (b : Bool) : List SV :=
  match x with
  | .tmp t => sl.set t (.kb b)
  | _ => sl

/-- What an iterator yields: by what its function value has captured. -/
abbrev SCon := List SV → T (Nat × (Nat → List Value))
/-- The same, by what lies in boxes that are given to it. -/
abbrev SConG := List (List SV × TypeId) → T (Nat × (Nat → List Value))
/-- What is claimed of the loops of a function: by the first region of the round; how many blocks the surroundings have is handed over. -/
inductive LoopC where
  | sum (f : Nat → St → T (Ex × St))
  | un (n : Nat)
  | rng (gf : FuncId) (sc : SCon) (f : Nat → Nat → (Nat → List Value) → St → T (Ex × St))
  | call (X : List SV → Mem → T (SV × Mem))
  | rngG (gf : FuncId) (sc : SConG) (f : Nat → Nat → (Nat → List Value) → St → T (Ex × St))
abbrev Loops := List (Nat × LoopC)

/-- Boxes that are given to an iterator: what lies in them; which they are. -/
noncomputable def givenS (m : Nat → Option Blk) : List SV → Option (List (List SV × TypeId) × List Nat)
  | [] => some ([], [])
  | .ptr b 0 :: ss =>
    match m b with
    | some (.cells cs e) =>
      match viewsS m cs, givenS m ss with
      | some (cs', []), some q => some ((cs', e) :: q.1, b :: q.2)
      | _, _ => none
    | _ => none
  | _ => none
def nodupN : List Nat → Bool
  | [] => true
  | a :: l => !(l.any (Nat.beq a)) && nodupN l
/-- Some rounds of a loop, one after the other. -/
def rounds (f : St → T (Ex × St)) : Nat → St → T (Ex × St)
  | 0, _ => .stuck 105
  | n + 1, σ => (f σ).bind fun p => match p.1 with | .normal => rounds f n p.2 | e => .ret (e, p.2)

/-- What a summary says of the blocks: all that were there count as written. -/
def bump (m m' : Mem) : Mem := (List.range m'.length).map fun b => (bif Nat.blt b m.length then m.gen b + 1 else m'.gen b, m'.fn b)
theorem bump_len (m m' : Mem) : (bump m m').length = m'.length := by simp [bump]
theorem bump_get (m m' : Mem) (b : Nat) (h : b < m'.length) : (bump m m').getD b (0, none) = (bif Nat.blt b m.length then m.gen b + 1 else m'.gen b, m'.fn b) := by
  simp [bump, List.getD_eq_getElem?_getD, h]
theorem bump_fn (m m' : Mem) : (bump m m').fn = m'.fn := by
  funext b
  by_cases h : b < m'.length
  · unfold Mem.fn; rw [bump_get m m' b h]; rfl
  · rw [fn_out (by rw [bump_len]; omega), fn_out (by omega)]
theorem le_bump {m m' : Mem} (h : m.length ≤ m'.length) : Le m (bump m m') := by
  refine ⟨by rw [bump_len]; exact h, fun b hb => .inr ?_⟩
  have hlt : Nat.blt b m.length = true := by rw [Nat.blt_eq]; exact hb
  unfold Mem.gen
  rw [bump_get m m' b (by omega), hlt]
  exact Nat.lt_succ_self _

/-- A small number worked out. -/
def fTab {β : Type} (n : Nat) (k : Nat → T β) : List Nat → T β
  | [] => k n
  | c :: cs => bif Nat.beq n c then k c else fTab n k cs
theorem fTab_eq {β : Type} (n : Nat) (k : Nat → T β) : ∀ l, fTab n k l = k n
  | [] => rfl
  | c :: cs => by
    rw [fTab]
    cases h : Nat.beq n c
    · exact fTab_eq n k cs
    · rw [Nat.eq_of_beq_eq_true h]; rfl
def fNat {β : Type} (n : Nat) (k : Nat → T β) : T β := fTab n k [0, 1, 2, 3, 4, 5, 6, 7, 8, 9, 10, 11, 12, 13, 14, 15, 16, 17, 18, 19, 20, 21, 22, 23, 24, 25, 26, 27, 28, 29, 30, 31, 32, 33, 34, 35, 36, 37, 38, 39, 40, 41, 42, 43, 44, 45, 46, 47, 48, 49, 50, 51, 52, 53, 54, 55, 56, 57, 58, 59, 60, 61, 62, 63]
theorem fNat_eq {β : Type} (n : Nat) (k : Nat → T β) : fNat n k = k n := fTab_eq n k _
def fInt {β : Type} (n : Int) (k : Int → T β) : T β :=
  match n with
  | .ofNat m => fNat m fun m => k (.ofNat m)
  | .negSucc m => k (.negSucc m)
theorem fInt_eq {β : Type} (n : Int) (k : Int → T β) : fInt n k = k n := by
  cases n
  · exact fNat_eq _ _
  · rfl
mutual
/-- A state worked out before it is used: 'f x k' is 'k x'. -/
def fSV {β : Type} : SV → (SV → T β) → T β
  | .lit v, k => match v with
    | .int i n => k (.lit (.int i n))
    | .bool b => k (.lit (.bool b))
    | v => k (.lit v)
  | .kb b, k => match b with
    | true => k (.kb true)
    | false => k (.kb false)
  | .agg cs, k => fSVs cs fun cs => k (.agg cs)
  | .tup cs, k => fSVs cs fun cs => k (.tup cs)
  | .fn f as cs, k => fSVs as fun as => fSVs cs fun cs => k (.fn f as cs)
  | .any, k => k .any
  | .ki i n, k => fInt n fun n => k (.ki i n)
  | .ptr b o, k => fNat b fun b => fNat o fun o => k (.ptr b o)
  | .own z b n, k => fNat b fun b => k (.own z b n)
  | .optr b i o n, k => fNat b fun b => k (.optr b i o n)
  | .row ss n f, k => k (.row ss n f)
  | .rptr ss n f i o, k => k (.rptr ss n f i o)
  | .csl b o n ss, k => fNat b fun b => fNat o fun o => fNat n fun n => k (.csl b o n ss)
  | .mp b, k => fNat b fun b => k (.mp b)
def fSVs {β : Type} : List SV → (List SV → T β) → T β
  | [], k => k []
  | s :: ss, k => fSV s fun s => fSVs ss fun ss => k (s :: ss)
end
mutual
theorem fSV_eq {β : Type} : ∀ (s : SV) (k : SV → T β), fSV s k = k s
  | .lit v, k => by unfold fSV; split <;> rfl
  | .kb b, k => by cases b <;> rfl
  | .agg cs, k => by rw [fSV, fSVs_eq cs]
  | .tup cs, k => by rw [fSV, fSVs_eq cs]
  | .fn f as cs, k => by rw [fSV, fSVs_eq as, fSVs_eq cs]
  | .any, k => rfl
  | .ki i n, k => by rw [fSV, fInt_eq]
  | .ptr b o, k => by rw [fSV, fNat_eq, fNat_eq]
  | .own z b n, k => by rw [fSV, fNat_eq]
  | .optr b i o n, k => by rw [fSV, fNat_eq]
  | .row ss n f, k => rfl
  | .rptr ss n f i o, k => rfl
  | .csl b o n ss, k => by rw [fSV, fNat_eq, fNat_eq, fNat_eq]
  | .mp b, k => by rw [fSV, fNat_eq]
theorem fSVs_eq {β : Type} : ∀ (s : List SV) (k : List SV → T β), fSVs s k = k s
  | [], k => rfl
  | s :: ss, k => by rw [fSVs, fSV_eq s, fSVs_eq ss]
end
def fMem {β : Type} : Mem → (Mem → T β) → T β
  | [], k => k []
  | (g, b) :: m, k =>
    fNat g fun g => match b with
    | none => fMem m fun m => k ((g, none) :: m)
    | some (.cells cs e) => fSVs cs fun cs => fMem m fun m => k ((g, some (.cells cs e)) :: m)
    | some (.row z n ss f e) => fMem m fun m => k ((g, some (.row z n ss f e)) :: m)
    | some (.seq go K i) => fMem m fun m => k ((g, some (.seq go K i)) :: m)
    | some (.nest n ss F none e e2) => fMem m fun m => k ((g, some (.nest n ss F none e e2)) :: m)
    | some (.nest n ss F (some (i, s)) e e2) => fSV s fun s => fMem m fun m => k ((g, some (.nest n ss F (some (i, s)) e e2)) :: m)
    | some (.mp tw s l) => fMem m fun m => k ((g, some (.mp tw s l)) :: m)
theorem fMem_eq {β : Type} : ∀ (m : Mem) (k : Mem → T β), fMem m k = k m
  | [], k => rfl
  | (g, none) :: m, k => by rw [fMem, fNat_eq]; simp only []; rw [fMem_eq m]
  | (g, some (.cells cs e)) :: m, k => by rw [fMem, fNat_eq]; simp only []; rw [fSVs_eq cs, fMem_eq m]
  | (g, some (.row z n ss f e)) :: m, k => by rw [fMem, fNat_eq]; simp only []; rw [fMem_eq m]
  | (g, some (.seq go K i)) :: m, k => by rw [fMem, fNat_eq]; simp only []; rw [fMem_eq m]
  | (g, some (.nest n ss F none e e2)) :: m, k => by rw [fMem, fNat_eq]; simp only []; rw [fMem_eq m]
  | (g, some (.nest n ss F (some (i, s)) e e2)) :: m, k => by rw [fMem, fNat_eq]; simp only []; rw [fSV_eq s, fMem_eq m]
  | (g, some (.mp tw s l)) :: m, k => by rw [fMem, fNat_eq]; simp only []; rw [fMem_eq m]
def fSt {β : Type} (σ : St) (k : St → T β) : T β := fSVs σ.1 fun sl => fMem σ.2 fun m => k (sl, m)
theorem fSt_eq {β : Type} (σ : St) (k : St → T β) : fSt σ k = k σ := by
  unfold fSt; rw [fSVs_eq, fMem_eq]

noncomputable def sx (E : Env) (L : Loops) (n0 : Nat) : Code → St → T (Ex × St)
  | .skip, σ => .ret (.normal, σ)
  | .region _ ops draw, σ =>
    fSt σ fun σ => (srun E ops.toList ops.toList [] σ []).bind fun p => bif !draw || drawOK ops.toList p.2 then .ret (.normal, p.1) else .stuck 100
  | .seq a b, σ => (sx E L n0 a σ).bind fun p => match p.1 with | .normal => sx E L n0 b p.2 | e => .ret (e, p.2)
  | .cond c a b, σ =>
    match ev σ.1 c with
    | .kb true => sx E L n0 a σ
    | .kb false => sx E L n0 b σ
    | .lit (.bool x) => .br x (sx E L n0 a (refine σ.1 c true, σ.2)) (sx E L n0 b (refine σ.1 c false, σ.2))
    | _ => .stuck 101
  | .block id c, σ => (sx E L n0 c σ).bind fun p => match p.1 with | .exit i => bif Nat.beq i id then .ret (.normal, p.2) else .ret (.exit i, p.2) | e => .ret (e, p.2)
  | .loop c, σ =>
    match firstReg c with
    | some k => match List.lookup k L with
      | some (.sum f) => (f n0 σ).bind fun r => bif Nat.ble σ.2.length r.2.2.length then .ret (r.1, (r.2.1, bump σ.2 r.2.2)) else .stuck 106
      | some (.un n) => rounds (sx E L n0 c) n σ
      | _ => .stuck 102
    | none => .stuck 103
  | .rangeFunc g ps a c, σ =>
    match ev σ.1 g with
    | .fn (.func gf) [] lb =>
      match rkey a c with
      | some k => match List.lookup k L with
        | some (.rng gf' sc f) =>
          bif Nat.beq gf gf' && bodyOk E.P gf then
            (optS 107 (viewsS σ.2.fn lb)).bind fun p => bif p.2.isEmpty then (sc p.1).bind fun q => (f n0 q.1 q.2 σ).bind fun r =>
              bif Nat.ble σ.2.length r.2.2.length then .ret (r.1, (r.2.1, bump σ.2 r.2.2)) else .stuck 106
            else .stuck 108
          else .stuck 109
        | some (.rngG gf' sc f) =>
          bif Nat.beq gf gf' && bodyOk E.P gf then
            (optS 110 (givenS σ.2.fn lb)).bind fun p => bif nodupN p.2 then (sc p.1).bind fun q => (f n0 q.1 q.2 (σ.1, msets σ.2 (p.2.map fun b => (b, none)))).bind fun r =>
              bif Nat.ble σ.2.length r.2.2.length then .ret (r.1, (r.2.1, bump σ.2 r.2.2)) else .stuck 112
            else .stuck 113
          else .stuck 114
        | _ => .stuck 121
      | none => .stuck 122
    | _ => .stuck 123
  | .exit id, σ => .ret (.exit id, σ)
  | .ret, σ => .ret (.ret, σ)
  | .scope c, σ => sx E L n0 c σ
  | .label _, σ => .ret (.normal, σ)
  | _, _ => .stuck 104

theorem wpIn_scope_straight {F : Fence} {n : Nat} {P : Program} {Q : Exit → Act → World → Prop} {a : Act} {w : World} {c : Code} (h : c.wpIn F n P (Exit.noGoto Q) a w) : (Code.scope c).wpIn F n P Q a w := by
  intro b k cs hro hb hr
  have s1 : step P (lone (b.atR a (.code (.scope c) :: k)) cs w) = .next (lone (b.atR a (.code c :: .inScope c :: k)) cs w) :=
    step_lone_go (by simp [stepG, stepG.exec, Frame.atR])
  have s2 : ∀ a w, step P (lone (b.atR a (.inScope c :: k)) cs w) = .next (lone (b.atR a k) cs w) := fun a w =>
    step_lone_go (by simp [stepG, stepG.exec, Frame.atR])
  have h0 : (lone (b.atR a (.code (.scope c) :: k)) cs w).fenced P F := fenced_calm hb hr rfl
  obtain ⟨e, a₁, w₁, hq, harr⟩ := h b (.inScope c :: k) cs hro hb hr
  cases e with
  | normal => exact ⟨.normal, a₁, w₁, hq, .head h0 s1 (StepsIn.trans harr (.one (fenced_calm hb hr rfl) (s2 _ _)))⟩
  | exit id => exact ⟨.exit id, a₁, w₁, hq, .of_steps (.one h0 s1) ⟨fun k' hk => harr.1 k' (by simp [exitTo, hk]), fun hn hk => harr.2 hn (by simp [exitTo, hk])⟩⟩
  | goto l => exact hq.elim
  | ret => exact ⟨_, a₁, w₁, hq, .of_steps (.one h0 s1) harr⟩
  | panic ch => exact ⟨_, a₁, w₁, hq, .of_steps (.one h0 s1) harr⟩
  | outgrown => exact ⟨_, a₁, w₁, hq, .of_steps (.one h0 s1) harr⟩
/-- What is claimed of a loop holds. -/
def LoopOK (P : Program) (c : Code) (f : Nat → St → T (Ex × St)) : Prop :=
  ∀ (n0 : Nat) (σ : St) (r : Ex × St), (f n0 σ).Is r → ∀ (A : Anchor) (lv0 : Am) (w0 : World) (a : Act) (w : World), A.n ≤ n0 → SInv A lv0 w0 (· < σ.2.length) σ a w →
    (Code.loop c).wpIn (Fr A.ro) 3 P (fun e a' w' => e = r.1.out ∧ SInv A lv0 w0 (· < r.2.2.length) r.2 a' w') a w

/-- An iterator does what is said of it: whoever the consumer is. -/
def SConOK (P : Program) (gf : FuncId) (sc : SCon) : Prop :=
  ∀ (args : List SV) (q : Nat × (Nat → List Value)), (sc args).Is q → ∀ (lv : Nat → Prop) (W : World) (vals : List Value), (∀ x, lv x → x < W.heap.size) → RepL Bs.none lv W args vals →
    ∀ (K : Cons), ConsOK K → K.P = P → K.n = q.1 → K.el = q.2 → K.B = (fun x => x < W.heap.size) → (∀ x, K.lv x → lv x) → K.C 0 K.lv W →
      Calls P gf (.func (.yield K.l) #[] #[] :: vals).toArray W fun e W' => (∃ v, e = .returned v) ∧ ∃ go i V, SeqAt K go i ∧ (go = true → i = K.n) ∧ K.C i V W' ∧ Turn K.lv W W'

/-- What lies in boxes. -/
def GivRep (lv : Nat → Prop) (W : World) : List (List SV × TypeId) → List Nat → Prop
  | [], [] => True
  | (cs, e) :: as, x :: xs => (∃ us : List Value, W.heap[x]? = some (.cells us.toArray e (0, 0)) ∧ RepL Bs.none lv W cs us) ∧ GivRep lv W as xs
  | _, _ => False
def ptrV (x : Nat) : Value := .pointer (some ⟨x, 0, none⟩)
/-- An iterator that may write boxes that are given to it does what is said of it. -/
def SConGOK (P : Program) (gf : FuncId) (sc : SConG) : Prop :=
  ∀ (args : List (List SV × TypeId)) (q : Nat × (Nat → List Value)), (sc args).Is q → ∀ (lv : Nat → Prop) (W : World) (xs : List Nat), (∀ x, lv x → x < W.heap.size) → xs.Nodup → (∀ x ∈ xs, ¬ lv x) → GivRep (fun y => lv y ∨ y ∈ xs) W args xs →
    ∀ (K : Cons), ConsOK K → K.P = P → K.n = q.1 → K.el = q.2 → (∀ x, K.B x ↔ x < W.heap.size ∧ x ∉ xs) → (∀ x, K.lv x → lv x) → K.C 0 K.lv W →
      Calls P gf (.func (.yield K.l) #[] #[] :: xs.map ptrV).toArray W fun e W' => (∃ v, e = .returned v) ∧ ∃ go i V, SeqAt K go i ∧ (go = true → i = K.n) ∧ K.C i V W' ∧ Turn (fun x => K.lv x ∨ x ∈ xs) W W'
/-- The surroundings with blocks besides that lie as they lie. -/
noncomputable def amO (a : Am) (O : Nat → Prop) (w : World) : Am where
  lv := fun x => a x ∨ O x
  vol := a.vol
  fix := open Classical in fun x => if O x then w.heap[x]? else a.fix x
  B := a.B
theorem amO_none (a : Am) (w : World) : amO a (fun _ => False) w = a := by
  cases a; simp [amO]
theorem amO_fix {a : Am} {O : Nat → Prop} {w : World} {x : Nat} (h : O x) : (amO a O w).fix x = w.heap[x]? := by simp [amO, h]
theorem amO_fixn {a : Am} {O : Nat → Prop} {w : World} {x : Nat} (h : ¬ O x) : (amO a O w).fix x = a.fix x := by simp [amO, h]
/-- Blocks are given away: they lie in the surroundings from now on. -/
theorem MInv.give {a : Am} {w0 w : World} {bs : Bs} {D : Nat → Prop} {mf : Nat → Option Blk} (h : MInv a w0 bs D mf w) (rd : List Nat) (hrd : ∀ b ∈ rd, ∃ k, mf b = some k) {O : Nat → Prop} (hO : ∀ x, O x ↔ ∃ b ∈ rd, bs.owns b x) :
    MInv (amO a O w) w0 bs D (mupd mf (rd.map fun b => (b, none))) w ∧ live (amO a O w) bs (mupd mf (rd.map fun b => (b, none))) = live a bs mf := by
  have hm : ∀ b k, mupd mf (rd.map fun b => (b, none)) b = some k → b ∉ rd ∧ mf b = some k := fun b k hb => by
    rw [mupd_none] at hb
    split at hb
    · cases hb
    · rename_i hn; exact ⟨hn, hb⟩
  have hOa : ∀ x, O x → ¬ a x := fun x hx => by
    obtain ⟨b, hb, hbx⟩ := (hO x).1 hx
    obtain ⟨k, hk⟩ := hrd b hb
    exact h.sepO b k x hk hbx
  have hl : live (amO a O w) bs (mupd mf (rd.map fun b => (b, none))) = live a bs mf := funext fun x => propext (by
    constructor
    · rintro ((hx | hx) | ⟨b, k, g1, g2⟩)
      · exact .inl hx
      · obtain ⟨b, hb, hbx⟩ := (hO x).1 hx
        obtain ⟨k, hk⟩ := hrd b hb
        exact .inr ⟨b, k, hk, hbx⟩
      · exact .inr ⟨b, k, (hm b k g1).2, g2⟩
    · rintro (hx | ⟨b, k, g1, g2⟩)
      · exact .inl (.inl hx)
      · by_cases hb : b ∈ rd
        · exact .inl (.inr ((hO x).2 ⟨b, hb, g2⟩))
        · exact .inr ⟨b, k, by rw [mupd_none, if_neg hb]; exact g1, g2⟩)
  refine ⟨?_, hl⟩
  exact {
    below := h.below
    base := h.base
    amb := fun x hx => hx.elim (h.amb x) fun hx => by obtain ⟨b, _, hbx⟩ := (hO x).1 hx; exact (h.rngO b x hbx).2
    fixed := fun x o hx => by
      by_cases ho : O x
      · rw [amO_fix ho] at hx; exact ⟨.inr ho, hx⟩
      · rw [amO_fixn ho] at hx; exact ⟨.inl (h.fixed x o hx).1, (h.fixed x o hx).2⟩
    sepO := fun b k x hk hb hx => by
      obtain ⟨g1, g2⟩ := hm b k hk
      rcases hx with hx | hx
      · exact h.sepO b k x g2 hb hx
      · obtain ⟨c, hc, hcx⟩ := (hO x).1 hx
        obtain ⟨k', hk'⟩ := hrd c hc
        exact g1 (h.injO b c _ _ x g2 hk' hb hcx ▸ hc)
    one := fun b k hk => h.one b k (hm b k hk).2
    rngO := h.rngO
    injO := fun b b' k k' x h1 h2 => h.injO b b' k k' x (hm _ _ h1).2 (hm _ _ h2).2
    nst := fun b k x hk => h.nst b k x (hm b k hk).2
    blk := fun b k hk => by
      have hb := h.blk b k (hm b k hk).2
      rw [hl]
      cases hq : k.isSeq
      · exact blkRep_other hq hb (fun _ _ h => h) (fun _ _ h => h) (fun _ _ _ => rfl) (Nat.le_refl _) (fun _ _ => rfl) id (fun _ => .rfl)
      · cases k with
        | seq go K i =>
          obtain ⟨c1, c2, c3, c4, V, c5, c6⟩ := hb
          exact ⟨c1, c2, c3, c4, V, c5, fun x hx => ⟨.inl (c6 x hx).1, by rw [amO_fixn fun ho => hOa x ho (c6 x hx).1]; exact (c6 x hx).2⟩⟩
        | _ => cases hq
    domO := fun b hb => ⟨(h.domO b hb).1, (h.domO b hb).2.1, by
      rw [mupd_none]
      split
      · rfl
      · exact (h.domO b hb).2.2⟩ }
/-- Where boxes lie. -/
def Corr (bs : Bs) : List Nat → List Nat → Prop
  | [], [] => True
  | b :: l, x :: xs => (∃ c, bs b = some (x, c)) ∧ Corr bs l xs
  | _, _ => False
theorem Corr.mem {bs : Bs} : ∀ {l xs : List Nat}, Corr bs l xs → (∀ x ∈ xs, ∃ b ∈ l, ∃ c, bs b = some (x, c)) ∧ ∀ b ∈ l, ∃ x ∈ xs, ∃ c, bs b = some (x, c)
  | [], [], _ => ⟨by simp, by simp⟩
  | b :: l, x :: xs, ⟨⟨c, h1⟩, h2⟩ => by
    obtain ⟨g1, g2⟩ := Corr.mem h2
    refine ⟨fun y hy => ?_, fun d hd => ?_⟩
    · rcases List.mem_cons.1 hy with rfl | hy
      · exact ⟨b, by simp, c, h1⟩
      · obtain ⟨d, e1, e2⟩ := g1 y hy; exact ⟨d, by simp [e1], e2⟩
    · rcases List.mem_cons.1 hd with rfl | hd
      · exact ⟨x, by simp, c, h1⟩
      · obtain ⟨y, e1, e2⟩ := g2 d hd; exact ⟨y, by simp [e1], e2⟩
theorem nodupN_cons {a : Nat} {l : List Nat} (h : nodupN (a :: l) = true) : a ∉ l ∧ nodupN l = true := by
  simp only [nodupN, Bool.and_eq_true, Bool.not_eq_true', List.any_eq_false] at h
  exact ⟨fun hm => h.1 a hm (by simp), h.2⟩
theorem Corr.nodup {bs : Bs} {Q : Nat → Prop} (hinj : ∀ b b' x c c', Q b → Q b' → bs b = some (x, c) → bs b' = some (x, c') → b = b') : ∀ {l xs : List Nat}, (∀ b ∈ l, Q b) → Corr bs l xs → nodupN l = true → xs.Nodup
  | [], [], _, _, _ => List.nodup_nil
  | b :: l, x :: xs, hQ, ⟨⟨c, h1⟩, h2⟩, hn => by
    obtain ⟨n1, n2⟩ := nodupN_cons hn
    refine List.nodup_cons.2 ⟨fun hx => ?_, Corr.nodup hinj (fun b hb => hQ b (by simp [hb])) h2 n2⟩
    obtain ⟨d, hd, c', h3⟩ := h2.mem.1 x hx
    exact n1 (hinj _ _ _ _ _ (hQ b (by simp)) (hQ d (by simp [hd])) h1 h3 ▸ hd)
theorem givenS_sound {lv1 : Am} {w0 w : World} {bs : Bs} {D : Nat → Prop} {mf : Nat → Option Blk} (hi : MInv lv1 w0 bs D mf w) : ∀ (lb : List SV) (p : List (List SV × TypeId) × List Nat) (ts : List Value), givenS mf lb = some p → RepL bs (live lv1 bs mf) w lb ts →
    ∃ xs, ts = xs.map ptrV ∧ GivRep (live lv1 bs mf) w p.1 xs ∧ Corr bs p.2 xs ∧ ∀ b ∈ p.2, ∃ cs e, mf b = some (.cells cs e)
  | [], p, ts, h, hr => by
    simp only [givenS, Option.some.injEq] at h
    subst h
    obtain rfl : ts = [] := hr
    exact ⟨[], rfl, trivial, trivial, by simp⟩
  | s :: ss, p, ts, h, ⟨u, us, hu, h1, h2⟩ => by
    subst hu
    unfold givenS at h
    split at h
    · rename_i heq; cases heq
    · rename_i b ss' heq
      obtain ⟨rfl, rfl⟩ := List.cons.inj heq
      split at h
      · rename_i cs e hb
        split at h
        · rename_i cs' q h3 h4
          simp only [Option.some.injEq] at h
          subst h
          obtain ⟨xs, g1, g2, g3, g4⟩ := givenS_sound hi ss q us h4 h2
          obtain ⟨x, c, hbx, rfl⟩ := h1
          obtain ⟨x', c', vs, hbx', ho, hcs⟩ := hi.blk b _ hb
          rw [hbx] at hbx'; cases hbx'
          refine ⟨x :: xs, by rw [g1]; rfl, ⟨⟨vs, ho, ?_⟩, g2⟩, ⟨⟨c, hbx⟩, g3⟩, fun d hd => ?_⟩
          · exact viewsS_sound hi (live lv1 bs mf) (fun x hx => hx) cs cs' [] vs h3 (fun b hb => by cases hb) hcs
          · rcases List.mem_cons.1 hd with rfl | hd
            · exact ⟨cs, e, hb⟩
            · exact g4 d hd
        · cases h
      · cases h
    · cases h
theorem GivRep.ext {lv lv' : Nat → Prop} {w W : World} (hl : ∀ x, x < w.heap.size → lv' x → lv x) (hB : Below w.heap.size w W) : ∀ {as : List (List SV × TypeId)} {xs : List Nat}, (∀ x ∈ xs, x < w.heap.size) → GivRep lv w as xs → GivRep lv' W as xs
  | [], [], _, _ => trivial
  | (cs, e) :: as, x :: xs, hx, ⟨⟨us, h1, h2⟩, h3⟩ => ⟨⟨us, (hB.block x (hx x (by simp))).trans h1, RepL.ext (fun _ _ h => h) hl (fun x hx _ => hB.block x hx) hB.size _ _ h2⟩, GivRep.ext hl hB (fun y hy => hx y (by simp [hy])) h3⟩
  | [], _ :: _, _, h => h.elim
  | _ :: _, [], _, h => h.elim

/-- What is claimed of a loop over a function holds: O: the blocks that the iterator may write. -/
def RangeOK (P : Program) (g : Operand) (ps : Array Tmp) (assign body : Code) (f : Nat → Nat → (Nat → List Value) → St → T (Ex × St)) : Prop :=
  ∀ (n0 n : Nat) (el : Nat → List Value) (σ : St) (r : Ex × St), (f n0 n el σ).Is r → ∀ (A : Anchor) (lv0 lv1 : Am) (bs : Bs) (w0 : World) (a : Act) (w : World) (gf : FuncId) (lb : List Value) (O : Nat → Prop), A.n ≤ n0 →
    a.eval g = .func (.func gf) #[] lb.toArray → bodyOk P gf = true → Grow lv0 lv1 → (∀ x, O x → x < w.heap.size ∧ ¬ lv1.B x ∧ ¬ lv1 x) → (∀ x o, lv1.fix x = some o → lv1 x) → MInv (amO lv1 O w) w0 bs (· < σ.2.length) σ.2.fn w → FInv bs (live (amO lv1 O w) bs σ.2.fn) w σ.1 a →
    Ext A.bs A.lv A.w bs (live (amO lv1 O w) bs σ.2.fn) w → Side A lv0 (live (amO lv1 O w) bs σ.2.fn) w a.defers →
    (∀ (W : World) (K : Cons), Below w.heap.size w W → ConsOK K → K.P = P → K.n = n → K.el = el → (∀ x, K.B x ↔ x < W.heap.size ∧ ¬ O x) → (∀ x, K.lv x → x < W.heap.size ∧ ¬ O x ∧ (x < w.heap.size → live lv1 bs σ.2.fn x)) → K.C 0 K.lv W →
      Calls P gf (.func (.yield K.l) #[] #[] :: lb).toArray W fun e W' => (∃ v, e = .returned v) ∧ ∃ go i V, SeqAt K go i ∧ (go = true → i = K.n) ∧ K.C i V W' ∧ Turn (fun x => K.lv x ∨ O x) W W') →
    (Code.rangeFunc g ps assign body).wpIn (Fr A.ro) 3 P (fun e a' w' => e = r.1.out ∧ SInv A lv0 w0 (· < r.2.2.length) r.2 a' w') a w

structure LoopsOK (P : Program) (L : Loops) (c : Code) : Prop where
  loops : ∀ l ∈ loopsIn c, ∀ k f, firstReg l = some k → List.lookup k L = some (.sum f) → LoopOK P l f
  ranges : ∀ g ps a b, .rangeFunc g ps a b ∈ rangesIn c → ∀ k gf sc f, rkey a b = some k → List.lookup k L = some (.rng gf sc f) → SConOK P gf sc ∧ RangeOK P g ps a b f
  rangesG : ∀ g ps a b, .rangeFunc g ps a b ∈ rangesIn c → ∀ k gf sc f, rkey a b = some k → List.lookup k L = some (.rngG gf sc f) → SConGOK P gf sc ∧ RangeOK P g ps a b f

theorem LoopsOK.sub {P : Program} {L : Loops} {c c' : Code} (h : LoopsOK P L c) (h1 : ∀ l ∈ loopsIn c', l ∈ loopsIn c) (h2 : ∀ l ∈ rangesIn c', l ∈ rangesIn c) : LoopsOK P L c' :=
  ⟨fun l hl => h.loops l (h1 l hl), fun g ps a b hr => h.ranges g ps a b (h2 _ hr), fun g ps a b hr => h.rangesG g ps a b (h2 _ hr)⟩

theorem refine_inv {D : Nat → Prop} {x : Operand} {b : Bool} {a : Act} {w : World} (h : SInv A lv0 w0 D σ a w) (hx : a.eval x = .bool b) : SInv A lv0 w0 D (refine σ.1 x b, σ.2) a w := by
  obtain ⟨bs, lv1, hg, h1, h2, h3⟩ := h
  refine ⟨bs, lv1, hg, h1, ?_, h3⟩
  unfold refine
  split
  · rename_i t
    refine ⟨?_⟩
    by_cases ht : t < a.tmps.size
    · have hset := h2.rep.set t (s := .kb b) (v := a.tmps[t]) (by
        have : a.eval (.tmp t) = a.tmps[t] := by simp [Act.eval, ht]
        rw [this] at hx
        exact hx)
      have : a.tmps.toList.set t a.tmps[t] = a.tmps.toList := by
        apply List.ext_getElem?
        intro j
        rw [List.getElem?_set]
        by_cases hj : t = j
        · subst hj; simp [ht]
        · simp [hj]
      rw [this] at hset
      exact hset
    · have hlen : a.tmps.size = σ.1.length := by have := h2.rep.length; rwa [Array.length_toList] at this
      have : σ.1.set t (.kb b) = σ.1 := List.set_eq_of_length_le (by rw [← hlen]; exact Nat.le_of_not_lt ht)
      show RepL _ _ _ (σ.1.set t (.kb b)) _
      rw [this]; exact h2.rep
  · exact h2

theorem region_wp (hm : E.P.follows .mixedOrders = true) (hE : EnvOK E) {id : Nat} {opa : Array Oper} {draw : Bool} {σ' : St} {steps : List Step} {a : Act} {w : World}
    (h : (srun E opa.toList opa.toList [] σ []).Is (σ', steps)) (hd : (!draw || drawOK opa.toList steps) = true) (hi : SInv A lv0 w0 (· < σ.2.length) σ a w) :
    (Code.region id opa draw).wpIn (Fr A.ro) 3 E.P (fun e a' w' => e = .normal ∧ SInv A lv0 w0 (· < σ'.2.length) σ' a' w') a w := by
  obtain ⟨new, e1, e2, hlex, rfl⟩ := srun_sound _ _ _ _ _ _ h (fun t b hb => by simp [Dec.get] at hb)
  obtain rfl : steps = new := by simpa using e1
  cases draw
  · refine wpIn_region_list ?_
    rw [← e2]
    have := seq_wp (A := A) (lv0 := lv0) (w0 := w0) (ops := opa.toList) hE (Q := fun e a' w' => e = .normal ∧ SInv A lv0 w0 (· < (steps.foldl (fun σ s => s.app σ) σ).2.length) (steps.foldl (fun σ s => s.app σ) σ) a' w') steps σ a w hlex hi (fun a' w' h => ⟨rfl, h⟩)
    simpa using this
  · simp only [Bool.not_true, Bool.false_or] at hd
    refine wpIn_region_any hm ?_
    have hsat : steps.foldl (fun σ s => s.app σ) σ = sat steps σ steps.length := by unfold sat; rw [List.take_length]
    have hi' : SInv A lv0 w0 (· < σ.2.length) σ a { w with drawn := w.drawn + 1 } := by
      obtain ⟨bs, lv1, hg, h1, h2, h3⟩ := hi
      have hb : Below w.heap.size w { w with drawn := w.drawn + 1 } := (Below.refl _ w).drew
      exact ⟨bs, lv1, hg, h1.grow hb, ⟨(ext_grow bs _ hb).repL h2.rep⟩, h3.1.trans (ext_grow bs _ hb), h3.2.ext (ext_grow bs _ hb)⟩
    have := any_wp (A := A) (lv0 := lv0) (w0 := w0) (Q := fun e a' w' => e = .normal ∧ SInv A lv0 w0 (· < (steps.foldl (fun σ s => s.app σ) σ).2.length) (steps.foldl (fun σ s => s.app σ) σ) a' w')
      hE hlex hd e2 (fun a w h => ⟨rfl, by rw [hsat]; exact h⟩) opa.size (Array.replicate opa.size false) a { w with drawn := w.drawn + 1 } (by simp)
      (fun j o _ hl => by simp [Array.getElem?_replicate] at hl; split at hl <;> simp at hl) (by simp [List.count_replicate]) (by
        rw [foldL_none]
        · obtain ⟨bs, lv1, hg, h1, h2, h3⟩ := hi'
          exact ⟨bs, lv1, hg, h1.monoD fun x hx => .inl hx, h2, h3⟩
        · intro k _; simp [Array.getElem?_replicate]; split <;> rfl)
    simpa using this

theorem sx_sound (hm : E.P.follows .mixedOrders = true) (hE : EnvOK E) {L : Loops} {n0 : Nat} : ∀ (c : Code) (σ : St) (r : Ex × St), (sx E L n0 c σ).Is r → LoopsOK E.P L c → ∀ (A : Anchor) (lv0 : Am) (w0 : World) (a : Act) (w : World), A.n ≤ n0 → SInv A lv0 w0 (· < σ.2.length) σ a w →
    c.wpIn (Fr A.ro) 3 E.P (fun e a' w' => e = r.1.out ∧ SInv A lv0 w0 (· < r.2.2.length) r.2 a' w') a w
  | .skip, σ, r, h, _, A, lv0, w0, a, w, hA, hi => by obtain rfl : _ = r := h; exact wpIn_skip ⟨rfl, hi⟩
  | .region id ops draw, σ, r, h, _, A, lv0, w0, a, w, hA, hi => by
    rw [sx, fSt_eq] at h
    obtain ⟨p, h1, h2⟩ := T.is_bind h
    cases hd : (!draw || drawOK ops.toList p.2)
    · rw [hd] at h2; exact h2.elim
    · rw [hd] at h2
      obtain rfl : _ = r := h2
      exact region_wp hm hE h1 hd hi
  | .seq x y, σ, r, h, hL, A, lv0, w0, a, w, hA, hi => by
    obtain ⟨p, h1, h2⟩ := T.is_bind h
    refine wpIn_seq ?_
    refine wpIn_mono (sx_sound hm hE x σ p h1 (hL.sub (fun l hl => by simp [loopsIn, hl]) (fun l hl => by simp [rangesIn, hl])) A lv0 w0 a w hA hi) ?_
    rintro e a' w' ⟨rfl, h3⟩
    obtain ⟨ex, σ'⟩ := p
    cases ex with
    | normal => exact sx_sound hm hE y σ' r h2 (hL.sub (fun l hl => by simp [loopsIn, hl]) (fun l hl => by simp [rangesIn, hl])) A lv0 w0 a' w' hA h3
    | exit id => obtain rfl : _ = r := h2; exact ⟨rfl, h3⟩
    | ret => obtain rfl : _ = r := h2; exact ⟨rfl, h3⟩
  | .cond c x y, σ, r, h, hL, A, lv0, w0, a, w, hA, hi => by
    have hev : ∃ bs lv, Rep bs lv w (ev σ.1 c) (a.eval c) := by obtain ⟨bs, _, _, _, h2, _⟩ := hi; exact ⟨bs, _, h2.ev c⟩
    obtain ⟨bs, lv, hev⟩ := hev
    unfold sx at h
    split at h
    · rename_i hc
      rw [hc] at hev
      exact wpIn_cond_true hev (sx_sound hm hE x σ r h (hL.sub (fun l hl => by simp [loopsIn, hl]) (fun l hl => by simp [rangesIn, hl])) A lv0 w0 a w hA hi)
    · rename_i hc
      rw [hc] at hev
      exact wpIn_cond_false hev (sx_sound hm hE y σ r h (hL.sub (fun l hl => by simp [loopsIn, hl]) (fun l hl => by simp [rangesIn, hl])) A lv0 w0 a w hA hi)
    · rename_i b hc
      rw [hc] at hev
      rcases h with ⟨rfl, h⟩ | ⟨rfl, h⟩
      · exact wpIn_cond_true hev (sx_sound hm hE x _ r h (hL.sub (fun l hl => by simp [loopsIn, hl]) (fun l hl => by simp [rangesIn, hl])) A lv0 w0 a w hA (refine_inv hi hev))
      · exact wpIn_cond_false hev (sx_sound hm hE y _ r h (hL.sub (fun l hl => by simp [loopsIn, hl]) (fun l hl => by simp [rangesIn, hl])) A lv0 w0 a w hA (refine_inv hi hev))
    · exact h.elim
  | .block id c, σ, r, h, hL, A, lv0, w0, a, w, hA, hi => by
    obtain ⟨p, h1, h2⟩ := T.is_bind h
    refine wpIn_block ?_
    refine wpIn_mono (sx_sound hm hE c σ p h1 (hL.sub (fun l hl => by simpa [loopsIn] using hl) (fun l hl => by simpa [rangesIn] using hl)) A lv0 w0 a w hA hi) ?_
    rintro e a' w' ⟨rfl, h3⟩
    obtain ⟨ex, σ'⟩ := p
    cases ex with
    | normal => obtain rfl : _ = r := h2; exact ⟨rfl, h3⟩
    | ret => obtain rfl : _ = r := h2; exact ⟨rfl, h3⟩
    | exit i =>
      simp only [Ex.out, Exit.inBlock]
      simp only [] at h2
      cases hb : Nat.beq i id
      · rw [hb] at h2
        obtain rfl : _ = r := h2
        rw [if_neg (fun e => by subst e; simp at hb)]
        exact ⟨rfl, h3⟩
      · rw [hb] at h2
        obtain rfl : _ = r := h2
        rw [if_pos (Nat.eq_of_beq_eq_true hb)]
        exact ⟨rfl, h3⟩
  | .loop c, σ, r, h, hL, A, lv0, w0, a, w, hA, hi => by
    unfold sx at h
    split at h
    · rename_i k hk
      split at h
      · rename_i f hf
        obtain ⟨r0, h1, h2⟩ := T.is_bind h
        cases hb : Nat.ble σ.2.length r0.2.2.length
        · rw [hb] at h2; exact h2.elim
        rw [hb] at h2
        obtain rfl : _ = r := h2
        refine wpIn_mono (hL.loops c (by simp [loopsIn]) k f hk hf n0 σ r0 h1 A lv0 w0 a w hA hi) ?_
        rintro e a' w' ⟨rfl, h3⟩
        refine ⟨rfl, ?_⟩
        show SInv A lv0 w0 (· < (bump σ.2 r0.2.2).length) (r0.2.1, bump σ.2 r0.2.2) a' w'
        unfold SInv at h3 ⊢
        simp only [bump_fn, bump_len]
        exact h3
      · rename_i n hn
        have key : ∀ (n : Nat) (σ : St), (rounds (sx E L n0 c) n σ).Is r → ∀ (a : Act) (w : World), SInv A lv0 w0 (· < σ.2.length) σ a w →
            Code.roundsIn (Fr A.ro) 3 E.P c (fun e a' w' => e = r.1.out ∧ SInv A lv0 w0 (· < r.2.2.length) r.2 a' w') n a w := by
          intro n
          induction n with
          | zero => intro σ h; exact h.elim
          | succ n ih =>
            intro σ h a w hi
            rw [rounds] at h
            obtain ⟨p, h1, h2⟩ := T.is_bind h
            have hb := sx_sound hm hE c σ p h1 (hL.sub (fun l hl => by simp [loopsIn, hl]) (fun l hl => by simp [rangesIn, hl])) A lv0 w0 a w hA hi
            obtain ⟨ex, σ'⟩ := p
            refine wpIn_mono hb ?_
            rintro e a' w' ⟨rfl, h3⟩
            cases ex with
            | normal => exact ih σ' h2 a' w' h3
            | exit id => obtain rfl : _ = r := h2; exact ⟨rfl, h3⟩
            | ret => obtain rfl : _ = r := h2; exact ⟨rfl, h3⟩
        exact wpIn_loop_rounds n (key n σ h a w hi)
      · exact h.elim
    · exact h.elim
  | .exit id, σ, r, h, _, A, lv0, w0, a, w, hA, hi => by obtain rfl : _ = r := h; exact wpIn_exit ⟨rfl, hi⟩
  | .ret, σ, r, h, _, A, lv0, w0, a, w, hA, hi => by obtain rfl : _ = r := h; exact wpIn_ret ⟨rfl, hi⟩
  | .scope c, σ, r, h, hL, A, lv0, w0, a, w, hA, hi => by
    refine wpIn_scope_straight (wpIn_mono (sx_sound hm hE c σ r h (hL.sub (fun l hl => by simpa [loopsIn] using hl) (fun l hl => by simpa [rangesIn] using hl)) A lv0 w0 a w hA hi) ?_)
    rintro e a' w' ⟨rfl, h3⟩
    obtain ⟨ex, σ'⟩ := r
    cases ex <;> exact ⟨rfl, h3⟩
  | .label _, σ, r, h, _, A, lv0, w0, a, w, hA, hi => by obtain rfl : _ = r := h; exact wpIn_label ⟨rfl, hi⟩
  | .goto _, σ, r, h, _, _, _, _, _, _, _, _ => by exact h.elim
  | .refuse _, σ, r, h, _, _, _, _, _, _, _, _ => by exact h.elim
  | .rangeFunc g ps x y, σ, r, h, hL, A, lv0, w0, a, w, hA, hi => by
    unfold sx at h
    split at h
    rotate_left
    · exact h.elim
    rename_i gf lb hev
    split at h
    rotate_left
    · exact h.elim
    rename_i k hk
    split at h
    rotate_right
    · exact h.elim
    · rename_i gf' sc f hf
      cases hb : (Nat.beq gf gf' && bodyOk E.P gf)
      · rw [hb] at h; exact h.elim
      rw [hb] at h
      simp only [Bool.and_eq_true] at hb
      obtain rfl := Nat.eq_of_beq_eq_true hb.1
      obtain ⟨p, h1, h⟩ := T.is_bind h
      cases hpe : p.2.isEmpty
      · rw [hpe] at h; exact h.elim
      rw [hpe] at h
      obtain ⟨q, h2, h⟩ := T.is_bind h
      obtain ⟨r0, h3, h⟩ := T.is_bind h
      cases hle : Nat.ble σ.2.length r0.2.2.length
      · rw [hle] at h; exact h.elim
      rw [hle] at h
      obtain rfl : _ = r := h
      obtain ⟨hS, hR⟩ := hL.ranges g ps x y (by simp [rangesIn]) k gf sc f hk hf
      obtain ⟨bs, lv1, hg, g1, g2, g3, g4⟩ := hi
      have hfv := g2.ev g
      rw [hev] at hfv
      obtain ⟨us, ts, hfe, hus, hts⟩ := hfv
      obtain rfl := repL_nil hus
      have hvs := viewsS_sound g1 (live lv1 bs σ.2.fn) (fun x hx => hx) _ p.1 p.2 _ (optS_is h1) (fun b hb => by rw [List.isEmpty_iff.1 hpe] at hb; cases hb) hts
      refine wpIn_mono (hR n0 q.1 q.2 σ r0 h3 A lv0 lv1 bs w0 a w gf ts (fun _ => False) hA hfe hb.2 hg (fun x hx => hx.elim) (fun x o hx => (g1.fixed x o hx).1) (by rw [amO_none]; exact g1) (by rw [amO_none]; exact g2) (by rw [amO_none]; exact g3) (by rw [amO_none]; exact g4) ?_) ?_
      · intro W K hB c1 c2 c3 c4 c5 c6 c7
        have hvs' : RepL Bs.none K.lv W p.1 ts := RepL.ext (fun _ _ h => h) (fun x hx hl => (c6 x hl).2.2 hx) (fun x hx _ => hB.block x hx) hB.size _ _ hvs
        have c5' : K.B = fun x => x < W.heap.size := funext fun x => propext ((c5 x).trans ⟨fun h => h.1, fun h => ⟨h, id⟩⟩)
        refine (hS p.1 q h2 K.lv W ts (fun x hx => (c6 x hx).1) hvs' K c1 c2 c3 c4 c5' (fun x hx => hx) c7).mono ?_
        rintro e w' ⟨hv, go, i, V, e1, e2, e3, e4⟩
        exact ⟨hv, go, i, V, e1, e2, e3, e4.mono fun x _ hx => .inl hx⟩
      · rintro e a' w' ⟨rfl, h3⟩
        refine ⟨rfl, ?_⟩
        show SInv A lv0 w0 (· < (bump σ.2 r0.2.2).length) (r0.2.1, bump σ.2 r0.2.2) a' w'
        unfold SInv at h3 ⊢
        simp only [bump_fn, bump_len]
        exact h3
    · rename_i gf' sc f hf
      cases hb : (Nat.beq gf gf' && bodyOk E.P gf)
      · rw [hb] at h; exact h.elim
      rw [hb] at h
      simp only [Bool.and_eq_true] at hb
      obtain rfl := Nat.eq_of_beq_eq_true hb.1
      obtain ⟨p, h1, h⟩ := T.is_bind h
      cases hnd : nodupN p.2
      · rw [hnd] at h; exact h.elim
      rw [hnd] at h
      obtain ⟨q, h2, h⟩ := T.is_bind h
      obtain ⟨r0, h3, h⟩ := T.is_bind h
      cases hle : Nat.ble σ.2.length r0.2.2.length
      · rw [hle] at h; exact h.elim
      rw [hle] at h
      obtain rfl : _ = r := h
      obtain ⟨hS, hR⟩ := hL.rangesG g ps x y (by simp [rangesIn]) k gf sc f hk hf
      obtain ⟨bs, lv1, hg, g1, g2, g3, g4⟩ := hi
      have hfv := g2.ev g
      rw [hev] at hfv
      obtain ⟨us, ts, hfe, hus, hts⟩ := hfv
      obtain rfl := repL_nil hus
      obtain ⟨xs, v1, v2, v3, v4⟩ := givenS_sound g1 lb p ts (optS_is h1) hts
      have howns : ∀ b ∈ p.2, ∀ x, bs.owns b x → ∃ c, bs b = some (x, c) := fun b hb x hx => by
        obtain ⟨cs, e, hk⟩ := v4 b hb
        rcases hx with hx | hx
        · exact hx
        · cases g1.nst b _ x hk hx
      obtain ⟨O, hOd⟩ : ∃ O : Nat → Prop, O = fun x => x ∈ xs := ⟨_, rfl⟩
      have hO : ∀ x, O x ↔ ∃ b ∈ p.2, bs.owns b x := fun x => by
        rw [hOd]
        constructor
        · intro hx
          obtain ⟨b, hb, c, hc⟩ := v3.mem.1 x hx
          exact ⟨b, hb, .inl ⟨c, hc⟩⟩
        · rintro ⟨b, hb, hx⟩
          obtain ⟨c, hc⟩ := howns b hb x hx
          obtain ⟨y, hy, c', hc'⟩ := v3.mem.2 b hb
          rw [hc] at hc'; cases hc'
          exact hy
      obtain ⟨d1, d2⟩ := g1.give p.2 (fun b hb => by obtain ⟨cs, e, hk⟩ := v4 b hb; exact ⟨_, hk⟩) hO
      have hxs : ∀ x ∈ xs, x < w.heap.size := fun x hx => by
        obtain ⟨b, hb, hbx⟩ := (hO x).1 (by rw [hOd]; exact hx)
        exact (g1.rngO b x hbx).2
      have hnx : xs.Nodup := Corr.nodup (Q := fun b => ∃ k, σ.2.fn b = some k) (fun b b' x c c' ⟨k1, e1⟩ ⟨k2, e2⟩ e3 e4 => g1.injO b b' k1 k2 x e1 e2 (.inl ⟨c, e3⟩) (.inl ⟨c', e4⟩)) (fun b hb => by obtain ⟨cs, e, hk⟩ := v4 b hb; exact ⟨_, hk⟩) v3 hnd
      have hOx : ∀ x, O x → x < w.heap.size ∧ ¬ lv1.B x ∧ ¬ lv1 x := fun x hx => by
        obtain ⟨b, hb, hbx⟩ := (hO x).1 hx
        obtain ⟨cs, e, hk⟩ := v4 b hb
        obtain ⟨k1, k2⟩ := g1.rngO b x hbx
        exact ⟨k2, k1, g1.sepO b _ x hk hbx⟩
      have hlen : ∀ x, x < σ.2.length → x < (msets σ.2 (p.2.map fun b => (b, none))).length := fun x hx => Nat.lt_of_lt_of_le hx (le_msets _ _).1
      have d1' : MInv (amO lv1 O w) w0 bs (· < (msets σ.2 (p.2.map fun b => (b, none))).length) (msets σ.2 (p.2.map fun b => (b, none))).fn w := by
        rw [msets_fn]; exact d1.monoD hlen
      have d2' : live (amO lv1 O w) bs (msets σ.2 (p.2.map fun b => (b, none))).fn = live lv1 bs σ.2.fn := by rw [msets_fn]; exact d2
      refine wpIn_mono (hR n0 q.1 q.2 (σ.1, msets σ.2 (p.2.map fun b => (b, none))) r0 h3 A lv0 lv1 bs w0 a w gf ts O hA hfe hb.2 hg hOx (fun x o hx => (g1.fixed x o hx).1) d1' (by
          show FInv bs (live (amO lv1 O w) bs (msets σ.2 (p.2.map fun b => (b, none))).fn) w σ.1 a
          rw [d2']; exact g2) (by
          show Ext A.bs A.lv A.w bs (live (amO lv1 O w) bs (msets σ.2 (p.2.map fun b => (b, none))).fn) w
          rw [d2']; exact g3) (by
          show Side A lv0 (live (amO lv1 O w) bs (msets σ.2 (p.2.map fun b => (b, none))).fn) w a.defers
          rw [d2']; exact g4) ?_) ?_
      · intro W K hB c1 c2 c3 c4 c5 c6 c7
        have hlive : ∀ x, x < w.heap.size → (K.lv x ∨ x ∈ xs) → live lv1 bs σ.2.fn x := fun x hx h => by
          rcases h with h | h
          · have := (c6 x h).2.2 hx
            rw [← d2']
            rcases this with h | h
            · exact .inl (.inl h)
            · exact .inr h
          · obtain ⟨b, hb, hbx⟩ := (hO x).1 (by rw [hOd]; exact h)
            obtain ⟨cs, e, hk⟩ := v4 b hb
            exact .inr ⟨b, _, hk, hbx⟩
        have hB' : ∀ x, K.B x ↔ x < W.heap.size ∧ x ∉ xs := fun x => by rw [c5, hOd]
        rw [v1]
        refine (hS p.1 q h2 K.lv W xs (fun x hx => (c6 x hx).1) hnx (fun x hx hk => (c6 x hk).2.1 (by rw [hOd]; exact hx)) (GivRep.ext hlive hB hxs v2) K c1 c2 c3 c4 hB' (fun x hx => hx) c7).mono ?_
        rintro e w' ⟨hv, go, i, V, e1, e2, e3, e4⟩
        exact ⟨hv, go, i, V, e1, e2, e3, e4.mono fun x _ hx => hx.imp id (fun h => by rw [hOd]; exact h)⟩
      · rintro e a' w' ⟨rfl, h3⟩
        refine ⟨rfl, ?_⟩
        show SInv A lv0 w0 (· < (bump σ.2 r0.2.2).length) (r0.2.1, bump σ.2 r0.2.2) a' w'
        unfold SInv at h3 ⊢
        simp only [bump_fn, bump_len]
        exact h3

theorem le_steps : ∀ (l : List Step) (σ : St), Le σ.2 (l.foldl (fun σ s => s.app σ) σ).2
  | [], σ => .refl _
  | s :: l, σ => (le_msets s.out.wr σ.2).trans (le_steps l (s.app σ))
theorem srun_le {E : Env} {ops : List Oper} {σ : St} {p : St × List Step} (h : (srun E ops ops [] σ []).Is p) : Le σ.2 p.1.2 := by
  obtain ⟨σ', steps⟩ := p
  obtain ⟨new, _, _, _, rfl⟩ := srun_sound _ _ _ _ _ _ h (fun t b hb => by simp [Dec.get] at hb)
  exact le_steps new σ

theorem sx_le {E : Env} (hE : ∀ f args m m' r, (E.inl f args m).Is (r, m') → Le m m') {L : Loops} {n0 : Nat} : ∀ (c : Code) (σ : St) (r : Ex × St), (sx E L n0 c σ).Is r → Le σ.2 r.2.2
  | .skip, σ, r, h => by obtain rfl : _ = r := h; exact .refl _
  | .region id ops draw, σ, r, h => by
    rw [sx, fSt_eq] at h
    obtain ⟨p, h1, h2⟩ := T.is_bind h
    cases hd : (!draw || drawOK ops.toList p.2)
    · rw [hd] at h2; exact h2.elim
    · rw [hd] at h2
      obtain rfl : _ = r := h2
      exact srun_le h1
  | .seq x y, σ, r, h => by
    obtain ⟨p, h1, h2⟩ := T.is_bind h
    have g := sx_le hE x σ p h1
    obtain ⟨ex, σ'⟩ := p
    cases ex with
    | normal => exact g.trans (sx_le hE y σ' r h2)
    | exit id => obtain rfl : _ = r := h2; exact g
    | ret => obtain rfl : _ = r := h2; exact g
  | .cond c x y, σ, r, h => by
    unfold sx at h
    split at h
    · exact sx_le hE x σ r h
    · exact sx_le hE y σ r h
    · rcases h with ⟨_, h⟩ | ⟨_, h⟩
      · have g := sx_le hE x _ r h
        exact g
      · have g := sx_le hE y _ r h
        exact g
    · exact h.elim
  | .block id c, σ, r, h => by
    obtain ⟨p, h1, h2⟩ := T.is_bind h
    have g := sx_le hE c σ p h1
    obtain ⟨ex, σ'⟩ := p
    cases ex with
    | normal => obtain rfl : _ = r := h2; exact g
    | ret => obtain rfl : _ = r := h2; exact g
    | exit i =>
      simp only [] at h2
      cases hb : Nat.beq i id
      · rw [hb] at h2; obtain rfl : _ = r := h2; exact g
      · rw [hb] at h2; obtain rfl : _ = r := h2; exact g
  | .loop c, σ, r, h => by
    unfold sx at h
    split at h
    · split at h
      · obtain ⟨r0, h1, h2⟩ := T.is_bind h
        cases hb : Nat.ble σ.2.length r0.2.2.length
        · rw [hb] at h2; exact h2.elim
        rw [hb] at h2
        obtain rfl : _ = r := h2
        exact le_bump (Nat.le_of_ble_eq_true hb)
      · rename_i n hn
        have key : ∀ (n : Nat) (σ : St), (rounds (sx E L n0 c) n σ).Is r → Le σ.2 r.2.2 := by
          intro n
          induction n with
          | zero => intro σ h; exact h.elim
          | succ n ih =>
            intro σ h
            rw [rounds] at h
            obtain ⟨p, h1, h2⟩ := T.is_bind h
            have g := sx_le hE c σ p h1
            obtain ⟨ex, σ'⟩ := p
            cases ex with
            | normal => exact g.trans (ih σ' h2)
            | exit id => obtain rfl : _ = r := h2; exact g
            | ret => obtain rfl : _ = r := h2; exact g
        exact key n σ h
      · exact h.elim
    · exact h.elim
  | .exit id, σ, r, h => by obtain rfl : _ = r := h; exact .refl _
  | .ret, σ, r, h => by obtain rfl : _ = r := h; exact .refl _
  | .scope c, σ, r, h => sx_le hE c σ r h
  | .label _, σ, r, h => by obtain rfl : _ = r := h; exact .refl _
  | .goto _, σ, r, h => by exact h.elim
  | .refuse _, σ, r, h => by exact h.elim
  | .rangeFunc g ps x y, σ, r, h => by
    unfold sx at h
    split at h
    rotate_left
    · exact h.elim
    rename_i gf lb hev
    split at h
    rotate_left
    · exact h.elim
    rename_i k hk
    split at h
    rotate_right
    · exact h.elim
    · rename_i gf' sc f hf
      cases hb : (Nat.beq gf gf' && bodyOk E.P gf)
      · rw [hb] at h; exact h.elim
      rw [hb] at h
      obtain ⟨p, h1, h⟩ := T.is_bind h
      cases hpe : p.2.isEmpty
      · rw [hpe] at h; exact h.elim
      rw [hpe] at h
      obtain ⟨q, h2, h⟩ := T.is_bind h
      obtain ⟨r0, h3, h⟩ := T.is_bind h
      cases hle : Nat.ble σ.2.length r0.2.2.length
      · rw [hle] at h; exact h.elim
      rw [hle] at h
      obtain rfl : _ = r := h
      exact le_bump (Nat.le_of_ble_eq_true hle)
    · rename_i gf' sc f hf
      cases hb : (Nat.beq gf gf' && bodyOk E.P gf)
      · rw [hb] at h; exact h.elim
      rw [hb] at h
      obtain ⟨p, h1, h⟩ := T.is_bind h
      cases hpe : nodupN p.2
      · rw [hpe] at h; exact h.elim
      rw [hpe] at h
      obtain ⟨q, h2, h⟩ := T.is_bind h
      obtain ⟨r0, h3, h⟩ := T.is_bind h
      cases hle : Nat.ble σ.2.length r0.2.2.length
      · rw [hle] at h; exact h.elim
      rw [hle] at h
      obtain rfl : _ = r := h
      exact le_bump (Nat.le_of_ble_eq_true hle)
end
end Go.RX

/- Calls: bodies gone into, and contracts out of bodies. -/
set_option linter.unusedVariables false
set_option linter.unusedSimpArgs false
namespace Go.RX
open Go Go.RowKit

/-- Cells, or a map. -/
def isData : Obj → Bool
  | .cells .. => true
  | .map .. => true
  | _ => false
/-- The world turns where nobody looks, and the surroundings are told anew. -/
theorem MInv.shift {a a' : Am} {w0 w w' : World} {bs : Bs} {D : Nat → Prop} {mf : Nat → Option Blk} {X : Nat → Prop} (h : MInv a w0 bs D mf w) (ht : Turn X w w')
    (hX0 : ∀ x, X x → ¬ a.B x) (hXc : ∀ x, X x → x < w.heap.size → a x ∨ ∃ o, w.heap[x]? = some o ∧ isData o = false) (hXf : ∀ x, X x → a x → a.fix x ≠ none)
    (hl : ∀ x, a x → a' x) (hl' : ∀ x, x < w.heap.size → a' x → a x) (hs : ∀ x, a' x → x < w'.heap.size) (hv : a'.vol = a.vol) (hB : a'.B = a.B)
    (hf : ∀ x o, a'.fix x = some o → a' x ∧ w'.heap[x]? = some o) (hn : ∀ x, a x → a.fix x = none → a'.fix x = none) :
    MInv a' w0 bs D mf w' ∧ ∀ sl vs, RepL bs (live a bs mf) w sl vs → RepL bs (live a' bs mf) w' sl vs := by
  have nocell : ∀ x, X x → x < w.heap.size → ¬ a x → ∀ o u, ¬ w.cell? ⟨x, o, none⟩ = some u := fun x hx hlt hna o u hu => by
    rcases hXc x hx hlt with h1 | ⟨o', h1, h2⟩
    · exact hna h1
    · simp only [World.cell?, h1] at hu
      cases o' <;> simp [isData] at h2 hu
  have hown : ∀ b k x, mf b = some k → k.isSeq = false → bs.owns b x → w'.heap[x]? = w.heap[x]? := fun b k x hk hq hb => by
    refine ht.heap x (h.rngO b x hb).2 fun hx => ?_
    rcases hXc x hx (h.rngO b x hb).2 with h1 | ⟨o', h1, h2⟩
    · exact h.sepO b k x hk hb h1
    · have := h.blk b k hk
      rcases hb with ⟨c, hb⟩ | hb
      · cases k with
        | cells cs e =>
          obtain ⟨x', c', us, g1, g2, _⟩ := this
          rw [hb] at g1; cases g1
          rw [h1] at g2; cases g2; simp [isData] at h2
        | row z n ss f e =>
          rcases this with ⟨_, _, g⟩ | ⟨_, x', cap, us, g1, g2, _⟩
          · rw [hb] at g; cases g
          · rw [hb] at g1; cases g1
            rw [h1] at g2; cases g2; simp [isData] at h2
        | seq go K i => cases hq
        | nest n ss F foc e e2 =>
          obtain ⟨x', cap, us, ys, g1, g2, _⟩ := this
          rw [hb] at g1; cases g1
          rw [h1] at g2; cases g2; simp [isData] at h2
        | mp tw s l =>
          obtain ⟨x', c', es, clock, g1, g2, _⟩ := this
          rw [hb] at g1; cases g1
          rw [h1] at g2; cases g2; simp [isData] at h2
      · have hq2 := h.nst b k x hk hb
        cases k with
        | cells cs e => cases hq2
        | row z n ss f e => cases hq2
        | seq go K i => cases hq
        | mp tw s l => cases hq2
        | nest n ss F foc e e2 =>
          obtain ⟨x', cap, us, ys, _, _, _, _, _, g6, _, g8, _⟩ := this
          obtain ⟨i, hi1, hi2, hi3, rfl⟩ := (g8 x).1 hb
          rcases g6 i hi1 hi2 with ⟨g, _⟩ | ⟨_, _, _, _, vs, g, _⟩
          · rw [hi3] at g; cases g
          · rw [h1] at g; cases g; simp [isData] at h2
  have hlv : ∀ x, x < w.heap.size → live a' bs mf x → live a bs mf x := fun x hx hl => hl.imp (hl' x hx) id
  have hcc : ∀ x, x < w.heap.size → ¬ live a bs mf x → ∀ o u, w.cell? ⟨x, o, none⟩ = some u → w'.cell? ⟨x, o, none⟩ = some u := fun x hx hl o u hu => by
    by_cases hX : X x
    · exact absurd hu (nocell x hX hx (fun h => hl (.inl h)) o u)
    · exact (cell?_of_heap (ht.heap x hx hX) o).trans hu
  refine ⟨?_, fun sl vs hr => RepL.extC (fun _ _ h => h) hlv hcc ht.size sl vs hr⟩
  exact {
    below := by rw [hv]; exact h.below.trans ht (fun x hx hX => (h.base.2 x hx).elim (fun hB => absurd hB (hX0 x hX)) id)
    base := by rw [hB, hv]; exact h.base
    amb := hs
    fixed := hf
    sepO := fun b k x hk hb hx => h.sepO b k x hk hb (hl' x (h.rngO b x hb).2 hx)
    one := h.one
    rngO := fun b x hb => ⟨by rw [hB]; exact (h.rngO b x hb).1, Nat.lt_of_lt_of_le (h.rngO b x hb).2 ht.size⟩
    injO := h.injO
    nst := h.nst
    blk := fun b k hk => by
      have := h.blk b k hk
      cases k with
      | cells cs e =>
        obtain ⟨x, c, us, g1, g2, g3⟩ := this
        exact ⟨x, c, us, g1, (hown b _ x hk rfl (.inl ⟨c, g1⟩)).trans g2, RepL.extC (fun _ _ h => h) hlv hcc ht.size _ _ g3⟩
      | row z n ss f e =>
        rcases this with g | ⟨g0, x, cap, us, g1, g2, g3, g4, g5⟩
        · exact .inl g
        · exact .inr ⟨g0, x, cap, us, g1, (hown b _ _ hk rfl (.inl ⟨_, g1⟩)).trans g2, g3, g4, fun i hi => RepC.extC hlv hcc ht.size _ _ _ _ _ (fun _ _ _ h => h) (g5 i hi)⟩
      | nest n ss F foc e e2 =>
        obtain ⟨x, cap, us, ys, g⟩ := this
        exact ⟨x, cap, us, ys, g.ext (fun _ _ h => h) hlv hcc ht.size (fun x hx => hown b _ x hk rfl hx) (fun _ => .rfl)⟩
      | mp tw s l =>
        obtain ⟨x, c, es, clock, g1, g2, g3⟩ := this
        exact ⟨x, c, es, clock, g1, (hown b _ x hk rfl (.inl ⟨c, g1⟩)).trans g2, EntRep.extC hlv hcc ht.size _ _ g3⟩
      | seq go K i =>
        obtain ⟨c1, c2, c3, c4, V, c5, c6⟩ := this
        refine ⟨c1, c2.trans hB.symm, fun x hx => by rw [hv]; exact c3 x hx, c4, V, c1.stab i V w w' c5 (ht.mono fun x hx hX => ?_), fun x hx => ⟨hl x (c6 x hx).1, hn x (c6 x hx).1 (c6 x hx).2⟩⟩
        rintro (hV | hlt)
        · exact hXf x hX (c6 x hV).1 (c6 x hV).2
        · rw [c2] at hlt; exact hX0 x hX hlt
    domO := h.domO }

def resS (P : Program) (σ : St) : List ResultVar → Option (List SV)
  | [] => some []
  | .tmp t :: rest => (resS P σ rest).map (σ.1.getD t (.lit undef) :: ·)
  | .cell a t :: rest =>
    match σ.1.getD a (.lit undef) with
    | .ptr b off =>
      match σ.2.fn b with
      | some (.cells cs _) =>
        match partO P t cs off, resS P σ rest with
        | some s, some ss => some (s :: ss)
        | _, _ => none
      | _ => none
    | _ => none

def resV : List SV → SV
  | [x] => x
  | xs => .tup xs

/-- What is claimed of a function as a whole: one that writes into what it is handed. -/
def callOf : Loops → Option (List SV → Mem → T (SV × Mem))
  | [(_, .call X)] => some X
  | _ => none
/-- A call, by going into bodies at most n deep. -/
noncomputable def scall (P : Program) (con : FuncId → Option Con) (LL : FuncId → Loops) : Nat → FuncId → List SV → Mem → T (SV × Mem)
  | 0, _, _, _ => .stuck 110
  | n + 1, f, args, m =>
    match callOf (LL f) with
    | some X => X args m
    | none =>
      match P.funcs[f]? with
      | some fn =>
        match fn.body with
        | some c => (sx ⟨P, con, scall P con LL n⟩ (LL f) m.length c (args ++ List.replicate (fn.ntmps - args.length) (.lit undef), m)).bind fun p =>
          match p.1 with
          | .exit _ => .stuck 111
          | _ => (optS 112 (resS P p.2 fn.results.toList)).bind fun vs => .ret (resV vs, p.2.2)
        | none => .stuck 113
      | none => .stuck 114

/-- A contract out of a body. -/
noncomputable def conB (P : Program) (con : FuncId → Option Con) (LL : FuncId → Loops) (n : Nat) (f : FuncId) : Con := fun args =>
  (scall P con LL n f args []).bind fun p => (optS 115 (viewS p.2.fn p.1)).bind fun q => .ret q.1

structure AllOK (P : Program) (con : FuncId → Option Con) (LL : FuncId → Loops) : Prop where
  mixed : P.follows .mixedOrders = true
  con : ∀ f c, con f = some c → ConOK P f c
  loops : ∀ f fn c, P.funcs[f]? = some fn → fn.body = some c → LoopsOK P (LL f) c
  calls : ∀ f X, callOf (LL f) = some X → InlOK P f X

section
variable {P : Program} {con : FuncId → Option Con} {LL : FuncId → Loops}

theorem resS_sound {bs : Bs} {lv0 : Am} {w0 w : World} {D : Nat → Prop} {σ : St} {a : Act} (hi : MInv lv0 w0 bs D σ.2.fn w) (hf : FInv bs (live lv0 bs σ.2.fn) w σ.1 a) :
    ∀ (l : List ResultVar) (ss : List SV), resS P σ l = some ss → ∃ vs : List Value, (l.mapM (fun | .tmp t => pure (a.tmps.getD t undef) | .cell x t => do loadVar t (← asAddr (a.tmps.getD x undef)) : ResultVar → Sem Value)).run P w = .ok vs w ∧ RepL bs (live lv0 bs σ.2.fn) w ss vs
  | [], ss, h => by simp only [resS, Option.some.injEq] at h; subst h; exact ⟨[], by simp, .nil⟩
  | .tmp t :: rest, ss, h => by
    simp only [resS, Option.map_eq_some_iff] at h
    obtain ⟨ss', h1, rfl⟩ := h
    obtain ⟨vs, h2, h3⟩ := resS_sound hi hf rest ss' h1
    refine ⟨a.tmps.getD t undef :: vs, ?_, .cons (hf.ev (.tmp t)) h3⟩
    rw [List.mapM_cons, Sem.run_bind, Sem.run_pure, Result.andThen_ok, Sem.run_bind, h2]; rfl
  | .cell x t :: rest, ss, h => by
    rw [resS] at h
    split at h
    · rename_i b off hx
      split at h
      · rename_i cs e hm
        split at h
        · rename_i s ss' hp hr
          cases h
          obtain ⟨vs, h2, h3⟩ := resS_sound hi hf rest ss' hr
          have hev := hf.ev (.tmp x)
          have hx' : ev σ.1 (.tmp x) = .ptr b off := hx
          rw [hx'] at hev
          obtain ⟨y, c, hb, hv⟩ := hev
          have hv' : a.tmps.getD x undef = .pointer (some ⟨y, off, none⟩) := hv
          obtain ⟨y', c', us, hb', ho, hr'⟩ := hi.blk _ _ hm
          rw [hb] at hb'; cases hb'
          obtain ⟨v, hv1, hv2⟩ := run_loadVar_cells (off := off) ho (by simpa using hr') hp
          refine ⟨v :: vs, ?_, .cons hv2 h3⟩
          have hcell : (do loadVar t (← asAddr (a.tmps.getD x undef)) : Sem Value).run P w = .ok v w := by
            rw [Sem.run_bind, hv']
            exact hv1
          rw [List.mapM_cons, Sem.run_bind]
          show ((do loadVar t (← asAddr (a.tmps.getD x undef)) : Sem Value).run P w).andThen _ = _
          rw [hcell, Result.andThen_ok, Sem.run_bind, h2]; rfl
        · cases h
      · cases h
    · cases h

theorem results_run {bs : Bs} {lv0 : Am} {w0 w : World} {D : Nat → Prop} {σ : St} {a : Act} {fn : Func} {vs : List SV} (hi : MInv lv0 w0 bs D σ.2.fn w) (hf : FInv bs (live lv0 bs σ.2.fn) w σ.1 a)
    (h : resS P σ fn.results.toList = some vs) : ∃ v, (results fn a.tmps).run P w = .ok v w ∧ Rep bs (live lv0 bs σ.2.fn) w (resV vs) v := by
  obtain ⟨us, h1, h2⟩ := resS_sound hi hf _ _ h
  have hrun : (results fn a.tmps).run P w = .ok (if h : us.toArray.size = 1 then us.toArray[0] else .tuple us.toArray) w := by
    unfold results
    rw [Sem.run_bind, Array.mapM_eq_mapM_toList, Sem.run_map]
    have : (fn.results.toList.mapM (fun | .tmp t => pure (a.tmps.getD t undef) | .cell x t => do loadVar t (← asAddr (a.tmps.getD x undef)) : ResultVar → Sem Value)).run P w = .ok us w := h1
    erw [this]
    rfl
  refine ⟨_, hrun, ?_⟩
  cases vs with
  | nil => cases h2; exact ⟨[], rfl, .nil⟩
  | cons s vs =>
    obtain ⟨u, us', rfl, h3, h4⟩ := h2
    cases vs with
    | nil => cases h4; exact h3
    | cons t vs =>
      obtain ⟨u', us'', rfl, h5, h6⟩ := h4
      exact ⟨u :: u' :: us'', by simp, .cons h3 (.cons h5 h6)⟩

theorem scall_le (hC : ∀ f X, callOf (LL f) = some X → InlOK P f X) : ∀ (n : Nat) (f : FuncId) (args : List SV) (m m' : Mem) (r : SV), (scall P con LL n f args m).Is (r, m') → Le m m'
  | 0, f, args, m, m', r, h => h.elim
  | n + 1, f, args, m, m', r, h => by
    unfold scall at h
    split at h
    · rename_i X hX
      exact (hC f X hX).1 _ _ _ _ h
    split at h
    · split at h
      · obtain ⟨⟨ex, σ'⟩, h1, h2⟩ := T.is_bind h
        have g := sx_le (E := ⟨P, con, scall P con LL n⟩) (fun f args m m' r h => scall_le hC n f args m m' r h) _ _ _ h1
        cases ex with
        | exit i => exact h2.elim
        | normal =>
          obtain ⟨vs, h3, h4⟩ := T.is_bind h2
          obtain ⟨rfl, rfl⟩ := Prod.mk.inj (show (_, _) = (_, _) from h4)
          exact g
        | ret =>
          obtain ⟨vs, h3, h4⟩ := T.is_bind h2
          obtain ⟨rfl, rfl⟩ := Prod.mk.inj (show (_, _) = (_, _) from h4)
          exact g
      · exact h.elim
    · exact h.elim

/-- The marks that lie on a frame on its way out are taken up. -/
theorem leave_marks {R : Ending → World → Prop} {fn : Func} {bs : Bs} {lv1 : Am} {w0 wE : World} {B : Nat} {D : Nat → Prop} {σ : St} {a : Act} {vs : List SV} (hres : resS P σ fn.results.toList = some vs) (hB : w0.heap.size ≤ B)
    (h : ∀ v w, MInv lv1 w0 bs D σ.2.fn w → Turn (fun x => B ≤ x) wE w → Rep bs (live lv1 bs σ.2.fn) w (resV vs) v → R (.returned v) w) :
    ∀ (ds : List Deferred) (w : World), Turn (fun x => B ≤ x) wE w → MInv lv1 w0 bs D σ.2.fn w → FInv bs (live lv1 bs σ.2.fn) w σ.1 a →
      (ds.Nodup ∧ ∀ d ∈ ds, ∃ x, d = mark x ∧ B ≤ x ∧ x < w.heap.size ∧ ¬ live lv1 bs σ.2.fn x ∧ w.heap[x]? = some (.deferred (some []))) →
      LeavesInM (Fr none) 3 P fn a.tmps R ds .returning w
  | [], w, ht, hi, hf, _ => by
    obtain ⟨v, h1, h2⟩ := results_run hi hf hres
    exact ⟨v, h1, h v w hi ht h2⟩
  | d :: ds, w, ht, hi, hf, ⟨hnd, hm⟩ => by
    refine ⟨by simp, .inl ?_⟩
    obtain ⟨x, rfl, h1, h2, h3, h4⟩ := hm d (by simp)
    have hother : ∀ y, y ≠ x → (w.putObj x (.deferred none)).heap[y]? = w.heap[y]? := fun y hy => World.putObj_heap_other hy
    have ht' : Turn (fun y => y = x) w (w.putObj x (.deferred none)) := ⟨rfl, rfl, rfl, by simp, fun y hy hn => hother y hn⟩
    obtain ⟨g1, g2⟩ := hi.shift (a' := lv1) ht' (fun y hy hB => by subst hy; have := hi.base.1 _ hB; omega) (fun y hy _ => .inr (by subst hy; exact ⟨_, h4, rfl⟩)) (fun y hy hl => by subst hy; exact absurd (.inl hl) h3)
      (fun _ h => h) (fun _ _ h => h) (fun y hy => by simpa using hi.amb y hy) rfl rfl
      (fun y o hy => ⟨(hi.fixed y o hy).1, (hother y fun e => h3 (.inl (by rw [← e]; exact (hi.fixed y o hy).1))).trans (hi.fixed y o hy).2⟩) (fun _ _ h => h)
    refine ⟨x, _, rfl, run_takeDeferred h4, leave_marks hres hB h ds _ (ht.trans ht' fun y hy e => by subst e; exact h1) g1 ⟨g2 _ _ hf.rep⟩ ⟨(List.nodup_cons.1 hnd).2, fun d' hd' => ?_⟩⟩
    obtain ⟨y, rfl, k1, k2, k3, k4⟩ := hm d' (by simp [hd'])
    have hne : y ≠ x := fun e => (List.nodup_cons.1 hnd).1 (by rw [← e]; exact hd')
    exact ⟨y, rfl, k1, by simpa using k2, k3, (hother y hne).trans k4⟩

theorem scall_ok (hA : AllOK P con LL) : ∀ (n : Nat) (f : FuncId), InlOK P f (scall P con LL n f)
  | 0, f => ⟨fun args m m' r h => h.elim, fun args m m' r h => h.elim⟩
  | n + 1, f => by
    refine ⟨scall_le hA.calls (n + 1) f, ?_⟩
    intro args m m' r h lv0 w0 w bs vals hi hr
    unfold scall at h
    split at h
    · rename_i X hX
      exact (hA.calls f X hX).2 args m m' r h lv0 w0 w bs vals hi hr
    split at h
    · rename_i fn hfn
      split at h
      · rename_i c hc
        obtain ⟨⟨ex, σ'⟩, h1, h2⟩ := T.is_bind h
        have hE : EnvOK ⟨P, con, scall P con LL n⟩ := ⟨hA.con, fun f => scall_ok hA n f⟩
        have hlen := hr.length
        have hS : SInv ⟨bs, live lv0 bs m.fn, w, m.length, fun b hb => (hi.dom b (Nat.not_lt.2 hb)).1, none⟩ lv0 w0 (· < m.length) (args ++ List.replicate (fn.ntmps - args.length) (.lit undef), m)
            { tmps := vals.toArray ++ Array.replicate (fn.ntmps - vals.toArray.size) undef, defers := [] } w := by
          refine ⟨bs, lv0, .refl _, hi, ⟨?_⟩, Ext.refl _ _ _, side_nil⟩
          have e : (vals.toArray ++ Array.replicate (fn.ntmps - vals.toArray.size) undef).toList = vals ++ List.replicate (fn.ntmps - args.length) undef := by simp [hlen]
          rw [e]
          exact hr.append (RepL.replicate_lit _ _)
        have hwp := sx_sound (E := ⟨P, con, scall P con LL n⟩) hA.mixed hE c _ _ h1 (hA.loops f fn c hfn hc) _ lv0 w0 _ w (Nat.le_refl _) hS
        refine (callsIn_fr (ro := none) (n := 3)).1 (callsIn_of_wp_marks hfn hc trivial (wpIn_mono hwp ?_) rfl)
        rintro e a' w' ⟨rfl, bs', lv1, hg, g1, g2, g3, g4⟩
        simp only [] at h2
        have fin : ((optS 112 (resS P σ' fn.results.toList)).bind fun vs => .ret (resV vs, σ'.2)).Is (r, m') →
            LeavesInM (Fr none) 3 P fn a'.tmps (fun e w' => ∃ v bs' lv1, e = .returned v ∧ Grow lv0 lv1 ∧ MInv lv1 w0 bs' (· < m'.length) m'.fn w' ∧ Ext bs (live lv0 bs m.fn) w bs' (live lv1 bs' m'.fn) w' ∧ Rep bs' (live lv1 bs' m'.fn) w' r v) a'.defers .returning w' := by
          intro h2
          obtain ⟨vs, h3, h4⟩ := T.is_bind h2
          obtain ⟨rfl, rfl⟩ := Prod.mk.inj (show (_, _) = (_, _) from h4)
          have hsz : w0.heap.size ≤ w.heap.size := hi.below.size
          refine leave_marks (wE := w') (B := w.heap.size) (bs := bs') (lv1 := lv1) (w0 := w0) (D := (· < σ'.2.length)) (optS_is h3) hsz (fun v w2 k1 k2 k3 => ⟨v, bs', lv1, rfl, hg, k1, ⟨g3.hbs, g3.hlv, fun x hx hl => (k2.heap x (Nat.lt_of_lt_of_le hx g3.size) (by omega)).trans (g3.heap x hx hl), Nat.le_trans g3.size k2.size⟩, k3⟩)
            a'.defers w' (Turn.refl _ _) g1 g2 g4.1
        cases ex with
        | exit i => exact h2.elim
        | normal => exact fin h2
        | ret => exact fin h2
      · exact h.elim
    · exact h.elim

theorem none_owns {b x : Nat} (h : Bs.none.owns b x) : False := by
  rcases h with ⟨c, h⟩ | h
  · cases h
  · exact h
theorem minv_start (lv : Nat → Prop) (w : World) (hlv : ∀ x, lv x → x < w.heap.size) : MInv (Am.of lv w) w Bs.none (· < 0) (Mem.fn []) w where
  below := Turn.refl _ _
  base := ⟨fun _ h => h, fun _ h => .inl h⟩
  amb := hlv
  fixed := fun x o h => by cases h
  sepO := fun b k x _ h => (none_owns h).elim
  one := fun b k h => by simp [Mem.fn] at h
  rngO := fun b x h => (none_owns h).elim
  injO := fun b b' k k' x h => by simp [Mem.fn] at h
  blk := fun b k h => by simp [Mem.fn] at h
  nst := fun b k x h => by simp [Mem.fn] at h
  domO := fun b _ => ⟨rfl, fun _ h => h, by simp [Mem.fn]⟩

theorem conB_ok (hA : AllOK P con LL) (n : Nat) (f : FuncId) : ConOK P f (conB P con LL n f) := by
  intro args r h lv w vals hlv hr
  obtain ⟨⟨sv, m'⟩, h1, h⟩ := T.is_bind h
  obtain ⟨q, h2, h3⟩ := T.is_bind h
  obtain rfl : q.1 = r := h3
  have hlive : ∀ x, live (Am.of lv w) Bs.none (Mem.fn []) x → lv x := fun x h => by
    rcases h with h | ⟨b, k, h1, h2⟩
    · exact h
    · exact (none_owns h2).elim
  have hr' : RepL Bs.none (live (Am.of lv w) Bs.none (Mem.fn [])) w args vals :=
    RepL.ext (fun _ _ h => h) (fun x _ hx => hlive x hx) (fun _ _ _ => rfl) (Nat.le_refl _) _ _ hr
  refine ((scall_ok hA n f).2 args [] m' sv h1 (Am.of lv w) w w Bs.none vals (minv_start lv w hlv) hr').mono ?_
  rintro e w' ⟨v, bs', lv1, rfl, hg, g1, g2, g3⟩
  have hb := g1.below
  rw [hg.vol] at hb
  refine ⟨v, rfl, hb.below, ?_⟩
  refine viewS_sound g1 lv (fun x hx => .inl (hg.lv x hx)) sv q.1 q.2 v (optS_is h2) (fun b hb x hbx hx => ?_) g3
  exact (g1.rngO b x hbx).1 (by rw [hg.B]; exact hlv x hx)

theorem con_of (hA : AllOK P con LL) (n : Nat) (f : FuncId) {c : Con} (h : ∀ args r, (c args).Is r → T.All (· = r) (conB P con LL n f args)) : ConOK P f c := by
  intro args r hc
  obtain ⟨r', h1, h2⟩ := T.is_of_all (h args r hc)
  subst h2
  exact conB_ok hA n f args _ h1
end
end Go.RX

/- What the walks' users want: locks for specifications, tests read, numbers that lie in their range. -/
set_option linter.unusedVariables false
namespace Go.RX
open Go Go.RowKit

theorem lkN {α : Type} (a : α) : Nonempty {b : α // b = a} := ⟨⟨a, rfl⟩⟩
/-- A term behind a lock. -/
noncomputable def lk {α : Type} (a : α) : α := (Classical.choice (lkN a)).1
theorem lk_eq {α : Type} (a : α) : lk a = a := (Classical.choice (lkN a)).2

theorem T.is_ask {α : Type} {p : Prop} {t : T α} {a : α} (h : (T.ask p t).Is a) : p ∧ t.Is a := h
theorem T.is_ret {α : Type} {x a : α} (h : (T.ret x).Is a) : x = a := h

def I64 (a : Int) : Prop := -9223372036854775808 ≤ a ∧ a ≤ 9223372036854775807

namespace U
theorem le_t {a b : Int} : (le a b = true) = (a ≤ b) := by rw [le_eq]; simp
theorem le_f {a b : Int} : (le a b = false) = (b < a) := by rw [le_eq]; simp
theorem lt_t {a b : Int} : (lt a b = true) = (a < b) := by rw [lt_eq]; simp
theorem lt_f {a b : Int} : (lt a b = false) = (b ≤ a) := by rw [lt_eq]; simp
theorem gt_t {a b : Int} : (gt a b = true) = (b < a) := by rw [gt_eq]; simp
theorem gt_f {a b : Int} : (gt a b = false) = (a ≤ b) := by rw [gt_eq]; simp
theorem ge_t {a b : Int} : (ge a b = true) = (b ≤ a) := by rw [ge_eq]; simp
theorem ge_f {a b : Int} : (ge a b = false) = (a < b) := by rw [ge_eq]; simp
theorem eq_t {a b : Int} : (eq a b = true) = (a = b) := by rw [eq_eq]; simp
theorem eq_f {a b : Int} : (eq a b = false) = (a ≠ b) := by rw [eq_eq]; simp
theorem ne_t {a b : Int} : (ne a b = true) = (a ≠ b) := by rw [ne_eq]; simp
theorem ne_f {a b : Int} : (ne a b = false) = (a = b) := by rw [ne_eq]; simp
theorem not_t {a : Bool} : (not a = true) = (a = false) := by rw [not_eq]; simp
theorem not_f {a : Bool} : (not a = false) = (a = true) := by rw [not_eq]; simp
theorem andb_t {a b : Bool} : (andb a b = true) = (a = true ∧ b = true) := by rw [andb_eq]; simp
theorem andb_f {a b : Bool} : (andb a b = false) = (a = true → b = false) := by rw [andb_eq]; cases a <;> simp
theorem add64 {a b : Int} (h : I64 (a + b)) : add .i64 a b = a + b := by rw [add_eq]; exact IntWalk.i64_in _ h
theorem sub64 {a b : Int} (h : I64 (a - b)) : sub .i64 a b = a - b := by rw [sub_eq]; exact IntWalk.i64_in _ h
theorem mul64 {a b : Int} (h : I64 (a * b)) : mul .i64 a b = a * b := by rw [mul_eq]; exact IntWalk.i64_in _ h
theorem quo64 {a b : Int} (h : I64 (a.tdiv b)) : quo .i64 a b = a.tdiv b := by rw [quo_eq]; exact IntWalk.i64_in _ h
end U

/-- Contracts in a list. -/
def conOf (l : List (Nat × Con)) : FuncId → Option Con := fun f => List.lookup f l

theorem conOf_ok {P : Program} : ∀ {l : List (Nat × Con)}, (∀ p ∈ l, ConOK P p.1 p.2) → ∀ f c, conOf l f = some c → ConOK P f c
  | [], _, f, c, h => by simp [conOf] at h
  | (g, d) :: l, hl, f, c, h => by
    unfold conOf at h
    rw [List.lookup_cons] at h
    split at h
    · rename_i hfg
      have : f = g := by simpa using hfg
      subst this
      cases h
      exact hl (f, d) (by simp)
    · exact conOf_ok (fun p hp => hl p (by simp [hp])) f c h

/-- No loops are claimed of any function: where those that are gone into have none. -/
def noLoops : FuncId → Loops := fun _ => []
theorem noLoops_ok (P : Program) : ∀ f fn c, P.funcs[f]? = some fn → fn.body = some c → LoopsOK P (noLoops f) c :=
  fun f fn c _ _ => ⟨fun l _ k g _ h => by simp [noLoops] at h, fun g ps a b _ k gf sc f' _ h => by simp [noLoops] at h, fun g ps a b _ k gf sc f' _ h => by simp [noLoops] at h⟩

theorem allOK {P : Program} (hm : P.follows .mixedOrders = true) {l : List (Nat × Con)} (h : ∀ p ∈ l, ConOK P p.1 p.2) : AllOK P (conOf l) noLoops :=
  ⟨hm, conOf_ok h, noLoops_ok P, fun f X h => by cases h⟩
end Go.RX

/- Knowledge made less: states of the walk that follow from others; the rule of loops. -/
set_option linter.unusedVariables false
set_option linter.unusedSimpArgs false
namespace Go.RX
open Go Go.RowKit

/-- From which old number a block has its new one. -/
abbrev Ren := List (Option Nat)
def Ren.of (ρ : Ren) (b : Nat) : Option Nat := ρ.getD b none

def sameRow {ss ss' : List Sh} (n : Nat) (f : Nat → Els ss) (f' : Nat → Els ss') : Prop := ∃ h : eqShs ss ss' = true, ∀ i, i < n → castEls h f i = f' i

mutual
/-- The second value says no more than the first. -/
def Rl (ρ : Ren) : SV → SV → Prop
  | s, .any => True
  | .lit u, .lit v => u = v
  | .kb b, .lit v => v = .bool b
  | .ki k n, .lit v => v = .int k n
  | .kb b, .kb b' => b = b'
  | .ki k n, .ki k' n' => k = k' ∧ n = n'
  | .ptr b off, .ptr b' off' => ρ.of b' = some b ∧ off = off'
  | .agg cs, .agg cs' => RlL ρ cs cs'
  | .tup cs, .tup cs' => RlL ρ cs cs'
  | .fn f as cs, .fn f' as' cs' => f = f' ∧ RlL ρ as as' ∧ RlL ρ cs cs'
  | .own z b n, .own z' b' n' => z = z' ∧ n = n' ∧ ρ.of b' = some b
  | .lit v, .own z' b' n' => v = .slice none 0 0 ∧ z' = true ∧ n' = 0
  | .optr b i off k, .optr b' i' off' k' => ρ.of b' = some b ∧ i = i' ∧ off = off' ∧ k = k'
  | .row ss n f, .row ss' n' f' => n = n' ∧ sameRow n f f'
  | .rptr ss n f i o, .rptr ss' n' f' i' o' => n = n' ∧ i = i' ∧ o = o' ∧ sameRow n f f'
  | .csl b off n ss, .csl b' off' n' ss' => ρ.of b' = some b ∧ off = off' ∧ n = n'
  | .mp b, .mp b' => ρ.of b' = some b
  | _, _ => False
def RlL (ρ : Ren) : List SV → List SV → Prop
  | [], [] => True
  | s :: ss, s' :: ss' => Rl ρ s s' ∧ RlL ρ ss ss'
  | _, _ => False
end

/-- Slices within that say the same. -/
def sameNest {ss ss' : List Sh} (n : Nat) (F : Nat → Bool × Nat × (Nat → Els ss)) (F' : Nat → Bool × Nat × (Nat → Els ss')) : Prop :=
  eqShs ss ss' = true ∧ ∀ i, i < n → (F i).1 = (F' i).1 ∧ (F i).2.1 = (F' i).2.1 ∧ sameRow (F' i).2.1 (F i).2.2 (F' i).2.2
def RlK (ρ : Ren) (m : Mem) (b' : Nat) : Blk → Prop
  | .nest n ss F foc e e2 =>
    match ρ.of b' with
    | some b => match m.fn b with | some (.nest n1 ss1 F1 none e1 e21) => foc = none ∧ e1 = e ∧ e21 = e2 ∧ n1 = n ∧ sameNest n F1 F | _ => False
    | none => False
  | .cells cs e =>
    match ρ.of b' with
    | some b => match m.fn b with | some (.cells cs1 e1) => e1 = e ∧ RlL ρ cs1 cs | _ => False
    | none => False
  | .row z n ss f e =>
    match ρ.of b' with
    | some b => match m.fn b with | some (.row z1 n1 ss1 f1 e1) => e1 = e ∧ z1 = z ∧ n1 = n ∧ sameRow n f1 f | _ => False
    | none => z = true ∧ n = 0
  | .mp tw s l =>
    match ρ.of b' with
    | some b => match m.fn b with | some (.mp tw1 s1 l1) => tw1 = tw ∧ ∃ e : s1 = s, e ▸ l1 = l | _ => False
    | none => False
  | .seq go K i => b' = 0 ∧ ρ.of b' = some 0 ∧ match m.fn 0 with | some (.seq go1 K1 i1) => go1 = go ∧ K1 = K ∧ i1 = i | _ => False
def RlM (ρ : Ren) (m : Mem) : Nat → Mem → Prop
  | _, [] => True
  | b, (_, none) :: rest => RlM ρ m (b + 1) rest
  | b, (_, some k) :: rest => RlK ρ m b k ∧ RlM ρ m (b + 1) rest
/-- Live blocks have different old numbers. -/
def renOK (ρ : Ren) (m' : Mem) : Bool :=
  Nat.beq ρ.length m'.length &&
  (List.range m'.length).all fun b => (List.range m'.length).all fun c => Nat.beq b c || !(m'.fn b).isSome || !(m'.fn c).isSome || !(decide (ρ.of b = ρ.of c)) || (ρ.of b).isNone

/-- The second state says no more than the first, the surroundings' n0 blocks left as they are. -/
def Weak (n0 : Nat) (σ σ' : St) : Prop :=
  ∀ (A : Anchor) (lv0 : Am) (w0 : World) (a : Act) (w : World), A.n ≤ n0 → SInv A lv0 w0 (· < σ.2.length) σ a w → SInv A lv0 w0 (· < σ'.2.length) σ' a w

theorem Weak.refl (n0 : Nat) (σ : St) : Weak n0 σ σ := fun _ _ _ _ _ _ h => h
theorem Weak.trans {n0 : Nat} {σ σ' σ'' : St} (h : Weak n0 σ σ') (h' : Weak n0 σ' σ'') : Weak n0 σ σ'' := fun A lv0 w0 a w hA hi => h' A lv0 w0 a w hA (h A lv0 w0 a w hA hi)

section
variable {ρ : Ren} {bs bs' : Bs} {lv lv' : Nat → Prop} {w : World}

theorem sameRow_rep {ss ss' : List Sh} {n : Nat} {f : Nat → Els ss} {f' : Nat → Els ss'} (h : sameRow n f f') : ∃ e : ss = ss', ∀ i, i < n → HEq (f i) (f' i) := by
  obtain ⟨h, hf⟩ := h
  have e := eqShs_eq _ _ h
  subst e
  exact ⟨rfl, fun i hi => heq_of_eq (hf i hi)⟩

mutual
theorem Rl.rep (hb : ∀ b b', ρ.of b' = some b → bs' b' = bs b) (hl : ∀ x, lv' x → lv x) : ∀ (s s' : SV) (v : Value), Rl ρ s s' → Rep bs lv w s v → Rep bs' lv' w s' v
  | s, .any, v, _, _ => trivial
  | .lit u, .lit u', v, h, hr => by obtain rfl : u = u' := by simpa [Rl] using h
                                    exact hr
  | .kb b, .lit u', v, h, hr => by obtain rfl : u' = _ := by simpa [Rl] using h
                                   exact hr
  | .ki k n, .lit u', v, h, hr => by obtain rfl : u' = _ := by simpa [Rl] using h
                                     exact hr
  | .kb b, .kb b', v, h, hr => by obtain rfl : b = b' := by simpa [Rl] using h
                                  exact hr
  | .ki k n, .ki k' n', v, h, hr => by obtain ⟨rfl, rfl⟩ : k = k' ∧ n = n' := by simpa [Rl] using h
                                       exact hr
  | .ptr b off, .ptr b' off', v, h, hr => by
    obtain ⟨h1, rfl⟩ : ρ.of b' = some b ∧ off = off' := by simpa [Rl] using h
    obtain ⟨x, c, g1, g2⟩ := hr
    exact ⟨x, c, (hb _ _ h1).trans g1, g2⟩
  | .agg cs, .agg cs', v, h, ⟨us, h1, h2⟩ => ⟨us, h1, RlL.rep hb hl cs cs' us (by simpa [Rl] using h) h2⟩
  | .tup cs, .tup cs', v, h, ⟨us, h1, h2⟩ => ⟨us, h1, RlL.rep hb hl cs cs' us (by simpa [Rl] using h) h2⟩
  | .fn f as cs, .fn f' as' cs', v, h, ⟨us, ts, h1, h2, h3⟩ => by
    obtain ⟨rfl, g1, g2⟩ : f = f' ∧ RlL ρ as as' ∧ RlL ρ cs cs' := by simpa [Rl] using h
    exact ⟨us, ts, h1, RlL.rep hb hl as as' us g1 h2, RlL.rep hb hl cs cs' ts g2 h3⟩
  | .own z b n, .own z' b' n', v, h, hr => by
    obtain ⟨rfl, rfl, h1⟩ : z = z' ∧ n = n' ∧ ρ.of b' = some b := by simpa [Rl] using h
    rcases hr with hr | ⟨h0, x, c, g1, g2⟩
    · exact .inl hr
    · exact .inr ⟨h0, x, c, (hb _ _ h1).trans g1, g2⟩
  | .lit u, .own z' b' n', v, h, hr => by
    obtain ⟨rfl, rfl, rfl⟩ : u = .slice none 0 0 ∧ z' = true ∧ n' = 0 := by simpa [Rl] using h
    exact .inl ⟨rfl, rfl, hr⟩
  | .optr b i off k, .optr b' i' off' k', v, h, hr => by
    obtain ⟨h1, rfl, rfl, rfl⟩ : ρ.of b' = some b ∧ i = i' ∧ off = off' ∧ k = k' := by simpa [Rl] using h
    obtain ⟨x, c, g1, g2⟩ := hr
    exact ⟨x, c, (hb _ _ h1).trans g1, g2⟩
  | .row ss n f, .row ss' n' f', v, h, hr => by
    obtain ⟨rfl, h1⟩ : n = n' ∧ sameRow n f f' := by simpa [Rl] using h
    obtain ⟨rfl, h2⟩ := sameRow_rep h1
    exact (RepE.ext (fun x _ hx => hl x hx) (fun _ _ _ => rfl) (Nat.le_refl _) (.sl ss) (n, f) v hr).row_congr (fun i hi => eq_of_heq (h2 i hi))
  | .rptr ss n f i o, .rptr ss' n' f' i' o', v, h, hr => by
    obtain ⟨rfl, rfl, rfl, h1⟩ : n = n' ∧ i = i' ∧ o = o' ∧ sameRow n f f' := by simpa [Rl] using h
    obtain ⟨rfl, h2⟩ := sameRow_rep h1
    obtain ⟨x, off, g1, g0, g2, g3, g4⟩ := hr
    refine ⟨x, off, g1, g0, g2, fun hx => g3 (hl x hx), fun j hj => ?_⟩
    rw [← eq_of_heq (h2 j hj)]
    exact RepC.ext (fun x _ hx => hl x hx) (fun _ _ _ => rfl) (Nat.le_refl _) ss (f j) _ _ _ (fun _ _ _ h => h) (g4 j hj)
  | .csl b off n ss, .csl b' off' n' ss', v, h, hr => by
    obtain ⟨h1, rfl, rfl⟩ : ρ.of b' = some b ∧ off = off' ∧ n = n' := by simpa [Rl] using h
    obtain ⟨x, c, cap, g1, g2⟩ := hr
    exact ⟨x, c, cap, (hb _ _ h1).trans g1, g2⟩
  | .mp b, .mp b', v, h, hr => by
    have h1 : ρ.of b' = some b := by simpa [Rl] using h
    obtain ⟨x, c, g1, g2⟩ := hr
    exact ⟨x, c, (hb _ _ h1).trans g1, g2⟩
theorem RlL.rep (hb : ∀ b b', ρ.of b' = some b → bs' b' = bs b) (hl : ∀ x, lv' x → lv x) : ∀ (s s' : List SV) (v : List Value), RlL ρ s s' → RepL bs lv w s v → RepL bs' lv' w s' v
  | [], [], v, _, h => h
  | s :: ss, s' :: ss', v, h, ⟨u, us, h1, h2, h3⟩ => by
    obtain ⟨g1, g2⟩ : Rl ρ s s' ∧ RlL ρ ss ss' := by simpa [RlL] using h
    exact ⟨u, us, h1, Rl.rep hb hl s s' u g1 h2, RlL.rep hb hl ss ss' us g2 h3⟩
end
end

theorem RlM.get {ρ : Ren} {m : Mem} : ∀ (m' : Mem) (o b : Nat) (k : Blk), RlM ρ m o m' → (m'.getD b (0, none)).2 = some k → RlK ρ m (o + b) k
  | [], o, b, k, _, h => by simp at h
  | (_, none) :: rest, o, 0, k, _, h => by simp at h
  | (_, none) :: rest, o, b + 1, k, h, hk => by
    have := RlM.get rest (o + 1) b k (by simpa [RlM] using h) (by simpa using hk)
    rwa [show o + 1 + b = o + (b + 1) by omega] at this
  | (_, some k0) :: rest, o, 0, k, h, hk => by
    simp only [List.getD_cons_zero, Option.some.injEq] at hk
    subst hk
    exact (show RlK ρ m o k0 ∧ _ from by simpa [RlM] using h).1
  | (_, some k0) :: rest, o, b + 1, k, h, hk => by
    have := RlM.get rest (o + 1) b k (show RlK ρ m o k0 ∧ RlM ρ m (o + 1) rest from by simpa [RlM] using h).2 (by simpa using hk)
    rwa [show o + 1 + b = o + (b + 1) by omega] at this

theorem weak_of {n0 : Nat} (ρ : Ren) {sl sl' : List SV} {m m' : Mem} (hok : renOK ρ m' = true) (hn0 : n0 ≤ m'.length) (h0 : ∀ b, b < n0 → ρ.of b = some b) (hs : RlL ρ sl sl') (hm : RlM ρ m 0 m') : Weak n0 (sl, m) (sl', m') := by
  intro A lv0 w0 a w hA hi
  obtain ⟨bs, lv1, hg, h1, h2, h3, h4⟩ := hi
  simp only [renOK, Bool.and_eq_true, List.all_eq_true] at hok
  have hlen := Nat.eq_of_beq_eq_true hok.1
  have hρ : ∀ b b', ρ.of b' = some b → b' < m'.length := fun b b' h => by
    rcases Nat.lt_or_ge b' ρ.length with h' | h'
    · omega
    · simp [Ren.of, List.getD_eq_getElem?_getD, List.getElem?_eq_none h'] at h
  have hblk : ∀ b' k, Mem.fn m' b' = some k → RlK ρ m b' k := fun b' k h => by
    have := RlM.get m' 0 b' k hm h
    rwa [Nat.zero_add] at this
  have hlt : ∀ b' k, Mem.fn m' b' = some k → b' < m'.length := fun b' k h => by
    rcases Nat.lt_or_ge b' m'.length with h' | h'
    · exact h'
    · rw [fn_out h'] at h; cases h
  have hsrc : ∀ b' k b, Mem.fn m' b' = some k → ρ.of b' = some b → ∃ k1, Mem.fn m b = some k1 := fun b' k b hk hb => by
    have := hblk b' k hk
    cases k with
    | cells cs e =>
      simp only [RlK, hb] at this
      split at this
      · rename_i cs1 e1 hmb; exact ⟨_, hmb⟩
      · exact this.elim
    | row z n ss f e =>
      simp only [RlK, hb] at this
      split at this
      · rename_i z1 n1 ss1 f1 e1 hmb; exact ⟨_, hmb⟩
      · exact this.elim
    | seq go K i =>
      obtain ⟨rfl, h1, h2⟩ := this
      rw [h1] at hb; cases hb
      split at h2
      · rename_i g1 K1 i1 hmb; exact ⟨_, hmb⟩
      · exact h2.elim
    | nest n ss F foc e e2 =>
      simp only [RlK, hb] at this
      split at this
      · rename_i n1 ss1 F1 e1 e21 hmb; exact ⟨_, hmb⟩
      · exact this.elim
    | mp tw s l =>
      simp only [RlK, hb] at this
      split at this
      · rename_i tw1 s1 l1 hmb; exact ⟨_, hmb⟩
      · exact this.elim
  have hinj : ∀ b1 b2 k1 k2 b, Mem.fn m' b1 = some k1 → Mem.fn m' b2 = some k2 → ρ.of b1 = some b → ρ.of b2 = some b → b1 = b2 := fun b1 b2 k1 k2 b g1 g2 g3 g4 => by
    have := hok.2 b1 (by simp; exact hlt _ _ g1)
    have := this b2 (by simp; exact hlt _ _ g2)
    rw [g1, g2, g3, g4] at this
    simpa using this
  obtain ⟨bs', hbs⟩ : ∃ bs' : Bs, bs' = ⟨fun b' => (ρ.of b').bind bs.at_, fun b' y => ∃ b, ρ.of b' = some b ∧ bs.inn b y⟩ := ⟨_, rfl⟩
  have hb : ∀ b b', ρ.of b' = some b → bs' b' = bs b := fun b b' h => by rw [hbs]; simp [h]
  have hin : ∀ b' y, bs'.inn b' y → ∃ b, ρ.of b' = some b ∧ bs.inn b y := fun b' y h => by rw [hbs] at h; exact h
  have hin2 : ∀ b b' y, ρ.of b' = some b → (bs'.inn b' y ↔ bs.inn b y) := fun b b' y h => by
    rw [hbs]
    exact ⟨fun ⟨c, h1, h2⟩ => by rw [h] at h1; cases h1; exact h2, fun h2 => ⟨b, h, h2⟩⟩
  have hb2 : ∀ b' x, bs' b' = some x → ∃ b, ρ.of b' = some b ∧ bs b = some x := fun b' x h => by
    rw [hbs] at h
    simp only [Option.bind_eq_some_iff] at h
    exact h
  have hb3 : ∀ b' x, bs'.owns b' x → ∃ b, ρ.of b' = some b ∧ bs.owns b x := fun b' x h => by
    rcases h with ⟨c, h⟩ | h
    · obtain ⟨b, g1, g2⟩ := hb2 _ _ h; exact ⟨b, g1, .inl ⟨c, g2⟩⟩
    · obtain ⟨b, g1, g2⟩ := hin _ _ h; exact ⟨b, g1, .inr g2⟩
  have hl : ∀ x, live lv1 bs' (Mem.fn m') x → live lv1 bs (Mem.fn m) x := fun x hx => by
    rcases hx with hx | ⟨b', k, g1, g2⟩
    · exact .inl hx
    · obtain ⟨b, g3, g4⟩ := hb3 _ _ g2
      obtain ⟨k1, g5⟩ := hsrc b' k b g1 g3
      exact .inr ⟨b, k1, g5, g4⟩
  refine ⟨bs', lv1, hg, ?_, ⟨RlL.rep hb hl sl sl' _ hs h2.rep⟩, ?_, h4.weaken hl⟩
  · exact {
      below := h1.below
      base := h1.base
      amb := h1.amb
      fixed := h1.fixed
      sepO := fun b' k x hk h => by obtain ⟨b, g1, g2⟩ := hb3 _ _ h; obtain ⟨k1, g3⟩ := hsrc b' k b hk g1; exact h1.sepO b k1 x g3 g2
      one := fun b' k hk hq => by
        have hr := hblk b' k hk
        cases k with
        | cells cs e => cases hq
        | row z n ss f e => cases hq
        | seq go K i => exact hr.1
        | nest n ss F foc e e2 => cases hq
        | mp tw s l => cases hq
      rngO := fun b' x h => by obtain ⟨b, g1, g2⟩ := hb3 _ _ h; exact h1.rngO b x g2
      injO := fun b1 b2 k1 k2 x g1 g2 g3 g4 => by
        obtain ⟨c1, e1, e2⟩ := hb3 _ _ g3
        obtain ⟨c2, e3, e4⟩ := hb3 _ _ g4
        obtain ⟨_, s1⟩ := hsrc _ _ _ g1 e1
        obtain ⟨_, s2⟩ := hsrc _ _ _ g2 e3
        have := h1.injO _ _ _ _ _ s1 s2 e2 e4
        subst this
        exact hinj _ _ _ _ _ g1 g2 e1 e3
      blk := fun b' k hk => by
        have hr := hblk b' k hk
        cases k with
        | cells cs e =>
          simp only [RlK] at hr
          split at hr
          · rename_i b hρb
            split at hr
            · rename_i cs1 e1 hmb
              obtain ⟨rfl, hr⟩ := hr
              obtain ⟨x, c, us, g1, g2, g3⟩ := h1.blk b _ hmb
              exact ⟨x, c, us, (hb _ _ hρb).trans g1, g2, RlL.rep hb hl _ _ _ hr g3⟩
            · exact hr.elim
          · exact hr.elim
        | row z n ss f e =>
          simp only [RlK] at hr
          split at hr
          · rename_i b hρb
            split at hr
            · rename_i z1 n1 ss1 f1 e1 hmb
              obtain ⟨rfl, rfl, rfl, hr⟩ := hr
              obtain ⟨rfl, hf⟩ := sameRow_rep hr
              rcases h1.blk b _ hmb with ⟨g0, g1, g2⟩ | ⟨g0, x, cap, us, g1, g2, g3, g4, g5⟩
              · exact .inl ⟨g0, g1, (hb _ _ hρb).trans g2⟩
              · refine .inr ⟨g0, x, cap, us, (hb _ _ hρb).trans g1, g2, g3, g4, fun i hi => ?_⟩
                rw [← eq_of_heq (hf i hi)]
                exact RepC.ext (fun x _ hx => hl x hx) (fun _ _ _ => rfl) (Nat.le_refl _) _ _ _ _ _ (fun _ _ _ h => h) (g5 i hi)
            · exact hr.elim
          · rename_i hρb
            exact .inl ⟨hr.1, hr.2, by rw [hbs]; simp [hρb]⟩
        | seq go K i =>
          obtain ⟨rfl, _, h2⟩ := hr
          split at h2
          · rename_i g1 K1 i1 hmb
            obtain ⟨rfl, rfl, rfl⟩ := h2
            exact h1.blk 0 _ hmb
          · exact h2.elim
        | nest n ss F foc e e2 =>
          simp only [RlK] at hr
          split at hr
          · rename_i b hρb
            split at hr
            · rename_i n1 ss1 F1 e1 e21 hmb
              obtain ⟨rfl, rfl, rfl, rfl, he, hr⟩ := hr
              have he := eqShs_eq _ _ he
              subst he
              obtain ⟨x, cap, us, ys, g1, g2, g3, g4, g5, g6, g7, g8, g9⟩ := h1.blk b _ hmb
              refine ⟨x, cap, us, ys, (hb _ _ hρb).trans g1, g2, g3, g4, fun hi => g5 ((hin2 _ _ _ hρb).1 hi), fun i hi ho => ?_, (fun i s hf => by cases hf), fun y => ?_, fun i j hi hj ho ho' h1 h2 h3 => ?_⟩
              · obtain ⟨d1, d2, d3⟩ := hr i hi
                obtain ⟨_, d3⟩ := sameRow_rep d3
                rcases (g6 i hi ho).ext (lv' := live lv1 bs' (Mem.fn m')) (w' := w) (fun x _ hx => hl x hx) (fun _ _ _ _ _ h => h) (Nat.le_refl _) (fun _ => rfl) with ⟨a1, a2, a3⟩ | ⟨a1, a2, a3, a4, vs, a5, a6, a7⟩
                · exact .inl ⟨d1 ▸ a1, d2 ▸ a2, a3⟩
                · exact .inr ⟨d1 ▸ a1, d2 ▸ a2, d2 ▸ a3, d2 ▸ a4, vs, a5, a6, fun j hj => by
                    rw [← eq_of_heq (d3 j hj)]
                    exact a7 j (by rw [d2]; exact hj)⟩
              · rw [hin2 _ _ _ hρb, g8]
                exact ⟨fun ⟨i, a1, a2, a3, a4⟩ => ⟨i, a1, a2, (hr i a1).1 ▸ a3, a4⟩, fun ⟨i, a1, a2, a3, a4⟩ => ⟨i, a1, a2, (hr i a1).1.symm ▸ a3, a4⟩⟩
              · exact g9 i j hi hj ho ho' ((hr i hi).1.trans h1) ((hr j hj).1.trans h2) h3
            · exact hr.elim
          · exact hr.elim
        | mp tw s l =>
          simp only [RlK] at hr
          split at hr
          · rename_i b hρb
            split at hr
            · rename_i tw1 s1 l1 hmb
              obtain ⟨rfl, rfl, rfl⟩ := hr
              obtain ⟨x, c, es, clock, g1, g2, g3⟩ := h1.blk b _ hmb
              exact ⟨x, c, es, clock, (hb _ _ hρb).trans g1, g2, EntRep.extC (fun x _ hx => hl x hx) (fun _ _ _ _ _ h => h) (Nat.le_refl _) _ _ g3⟩
            · exact hr.elim
          · exact hr.elim
      nst := fun b' k x hk hx => by
        obtain ⟨b, g1, g2⟩ := hin _ _ hx
        obtain ⟨k1, g3⟩ := hsrc b' k b hk g1
        have g4 := h1.nst b k1 x g3 g2
        have hr := hblk b' k hk
        cases k with
        | nest n ss F foc e e2 => rfl
        | cells cs e =>
          simp only [RlK, g1, g3] at hr
          cases k1 <;> first | exact hr.elim | cases g4
        | row z n ss f e =>
          simp only [RlK, g1, g3] at hr
          cases k1 <;> first | exact hr.elim | cases g4
        | mp tw s l =>
          simp only [RlK, g1, g3] at hr
          cases k1 <;> first | exact hr.elim | cases g4
        | seq go K i =>
          obtain ⟨rfl, a1, a2⟩ := hr
          rw [a1] at g1; cases g1
          rw [g3] at a2
          cases k1 <;> first | exact a2.elim | cases g4
      domO := fun b' hb' => by
        refine ⟨?_, fun x hx => by obtain ⟨b, g1, _⟩ := hin _ _ hx; exact absurd (hρ _ _ g1) hb', fn_out (Nat.not_lt.1 hb')⟩
        cases hx : bs' b' with
        | none => rfl
        | some x => obtain ⟨b, g1, _⟩ := hb2 _ _ hx; exact absurd (hρ _ _ g1) hb' }
  · refine ⟨fun b x hx => ?_, fun x hx hlx => h3.hlv x hx (hl x hlx), h3.heap, h3.size⟩
    have hbn : b < n0 := by
      rcases Nat.lt_or_ge b n0 with h | h
      · exact h
      · rw [A.dom b (by omega)] at hx; cases hx
    rw [hb _ _ (h0 b hbn)]
    exact h3.hbs b x hx

/-- THE RULE OF LOOPS: 'I x' is what is known ahead of a round, 'Φ x' what holds of x, 'μ x' how many rounds are left at most, 'Z x o' whether the loop may end in o from x on. -/
theorem loop_rule {E : Env} {L : Loops} {c : Code} {n0 : Nat} (hm : E.P.follows .mixedOrders = true) (hE : EnvOK E) (hL : LoopsOK E.P L c) {X : Type} (I : X → St) (Φ : X → Prop) (μ : X → Nat) (Z : X → Ex × St → Prop)
    (round : ∀ x, Φ x → (sx E L n0 c (I x)).All fun r => match r.1 with
      | .normal => ∃ x', Φ x' ∧ μ x' < μ x ∧ Weak n0 r.2 (I x') ∧ ∀ o, Z x' o → Z x o
      | e => ∃ σ, Z x (e, σ) ∧ Weak n0 r.2 σ) :
    ∀ x, Φ x → ∀ (A : Anchor) (lv0 : Am) (w0 : World) (a : Act) (w : World), A.n ≤ n0 → SInv A lv0 w0 (· < (I x).2.length) (I x) a w →
      (Code.loop c).wpIn (Fr A.ro) 3 E.P (fun e a' w' => ∃ o, Z x o ∧ e = o.1.out ∧ SInv A lv0 w0 (· < o.2.2.length) o.2 a' w') a w := by
  intro x hx A lv0 w0 a w hA hi
  have key : ∀ (n : Nat) (y : X), μ y < n → Φ y → (∀ o, Z y o → Z x o) → ∀ (a : Act) (w : World), SInv A lv0 w0 (· < (I y).2.length) (I y) a w →
      Code.roundsIn (Fr A.ro) 3 E.P c (fun e a' w' => ∃ o, Z x o ∧ e = o.1.out ∧ SInv A lv0 w0 (· < o.2.2.length) o.2 a' w') n a w := by
    intro n
    induction n with
    | zero => intro y h; omega
    | succ n ih =>
      intro y hμ hy hz a w hi
      obtain ⟨⟨ex, σ'⟩, h1, h2⟩ := T.is_of_all (round y hy)
      have hb := sx_sound hm hE c (I y) (ex, σ') h1 hL A lv0 w0 a w hA hi
      refine wpIn_mono hb ?_
      rintro e a' w' ⟨rfl, h3⟩
      cases ex with
      | normal =>
        obtain ⟨y', k1, k2, k3, k4⟩ := h2
        exact ih y' (by omega) k1 (fun o ho => hz o (k4 o ho)) a' w' (k3 A lv0 w0 a' w' hA h3)
      | exit id =>
        obtain ⟨σ2, k1, k2⟩ := h2
        exact ⟨_, hz _ k1, rfl, k2 A lv0 w0 a' w' hA h3⟩
      | ret =>
        obtain ⟨σ2, k1, k2⟩ := h2
        exact ⟨_, hz _ k1, rfl, k2 A lv0 w0 a' w' hA h3⟩
  exact wpIn_loop_rounds (μ x + 1) (key (μ x + 1) x (Nat.lt_succ_self _) hx (fun _ h => h) a w hi)

/-! ### Where the loops of a function stand -/
def bodyOf (P : Program) (f : FuncId) : Code := ((P.funcs[f]?).bind (·.body)).getD .skip
def loopAt (k : Nat) : List Code → Code
  | [] => .skip
  | l :: rest => match firstReg l with | some j => bif Nat.beq j k then l else loopAt k rest | none => loopAt k rest
def loopOf (P : Program) (f k : Nat) : Code := loopAt k (loopsIn (bodyOf P f))
def regsOf : List Code → List Nat
  | [] => []
  | l :: rest => match firstReg l with | some j => j :: regsOf rest | none => regsOf rest
def nodupB : List Nat → Bool
  | [] => true
  | a :: l => !(l.any fun b => Nat.beq a b) && nodupB l

theorem mem_regs : ∀ (l : List Code) (c : Code) (k : Nat), c ∈ l → firstReg c = some k → k ∈ regsOf l
  | [], _, _, h, _ => by cases h
  | d :: l, c, k, h, hk => by
    rcases List.mem_cons.1 h with rfl | h
    · simp [regsOf, hk]
    · have := mem_regs l c k h hk
      unfold regsOf
      split
      · exact List.mem_cons_of_mem _ this
      · exact this
theorem loopAt_eq : ∀ (l : List Code) (c : Code) (k : Nat), nodupB (regsOf l) = true → c ∈ l → firstReg c = some k → loopAt k l = c
  | [], _, _, _, h, _ => by cases h
  | d :: l, c, k, hn, h, hk => by
    rcases List.mem_cons.1 h with rfl | h
    · simp [loopAt, hk]
    · have hm := mem_regs l c k h hk
      unfold regsOf at hn
      split at hn
      · rename_i j hj
        simp only [nodupB, Bool.and_eq_true, Bool.not_eq_true', List.any_eq_false] at hn
        have hjk : Nat.beq j k = false := by
          have := hn.1 k hm
          cases hb : Nat.beq j k
          · rfl
          · exact absurd hb this
        simp only [loopAt, hj, hjk, cond_false]
        exact loopAt_eq l c k hn.2 h hk
      · rename_i hj
        simp only [loopAt, hj]
        exact loopAt_eq l c k hn h hk

def loopsOf (l : List (Nat × Loops)) : FuncId → Loops := fun f => (List.lookup f l).getD []

theorem lookup_mem {α : Type} : ∀ {l : List (Nat × α)} {k : Nat} {v : α}, List.lookup k l = some v → (k, v) ∈ l
  | [], k, v, h => by simp at h
  | (j, u) :: l, k, v, h => by
    rw [List.lookup_cons] at h
    split at h
    · rename_i hjk
      have : k = j := by simpa using hjk
      subst this
      cases h
      simp
    · exact List.mem_cons_of_mem _ (lookup_mem h)

/-- Whether no loop over a function is spoken of. -/
def noRng (L : Loops) : Bool := L.all fun p => match p.2 with | .rng _ _ _ => false | .rngG _ _ _ => false | _ => true
theorem loopsOK_of {P : Program} {f : FuncId} {L : Loops} (hu : nodupB (regsOf (loopsIn (bodyOf P f))) = true) (h : ∀ k g, (k, LoopC.sum g) ∈ L → LoopOK P (loopOf P f k) g) (hn : noRng L = true := by rfl) : LoopsOK P L (bodyOf P f) :=
  ⟨fun l hl k g hk hg => by
    have := h k g (lookup_mem hg)
    unfold loopOf at this
    rwa [loopAt_eq _ l k hu hl hk] at this, fun g ps a b _ k gf sc f' _ h => (by have := List.all_eq_true.1 hn _ (lookup_mem h); cases this), fun g ps a b _ k gf sc f' _ h => (by have := List.all_eq_true.1 hn _ (lookup_mem h); cases this)⟩
def rkeyC : Code → Option Nat
  | .rangeFunc _ _ a b => rkey a b
  | _ => none
def rkeysOf : List Code → List Nat
  | [] => []
  | c :: l => match rkeyC c with | some k => k :: rkeysOf l | none => rkeysOf l
/-- The loop over a function with a number. -/
def rangeAt (k : Nat) : List Code → Code
  | [] => .skip
  | c :: l => match rkeyC c with
    | some j => bif Nat.beq j k then c else rangeAt k l
    | none => rangeAt k l
theorem mem_rkeys : ∀ (l : List Code) (c : Code) (k : Nat), c ∈ l → rkeyC c = some k → k ∈ rkeysOf l
  | [], _, _, h, _ => by cases h
  | d :: l, c, k, h, hk => by
    rcases List.mem_cons.1 h with rfl | h
    · simp [rkeysOf, hk]
    · have := mem_rkeys l c k h hk
      unfold rkeysOf
      split
      · exact List.mem_cons_of_mem _ this
      · exact this
theorem rangeAt_eq : ∀ (l : List Code) (c : Code) (k : Nat), nodupB (rkeysOf l) = true → c ∈ l → rkeyC c = some k → rangeAt k l = c
  | [], _, _, _, h, _ => by cases h
  | d :: l, c, k, hn, h, hk => by
    rcases List.mem_cons.1 h with rfl | h
    · simp [rangeAt, hk]
    · have hm := mem_rkeys l c k h hk
      unfold rkeysOf at hn
      split at hn
      · rename_i j hj
        simp only [nodupB, Bool.and_eq_true, Bool.not_eq_true', List.any_eq_false] at hn
        have hjk : Nat.beq j k = false := by
          have := hn.1 k hm
          cases hb : Nat.beq j k
          · rfl
          · exact absurd hb this
        simp only [rangeAt, hj, hjk, cond_false]
        exact rangeAt_eq l c k hn.2 h hk
      · rename_i hj
        simp only [rangeAt, hj]
        exact rangeAt_eq l c k hn h hk
def rangeOf (P : Program) (f : FuncId) (k : Nat) : Code := rangeAt k (rangesIn (bodyOf P f))
/-- What is claimed of the loop over a function that is this code holds. -/
def RangeC (P : Program) (c : Code) (f : Nat → Nat → (Nat → List Value) → St → T (Ex × St)) : Prop :=
  match c with
  | .rangeFunc g ps a b => RangeOK P g ps a b f
  | _ => True
/-- The same for loops whose iterators are given boxes. -/
theorem loopsOK_ofG {P : Program} {f : FuncId} {L : Loops} (hu : nodupB (regsOf (loopsIn (bodyOf P f))) = true) (hr : nodupB (rkeysOf (rangesIn (bodyOf P f))) = true) (h : ∀ k g, (k, LoopC.sum g) ∈ L → LoopOK P (loopOf P f k) g)
    (h' : ∀ k gf sc g, (k, LoopC.rngG gf sc g) ∈ L → SConGOK P gf sc ∧ RangeC P (rangeOf P f k) g) (hG : L.all (fun p => match p.2 with | .rng _ _ _ => false | _ => true) = true := by rfl) : LoopsOK P L (bodyOf P f) :=
  ⟨fun l hl k g hk hg => by
    have := h k g (lookup_mem hg)
    unfold loopOf at this
    rwa [loopAt_eq _ l k hu hl hk] at this, fun g ps a b _ k gf sc f' _ h => (by have := List.all_eq_true.1 hG _ (lookup_mem h); cases this), fun g ps a b hc k gf sc f' hk hf => by
    have := h' k gf sc f' (lookup_mem hf)
    unfold rangeOf at this
    rwa [rangeAt_eq _ _ k hr hc hk] at this⟩
theorem loopsOK_none {P : Program} {c : Code} : LoopsOK P [] c := ⟨fun l hl k g hk hg => by simp at hg, fun g ps a b _ k gf sc f' _ h => by simp at h, fun g ps a b _ k gf sc f' _ h => by simp at h⟩
/-- Loops that are only gone round some times. -/
theorem loopsOK_un {P : Program} {L : Loops} {c : Code} (h : ∀ p ∈ L, ∃ n, p.2 = .un n) : LoopsOK P L c :=
  ⟨fun l hl k g hk hg => (by obtain ⟨n, hn⟩ := h _ (lookup_mem hg); cases hn), fun g ps a b _ k gf sc f' _ hf => (by obtain ⟨n, hn⟩ := h _ (lookup_mem hf); cases hn), fun g ps a b _ k gf sc f' _ hf => (by obtain ⟨n, hn⟩ := h _ (lookup_mem hf); cases hn)⟩

/-- A function of which something is claimed as a whole. -/
theorem loopsOK_call {P : Program} {c : Code} {k : Nat} (X : List SV → Mem → T (SV × Mem)) : LoopsOK P [(k, .call X)] c :=
  ⟨fun l hl j g hk hg => (by have := lookup_mem hg; simp at this), fun g ps a b _ j gf sc f' _ hf => (by have := lookup_mem hf; simp at this), fun g ps a b _ j gf sc f' _ hf => (by have := lookup_mem hf; simp at this)⟩
def noCalls (LL : List (Nat × Loops)) : Bool := LL.all fun p => (callOf p.2).isNone
theorem allOKC {P : Program} (hm : P.follows .mixedOrders = true) {l : List (Nat × Con)} (h : ∀ p ∈ l, ConOK P p.1 p.2) {LL : List (Nat × Loops)} (hL : ∀ p ∈ LL, LoopsOK P p.2 (bodyOf P p.1))
    (hC : ∀ p ∈ LL, ∀ X, callOf p.2 = some X → InlOK P p.1 X) : AllOK P (conOf l) (loopsOf LL) :=
  ⟨hm, conOf_ok h, fun f fn c hf hc => by
    have hb : bodyOf P f = c := by simp [bodyOf, hf, hc]
    unfold loopsOf
    cases hl : List.lookup f LL with
    | none => exact loopsOK_none
    | some L => rw [← hb]; exact hL _ (lookup_mem hl), fun f X hX => by
    unfold loopsOf at hX
    cases hl : List.lookup f LL with
    | none => rw [hl] at hX; cases hX
    | some L => rw [hl] at hX; exact hC _ (lookup_mem hl) X hX⟩
theorem allOKL {P : Program} (hm : P.follows .mixedOrders = true) {l : List (Nat × Con)} (h : ∀ p ∈ l, ConOK P p.1 p.2) {LL : List (Nat × Loops)} (hL : ∀ p ∈ LL, LoopsOK P p.2 (bodyOf P p.1)) (hn : noCalls LL = true := by rfl) : AllOK P (conOf l) (loopsOf LL) :=
  allOKC hm h hL fun p hp X hX => by
    have := List.all_eq_true.1 hn p hp
    rw [hX] at this; cases this
theorem envOK {P : Program} {con : FuncId → Option Con} {LL : FuncId → Loops} (h : AllOK P con LL) (n : Nat) : EnvOK ⟨P, con, scall P con LL n⟩ := ⟨h.con, fun f => scall_ok h n f⟩
end Go.RX

/- Loops whose rounds need a few slots: the rule of loops over these alone. -/
set_option linter.unusedVariables false
set_option linter.unusedSimpArgs false
namespace Go.RX
open Go Go.RowKit

/-- The slots of which something is known. -/
def mkS (N : Nat) (keep : List Nat) (vs : List SV) : List SV := (List.range N).map fun j => (List.lookup j (keep.zip vs)).getD .any
def fewS (keep : List Nat) (sl : List SV) : List SV := keep.map fun j => sl.getD j .any
abbrev Few := List SV × Mem
def proj (N : Nat) (keep : List Nat) (r : Ex × St) : T (Ex × Few) := bif Nat.beq r.2.1.length N then .ret (r.1, (fewS keep r.2.1, r.2.2)) else .stuck 120

/-- Knowledge of a few slots made less. -/
def Wk (N : Nat) (keep : List Nat) (n0 : Nat) (s s' : Few) : Prop := ∀ sl : List SV, sl.length = N → fewS keep sl = s.1 → Weak n0 (sl, s.2) (mkS N keep s'.1, s'.2)

theorem rll_of_getD {ρ : Ren} : ∀ (l l' : List SV), l.length = l'.length → (∀ j, j < l'.length → Rl ρ (l.getD j .any) (l'.getD j .any)) → RlL ρ l l'
  | [], [], _, _ => trivial
  | a :: l, b :: l', hl, h => ⟨by simpa using h 0 (by simp), rll_of_getD l l' (by simpa using hl) (fun j hj => by simpa using h (j + 1) (by simpa using hj))⟩

theorem rl_any {ρ : Ren} (s : SV) : Rl ρ s .any := by cases s <;> trivial
theorem lookup_zip {ρ : Ren} (sl : List SV) : ∀ (keep : List Nat) (vs' : List SV), RlL ρ (fewS keep sl) vs' → ∀ j, Rl ρ (sl.getD j .any) ((List.lookup j (keep.zip vs')).getD .any)
  | [], vs', h, j => by simpa using rl_any _
  | k :: keep, [], h, j => by simpa using rl_any _
  | k :: keep, v :: vs', h, j => by
    obtain ⟨h1, h2⟩ := (show Rl ρ (sl.getD k .any) v ∧ RlL ρ (fewS keep sl) vs' from h)
    rw [List.zip_cons_cons, List.lookup_cons]
    by_cases hj : j = k
    · subst hj; simpa using h1
    · have : (j == k) = false := by simpa using hj
      rw [this]
      exact lookup_zip sl keep vs' h2 j

theorem wk_of {N : Nat} {keep : List Nat} {n0 : Nat} (ρ : Ren) {vs vs' : List SV} {m m' : Mem} (hok : renOK ρ m' = true) (hn0 : n0 ≤ m'.length) (h0 : ∀ b, b < n0 → ρ.of b = some b)
    (hs : RlL ρ vs vs') (hm : RlM ρ m 0 m') : Wk N keep n0 (vs, m) (vs', m') := by
  intro sl hl hp
  refine weak_of ρ hok hn0 h0 ?_ hm
  refine rll_of_getD _ _ (by simp [mkS, hl]) fun j hj => ?_
  have hj' : j < N := by simpa [mkS] using hj
  have : (mkS N keep vs').getD j .any = (List.lookup j (keep.zip vs')).getD .any := by
    simp [mkS, hj']
  rw [this]
  simp only [] at hp
  rw [← hp] at hs
  exact lookup_zip sl keep vs' hs j

/-- A summary by a few slots. -/
noncomputable def few (N : Nat) (keep : List Nat) (g : Nat → Few → T (Ex × Few)) : Nat → St → T (Ex × St) := fun n0 σ =>
  (proj N keep (.normal, σ)).bind fun s => (g n0 s.2).bind fun r => .ret (r.1, (mkS N keep r.2.1, r.2.2))

theorem loop_of' {E : Env} {L : Loops} {c : Code} (hm : E.P.follows .mixedOrders = true) (hE : EnvOK E) (hL : LoopsOK E.P L c) {X : Type} (f : Nat → St → T (Ex × St)) (I : Nat → X → St) (Φ : Nat → X → Prop) (μ : X → Nat) (Z : Nat → X → Ex × St → Prop)
    (enter : ∀ n0 σ r, (f n0 σ).Is r → ∃ x, Φ n0 x ∧ Weak n0 σ (I n0 x) ∧ ∀ o, Z n0 x o → o.1 = r.1 ∧ Weak n0 o.2 r.2)
    (round : ∀ n0 x, Φ n0 x → (sx E L n0 c (I n0 x)).All fun r => match r.1 with
      | .normal => ∃ x', Φ n0 x' ∧ μ x' < μ x ∧ Weak n0 r.2 (I n0 x') ∧ ∀ o, Z n0 x' o → Z n0 x o
      | e => ∃ σ, Z n0 x (e, σ) ∧ Weak n0 r.2 σ) : LoopOK E.P c f := by
  intro n0 σ r hr A lv0 w0 a w hA hi
  obtain ⟨x, h1, h2, h3⟩ := enter n0 σ r hr
  refine wpIn_mono (loop_rule hm hE hL (I n0) (Φ n0) μ (Z n0) (round n0) x h1 A lv0 w0 a w hA (h2 A lv0 w0 a w hA hi)) ?_
  rintro e a' w' ⟨o, k1, rfl, k3⟩
  obtain ⟨e1, e2⟩ := h3 o k1
  exact ⟨by rw [e1], e2 A lv0 w0 a' w' hA k3⟩

theorem loop_few {E : Env} {L : Loops} {c : Code} (hm : E.P.follows .mixedOrders = true) (hE : EnvOK E) (hL : LoopsOK E.P L c) (N : Nat) (keep : List Nat) {X : Type} (g : Nat → Few → T (Ex × Few)) (V : Nat → X → Few) (Φ : Nat → X → Prop) (μ : X → Nat) (Z : Nat → X → Ex × Few → Prop)
    (enter : ∀ n0 s r, (g n0 s).Is r → ∃ x, Φ n0 x ∧ Wk N keep n0 s (V n0 x) ∧ ∀ o, Z n0 x o → o = r)
    (round : ∀ n0 x, Φ n0 x → ((sx E L n0 c (mkS N keep (V n0 x).1, (V n0 x).2)).bind (proj N keep)).All fun r => match r.1 with
      | .normal => ∃ x', Φ n0 x' ∧ μ x' < μ x ∧ Wk N keep n0 r.2 (V n0 x') ∧ ∀ o, Z n0 x' o → Z n0 x o
      | e => ∃ s, Z n0 x (e, s) ∧ Wk N keep n0 r.2 s) : LoopOK E.P c (few N keep g) := by
  refine loop_of' hm hE hL (few N keep g) (fun n0 x => (mkS N keep (V n0 x).1, (V n0 x).2)) Φ μ (fun n0 x o => ∃ s, Z n0 x (o.1, s) ∧ o.2 = (mkS N keep s.1, s.2)) ?_ ?_
  · intro n0 σ r h
    obtain ⟨s, h1, h2⟩ := T.is_bind h
    obtain ⟨r', h3, h4⟩ := T.is_bind h2
    obtain rfl : _ = r := h4
    unfold proj at h1
    cases hb : Nat.beq σ.1.length N
    · rw [hb] at h1; exact h1.elim
    rw [hb] at h1
    obtain rfl : _ = s := h1
    obtain ⟨x, k1, k2, k3⟩ := enter n0 _ r' h3
    refine ⟨x, k1, k2 σ.1 (Nat.eq_of_beq_eq_true hb) rfl, ?_⟩
    rintro ⟨e, st⟩ ⟨s, hz, ho⟩
    have := k3 _ hz
    subst this
    simp only [] at ho
    subst ho
    exact ⟨rfl, Weak.refl _ _⟩
  · intro n0 x hx
    have h := round n0 x hx
    have aux : ∀ (t : T (Ex × St)) (K : Ex × Few → Prop), (t.bind (proj N keep)).All K → t.All fun r => r.2.1.length = N ∧ K (r.1, (fewS keep r.2.1, r.2.2)) := by
      intro t K
      induction t with
      | ret a =>
        intro h
        have h : (proj N keep a).All K := h
        unfold proj at h
        cases hb : Nat.beq a.2.1.length N
        · rw [hb] at h; exact h.elim
        · rw [hb] at h; exact ⟨Nat.eq_of_beq_eq_true hb, h⟩
      | br c t e iht ihe => intro h; exact ⟨fun hc => iht (h.1 hc), fun hc => ihe (h.2 hc)⟩
      | ask p t ih => intro h; exact ⟨h.1, ih h.2⟩
      | stuck n => intro h; exact h.elim
    refine T.all_mono ?_ (aux _ _ h)
    rintro ⟨ex, σ'⟩ ⟨hlen, hk⟩
    cases ex with
    | normal =>
      obtain ⟨x', k1, k2, k3, k4⟩ := hk
      refine ⟨x', k1, k2, k3 σ'.1 hlen rfl, ?_⟩
      rintro o ⟨s, hz, ho⟩
      exact ⟨s, k4 _ hz, ho⟩
    | exit id =>
      obtain ⟨s, k1, k2⟩ := hk
      exact ⟨(mkS N keep s.1, s.2), ⟨s, k1, rfl⟩, k2 σ'.1 hlen rfl⟩
    | ret =>
      obtain ⟨s, k1, k2⟩ := hk
      exact ⟨(mkS N keep s.1, s.2), ⟨s, k1, rfl⟩, k2 σ'.1 hlen rfl⟩

theorem eqShs_refl : ∀ ss : List Sh, eqShs ss ss = true := fun ss => (show (∀ s : Sh, eqSh s s = true) → _ from fun h => by
  induction ss with
  | nil => rfl
  | cons s ss ih => simp [eqShs, h, ih]) (fun s => Sh.rec (motive_1 := fun s => eqSh s s = true) (motive_2 := fun ss => eqShs ss ss = true) (fun k => by simp [eqSh]) rfl rfl (fun ss h => by simpa [eqSh] using h) rfl (fun s ss h1 h2 => by simp [eqShs, h1, h2]) s)
theorem sameRow_refl {ss : List Sh} (n : Nat) (f : Nat → Els ss) : sameRow n f f := ⟨eqShs_refl ss, fun i _ => rfl⟩
theorem T.all_of_eq {α : Type} {K : α → Prop} {t t' : T α} (h : t = t') (h' : t'.All K) : t.All K := h ▸ h'
/-- Nothing renamed. -/
def idR (n : Nat) : Ren := (List.range n).map some
theorem idR_of {n b : Nat} (h : b < n) : (idR n).of b = some b := by simp [idR, Ren.of, h]
end Go.RX

