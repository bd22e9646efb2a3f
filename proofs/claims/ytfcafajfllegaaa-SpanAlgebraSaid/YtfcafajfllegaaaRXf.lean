/- One operation that is no call of a function. -/
import Derived.Test.YtfcafajfllegaaaRXv
set_option linter.unusedVariables false
set_option linter.unusedSimpArgs false
namespace Go.RX
open Go Go.RowKit

noncomputable def builtinS (P : Program) (b : Builtin) (ts : List TypeId) (xs : List SV) : T SV :=
  match b, ts, xs with
  | .len, [t], [x] => optS 70 (lenS P t x)
  | .cap, [t], [x] => match P.underlying t, x with | some (.slice _), .lit (.slice none 0 0) => .ret (.ki .i64 0) | _, _ => .stuck 74
  | .min, _, x :: ys => optS 71 (minmaxS false x ys)
  | .max, _, x :: ys => optS 72 (minmaxS true x ys)
  | _, _, _ => .stuck 73

noncomputable def sop (P : Program) (m : Nat → Option Blk) (nid : Nat) (ev : Operand → SV) (o : Op) : T Out :=
  match o with
  | .move x => pureO (ev x)
  | .assign x => pureO (ev x)
  | .pick c a b => (pickS (ev c) (ev a) (ev b)).bind pureO
  | .alloc e => (optS 60 ((zeroS P e).bind cellsO)).bind fun cs => .ret (newO nid e cs)
  | .box e x => (optS 61 (cellsO (ev x))).bind fun cs => .ret (newO nid e cs)
  | .build t parts => (optS 62 (buildS P t (parts.toList.map fun p => (p.1, ev p.2)))).bind pureO
  | .load t a => (loadS P m t (ev a)).bind fun p => .ret ⟨p.1, [], p.2, 0, false⟩
  | .store t a x => (storeS P m t (ev a) (ev x)).bind fun p => .ret ⟨.lit undef, p.1, p.2, 0, false⟩
  | .nilCheck x => bif nilOkS (ev x) then pureO (ev x) else .stuck 63
  | .binOp op t x y _ => (binS P op t (ev x) (ev y)).bind pureO
  | .unOp op _ x => (unS op (ev x)).bind pureO
  | .convert s d x => (optS 64 (convS P s d (ev x))).bind pureO
  | .makeFunc fn first cap => pureO (.fn fn (first.toList.map ev) (cap.toList.map ev))
  | .fieldAddr s x f => (fieldAddrS P s f (ev x)).bind pureO
  | .field s x f => (fieldS P s f (ev x)).bind pureO
  | .indexAddr t x ix => (indexAddrS P t (ev x) (ev ix)).bind pureO
  | .index t x ix => (indexS P t (ev x) (ev ix)).bind pureO
  | .extract x i => (optS 65 (extractS (ev x) i)).bind pureO
  | .buildSlice t len parts => bslS P nid t len (parts.toList.map fun p => (p.1, ev p.2))
  | .makeSlice t l c => makeS P nid t (ev l) (ev c)
  | .slice t x low high none => sliceS P m nid t (ev x) (low.map ev) (high.map ev)
  | .call c =>
    match c.callee with
    | .builtin b =>
      match b, c.argTypes.toList, c.args.toList.map ev with
      | .append, [t, tx], [x, y] => appS P m nid t tx x y
      | b, ts, xs => (builtinS P b ts xs).bind pureO
    | _ => .stuck 66
  | _ => .stuck 67

section
variable {P : Program} {lv0 : Nat → Prop} {w0 w : World} {bs : Bs} {D : Nat → Prop} {m : Nat → Option Blk} {nid : Nat} {sl : List SV} {a : Act}

theorem evL {lv : Nat → Prop} {ev : Operand → SV} (h : ∀ x, Rep bs lv w (ev x) (a.eval x)) (xs : List Operand) : RepL bs lv w (xs.map ev) (xs.map a.eval) := by
  induction xs with
  | nil => exact .nil
  | cons x xs ih => exact .cons (h x) ih

theorem bind_pureO {t : T SV} {out : Out} (h : (t.bind pureO).Is out) : ∃ s, t.Is s ∧ out = ⟨s, [], [], 0, false⟩ := by
  obtain ⟨s, h1, h2⟩ := T.is_bind h
  exact ⟨s, h1, (show _ = _ from h2).symm⟩

theorem yields_new (hi : MInv lv0 w0 bs D m w) (hD : ¬ D nid) {e : TypeId} {cs : List SV} {us : Array Value} (hr : RepL bs (live lv0 bs m) w cs us.toList) {r : Result Next}
    (hrun : r = .ok (.value (.pointer (some ⟨w.heap.size, 0, none⟩))) (w.alloc (.cells us e))) : Yields lv0 w0 bs D m w nid (newO nid e cs) r := by
  obtain ⟨h1, h2⟩ := hi.newCells hD e hr
  refine ⟨_, _, upd bs nid (some (w.heap.size, 0, 0)), .inl hrun, ?_, ?_, ?_⟩
  · have := h1.eqD (D' := news D nid 1) (fun x => by unfold news; constructor <;> intro h <;> rcases h with h | h <;> first | exact .inl h | (exact .inr (by omega)))
    simpa [newO, mupd] using this
  · simpa [newO, mupd] using h2
  · exact ⟨w.heap.size, (0, 0), by simp, rfl⟩

theorem sop_sound {ev : Operand → SV} {o : Oper} {out : Out} (h : (sop P m nid ev o.op).Is out) (hi : MInv lv0 w0 bs D m w) (hf : ∀ x, Rep bs (live lv0 bs m) w (ev x) (a.eval x)) (hD : 0 < out.nn → ¬ D nid) :
    Yields lv0 w0 bs D m w nid out ((execOp a.eval o).run P w) := by
  unfold execOp
  generalize o.op = op at *
  cases op <;> simp only [sop] at h ⊢ <;> try exact h.elim
  case move x => obtain rfl : _ = out := h; exact yields_pure hi rfl (hf x)
  case assign x => obtain rfl : _ = out := h; exact yields_pure hi rfl (hf x)
  case pick c x y =>
    obtain ⟨s, h1, rfl⟩ := bind_pureO h
    obtain ⟨b, hb, hs⟩ := pickS_sound (P := P) h1 (hf c) (hf x) (hf y)
    refine yields_pure hi ?_ hs
    simp [hb, asBool]
  case alloc e =>
    obtain ⟨cs, h1, h2⟩ := T.is_bind h
    obtain rfl : _ = out := h2
    obtain ⟨z, hz, hc⟩ := Option.bind_eq_some_iff.1 (optS_is h1)
    obtain ⟨v, hv, hr⟩ := zeroS_sound (bs := bs) (lv := live lv0 bs m) (w := w) hz
    obtain ⟨hcr, _⟩ := cellsO_rep hr hc
    refine yields_new (e := e) hi (hD (by simp [newO])) hcr ?_
    simp [Instr.alloc, hv, newVar, newRow]
  case box e x =>
    obtain ⟨cs, h1, h2⟩ := T.is_bind h
    obtain rfl : _ = out := h2
    obtain ⟨hcr, _⟩ := cellsO_rep (hf x) (optS_is h1)
    refine yields_new (e := e) hi (hD (by simp [newO])) hcr ?_
    simp [Instr.box, newVar, newRow]
  case build t parts =>
    obtain ⟨s, h1, rfl⟩ := bind_pureO h
    obtain ⟨v, hv, hr⟩ := buildS_sound (vals := parts.toList.map fun p => (p.1, a.eval p.2)) (optS_is h1) (by simp) (by
      simp only [List.map_map]
      have := evL hf (parts.toList.map (·.2))
      simpa [List.map_map, Function.comp_def] using this)
    refine yields_pure hi ?_ hr
    have e : (parts.map fun (p : Nat × Operand) => (p.1, a.eval p.2)) = (parts.toList.map fun p => (p.1, a.eval p.2)).toArray := by apply Array.ext'; simp
    rw [Sem.run_bind]
    rw [show (parts.map fun (x : Nat × Operand) => match x with | (i, x) => (i, a.eval x)) = (parts.map fun (p : Nat × Operand) => (p.1, a.eval p.2)) from rfl, e, hv]
    rfl
  case load t x =>
    obtain ⟨p, h1, h2⟩ := T.is_bind h
    obtain rfl : _ = out := h2
    obtain ⟨v, hv, hr⟩ := loadS_sound hi h1 (hf x)
    exact yields_pure hi (by simp [hv]) hr
  case store t x y =>
    obtain ⟨p, h1, h2⟩ := T.is_bind h
    obtain rfl : _ = out := h2
    obtain ⟨w', hv, h3, h4⟩ := storeS_sound hi h1 (hf x) (hf y)
    exact ⟨undef, w', bs, .inr ⟨by simp [hv], rfl⟩, h3.monoD (fun x => .inl), h4, rfl⟩
  case nilCheck x =>
    cases hn : nilOkS (ev x)
    · rw [hn] at h; exact h.elim
    · rw [hn] at h
      obtain rfl : _ = out := h
      have hx := hf x
      refine yields_pure hi ?_ hx
      generalize ev x = s at *
      generalize a.eval x = v at *
      cases s <;> simp [nilOkS] at hn
      case ptr b off => obtain ⟨_, _, _, rfl⟩ := hx; rfl
      case fn f first cap => cases f <;> simp at hn; obtain ⟨_, _, rfl, _⟩ := hx; rfl
      case optr => obtain ⟨_, _, _, rfl⟩ := hx; rfl
      case rptr => obtain ⟨_, _, rfl, _⟩ := hx; rfl
  case binOp op t x y ty =>
    obtain ⟨s, h1, rfl⟩ := bind_pureO h
    obtain ⟨r, hr, hrr⟩ := binS_sound x y h1 (hf x) (hf y)
    exact yields_pure hi (by rw [Sem.run_bind, hr]; rfl) hrr
  case unOp op t x =>
    obtain ⟨s, h1, rfl⟩ := bind_pureO h
    obtain ⟨r, hr, hrr⟩ := unS_sound (P := P) (w := w) h1 (hf x)
    exact yields_pure hi (by rw [Sem.run_bind, hr]; rfl) hrr
  case convert s d x =>
    obtain ⟨s, h1, rfl⟩ := bind_pureO h
    obtain ⟨r, hr, hrr⟩ := convS_sound (optS_is h1) (hf x)
    exact yields_pure hi (by rw [Sem.run_bind, hr]; rfl) hrr
  case makeFunc fn first cap =>
    obtain rfl : _ = out := h
    refine yields_pure (v := .func fn (first.map a.eval) (cap.map a.eval)) hi rfl ⟨first.toList.map a.eval, cap.toList.map a.eval, ?_, evL hf _, evL hf _⟩
    congr 1 <;> (apply Array.ext'; simp)
  case fieldAddr s x f =>
    obtain ⟨s, h1, rfl⟩ := bind_pureO h
    obtain ⟨r, hr, hrr⟩ := fieldAddrS_sound h1 (hf x)
    exact yields_pure hi (by rw [Sem.run_bind, hr]; rfl) hrr
  case field s x f =>
    obtain ⟨s, h1, rfl⟩ := bind_pureO h
    obtain ⟨r, hr, hrr⟩ := fieldS_sound h1 (hf x)
    exact yields_pure hi (by rw [Sem.run_bind, hr]; rfl) hrr
  case indexAddr t x ix =>
    obtain ⟨s, h1, rfl⟩ := bind_pureO h
    obtain ⟨r, hr, hrr⟩ := indexAddrS_sound h1 (hf x) (hf ix)
    exact yields_pure hi (by rw [Sem.run_bind, hr]; rfl) hrr
  case index t x ix =>
    obtain ⟨s, h1, rfl⟩ := bind_pureO h
    obtain ⟨r, hr, hrr⟩ := indexS_sound h1 (hf x) (hf ix)
    exact yields_pure hi (by rw [Sem.run_bind, hr]; rfl) hrr
  case extract x i =>
    obtain ⟨s, h1, rfl⟩ := bind_pureO h
    obtain ⟨r, hr, hrr⟩ := extractS_sound (P := P) (optS_is h1) (hf x)
    exact yields_pure hi (by rw [Sem.run_bind, hr]; rfl) hrr
  case buildSlice t len parts =>
    refine bslS_sound (vals := parts.toList.map fun p => (p.1, a.eval p.2)) hi h hD (by simp) (by
      simp only [List.map_map]
      have := evL hf (parts.toList.map (·.2))
      simpa [List.map_map, Function.comp_def] using this) fun q w' hq => ?_
    have e : (parts.map fun (p : Nat × Operand) => (p.1, a.eval p.2)) = (parts.toList.map fun p => (p.1, a.eval p.2)).toArray := by apply Array.ext'; simp
    rw [Sem.run_bind]
    rw [show (parts.map fun (x : Nat × Operand) => match x with | (i, x) => (i, a.eval x)) = (parts.map fun (p : Nat × Operand) => (p.1, a.eval p.2)) from rfl, e, hq]
    rfl
  case makeSlice t l c =>
    refine makeS_sound hi h hD (hf l) (hf c) fun q w' hq => ?_
    rw [Sem.run_bind, hq]; rfl
  case slice t x low high mx =>
    cases mx with
    | some _ => exact h.elim
    | none =>
      refine sliceS_sound (vl := low.map a.eval) (vh := high.map a.eval) hi h hD (hf x) (fun s hs => ?_) (fun hs => by cases low <;> simp at hs ⊢) (fun s hs => ?_) (fun hs => by cases high <;> simp at hs ⊢) fun q w' hq => ?_
      · cases low <;> simp at hs; subst hs; exact ⟨_, rfl, hf _⟩
      · cases high <;> simp at hs; subst hs; exact ⟨_, rfl, hf _⟩
      · rw [Sem.run_bind]
        rw [show Option.map a.eval none = (none : Option Value) from rfl, hq]; rfl
  case call c =>
    obtain ⟨callee, args, ats⟩ := c
    cases callee <;> simp only [] at h <;> try exact h.elim
    rename_i b
    have hr := evL hf args.toList
    have ea : args.map a.eval = (args.toList.map a.eval).toArray := by apply Array.ext'; simp
    have et : ats = ats.toList.toArray := by simp
    simp only [resolve]
    rw [ea]
    generalize args.toList.map a.eval = us at *
    generalize args.toList.map ev = xs at *
    generalize ats.toList = ts at *
    subst et
    split at h
    · rename_i t tx x y
      obtain ⟨u, us', rfl, hx, v, us'', rfl, hy, hr'⟩ := hr
      cases hr'
      refine appS_sound (ty := o.type) hi h hD hx hy fun q w' hq => ?_
      simp [invoke, builtin, hq]
    obtain ⟨s, h1, rfl⟩ := bind_pureO h
    unfold builtinS at h1
    split at h1
    · rename_i t x
      obtain ⟨u, us', rfl, hx, hr'⟩ := hr
      cases hr'
      obtain ⟨r, hr, hrr⟩ := lenS_sound (P := P) (ty := o.type) (optS_is h1) hx
      exact yields_pure hi (by simp [invoke, builtin, hr]) hrr
    · rename_i t x
      split at h1
      · rename_i e hu
        obtain ⟨u, us', rfl, hx, hr'⟩ := hr
        cases hr'
        obtain rfl : u = _ := hx
        obtain rfl : _ = s := h1
        refine yields_pure (v := .int .i64 0) hi ?_ rfl
        simp [invoke, builtin, Builtin.cap_, run_underlying hu]
        rfl
      · exact h1.elim
    · rename_i x ys _
      obtain ⟨u, us', rfl, hx, hr'⟩ := hr
      obtain ⟨r, hr, hrr⟩ := minmaxS_sound (P := P) false ys x s u us' (optS_is h1) hx hr'
      refine yields_pure hi ?_ hrr
      simp only [Bool.false_eq_true, if_false] at hr
      simp [invoke, builtin, Builtin.min_, hr]
    · rename_i x ys _
      obtain ⟨u, us', rfl, hx, hr'⟩ := hr
      obtain ⟨r, hr, hrr⟩ := minmaxS_sound (P := P) true ys x s u us' (optS_is h1) hx hr'
      refine yields_pure hi ?_ hrr
      simp only [if_true] at hr
      simp [invoke, builtin, Builtin.max_, hr]
    · exact h1.elim
end
end Go.RX
