/- A step in its frame; a region in the order of the text. -/
import Derived.Test.YtfcafajfllegaaaRXh
set_option linter.unusedVariables false
set_option linter.unusedSimpArgs false
namespace Go.RX
open Go Go.RowKit

mutual
/-- What was looked at is there. -/
theorem viewS_rd {mf : Nat → Option Blk} : ∀ (s s' : SV) (rd : List Nat), viewS mf s = some (s', rd) → ∀ b ∈ rd, ∃ k, mf b = some k
  | .any, s', rd, h => by simp [viewS] at h
  | .lit u, s', rd, h => by simp only [viewS, Option.some.injEq, Prod.mk.injEq] at h; obtain ⟨_, rfl⟩ := h; simp
  | .kb u, s', rd, h => by simp only [viewS, Option.some.injEq, Prod.mk.injEq] at h; obtain ⟨_, rfl⟩ := h; simp
  | .ki u n, s', rd, h => by simp only [viewS, Option.some.injEq, Prod.mk.injEq] at h; obtain ⟨_, rfl⟩ := h; simp
  | .ptr _ _, s', rd, h => by simp [viewS] at h
  | .optr _ _ _ _, s', rd, h => by simp [viewS] at h
  | .agg cs, s', rd, h => by
    simp only [viewS, Option.map_eq_some_iff] at h
    obtain ⟨⟨cs', rd'⟩, h3, h4⟩ := h
    obtain ⟨_, rfl⟩ := Prod.mk.inj h4
    exact viewsS_rd cs cs' _ h3
  | .tup cs, s', rd, h => by
    simp only [viewS, Option.map_eq_some_iff] at h
    obtain ⟨⟨cs', rd'⟩, h3, h4⟩ := h
    obtain ⟨_, rfl⟩ := Prod.mk.inj h4
    exact viewsS_rd cs cs' _ h3
  | .fn f as cs, s', rd, h => by
    rw [viewS] at h
    split at h
    · rename_i p q hp hq
      simp only [Option.some.injEq, Prod.mk.injEq] at h
      obtain ⟨_, rfl⟩ := h
      intro b hb
      rcases List.mem_append.1 hb with hb | hb
      · exact viewsS_rd as p.1 p.2 hp b hb
      · exact viewsS_rd cs q.1 q.2 hq b hb
    · cases h
  | .own z b n, s', rd, h => by
    rw [viewS] at h
    split at h
    · rename_i z' n' ss f e hm
      simp only [Option.some.injEq, Prod.mk.injEq] at h
      obtain ⟨_, rfl⟩ := h
      intro c hc
      obtain rfl : c = b := by simpa using hc
      exact ⟨_, hm⟩
    · cases h
  | .csl b off n ss, s', rd, h => by
    rw [viewS] at h
    split at h
    · rename_i cs e hm
      simp only [Option.map_eq_some_iff] at h
      obtain ⟨l, hp, h⟩ := h
      obtain ⟨_, rfl⟩ := Prod.mk.inj h
      intro c hc
      obtain rfl : c = b := by simpa using hc
      exact ⟨_, hm⟩
    · cases h
  | .row ss n f, s', rd, h => by
    simp only [viewS, Option.some.injEq, Prod.mk.injEq] at h
    obtain ⟨_, rfl⟩ := h; simp
  | .rptr ss n f i o, s', rd, h => by
    simp only [viewS, Option.some.injEq, Prod.mk.injEq] at h
    obtain ⟨_, rfl⟩ := h; simp
theorem viewsS_rd {mf : Nat → Option Blk} : ∀ (s s' : List SV) (rd : List Nat), viewsS mf s = some (s', rd) → ∀ b ∈ rd, ∃ k, mf b = some k
  | [], s', rd, h => by simp only [viewsS, Option.some.injEq, Prod.mk.injEq] at h; obtain ⟨_, rfl⟩ := h; simp
  | s :: ss, s', rd, h => by
    rw [viewsS] at h
    split at h
    · rename_i p q hp hq
      simp only [Option.some.injEq, Prod.mk.injEq] at h
      obtain ⟨_, rfl⟩ := h
      intro b hb
      rcases List.mem_append.1 hb with hb | hb
      · exact viewS_rd s p.1 p.2 hp b hb
      · exact viewsS_rd ss q.1 q.2 hq b hb
    · cases h
end

section
variable {E : Env} {lv0 : Nat → Prop} {w0 w : World} {bs : Bs} {D : Nat → Prop} {m : Mem} {nid : Nat} {sl : List SV} {a : Act}

/-- Blocks are forgotten. -/
theorem MInv.drops : ∀ (l : List Nat) {mf : Nat → Option Blk}, MInv lv0 w0 bs D mf w → MInv lv0 w0 bs D (mupd mf (l.map fun b => (b, none))) w ∧ Ext bs (live lv0 bs mf) w bs (live lv0 bs (mupd mf (l.map fun b => (b, none)))) w
  | [], mf, h => ⟨h, Ext.refl _ _ _⟩
  | b :: l, mf, h => by
    obtain ⟨d1, d2⟩ := h.drop b
    obtain ⟨e1, e2⟩ := MInv.drops l d1
    exact ⟨e1, d2.trans e2⟩
theorem mupd_none (mf : Nat → Option Blk) (l : List Nat) (x : Nat) : mupd mf (l.map fun b => (b, none)) x = if x ∈ l then none else mf x :=
  mupd_list mf (fun _ => none) l x

theorem FInv.put {lv lv' : Nat → Prop} {bs' : Bs} {w' : World} (h : FInv bs lv w sl a) (he : Ext bs lv w bs' lv' w') {s : SV} {v : Value} (dst : Option Tmp) (hr : Rep bs' lv' w' s v) :
    FInv bs' lv' w' (putS sl dst s) (a.put dst v) := by
  cases dst with
  | none => exact ⟨he.repL h.rep, h.defers⟩
  | some d =>
    refine ⟨?_, h.defers⟩
    have := (he.repL h.rep).set d hr
    simpa [putS, Act.put, Array.toList_setIfInBounds] using this

/-- What holds behind a step. -/
def After (lv0 : Nat → Prop) (w0 : World) (D : Nat → Prop) (m : Mem) (nid : Nat) (sl : List SV) (dst : Option Tmp) (out : Out) (bs : Bs) (w : World) (a' : Act) (w' : World) : Prop :=
  ∃ bs', MInv lv0 w0 bs' (news D nid out.nn) (msets m out.wr).fn w' ∧ FInv bs' (live lv0 bs' (msets m out.wr).fn) w' (putS sl dst out.sv) a' ∧
    Ext bs (live lv0 bs m.fn) w bs' (live lv0 bs' (msets m out.wr).fn) w'

theorem after_of_yields {o : Oper} {out : Out} {r : Result Next} {Q : Exit → Act → World → Prop} (hf : FInv bs (live lv0 bs m.fn) w sl a) (h : Yields lv0 w0 bs D m.fn w nid out r) :
    o.upon E.P a (fun a' w' => After lv0 w0 D m nid sl o.dst out bs w a' w') Q r := by
  obtain ⟨v, w', bs', hr, h1, h2, h3⟩ := h
  rw [← msets_fn] at h1 h2 h3
  rcases hr with rfl | ⟨rfl, rfl⟩
  · exact ⟨bs', h1, hf.put h2 o.dst h3, h2⟩
  · exact ⟨bs', h1, hf.put h2 o.dst h3, h2⟩

theorem run_callFunc {P : Program} {f : FuncId} (h : bodyOk P f = true) (args : Array Value) : (callFunc f args).run P w = .ok (.enter f args) w := by
  unfold bodyOk at h
  split at h
  · rename_i fn hf
    simp only [Bool.and_eq_true, Bool.not_eq_true'] at h
    have hb : fn.body.isNone = false := by cases hb : fn.body <;> simp [hb] at h ⊢
    have h2 : ¬ fn.name = "runtime.NumGoroutine" := by simpa using h.2
    have h3 : ¬ fn.body = none := by intro e; rw [e] at hb; cases hb
    simp [callFunc, hf, h2, h3]
  · cases h

theorem stepX_wp (hE : EnvOK E) {ev' : Operand → SV} {o : Oper} {out : Out} {Q : Exit → Act → World → Prop} (h : (sopX E m nid ev' o.op).Is out)
    (hi : MInv lv0 w0 bs D m.fn w) (hf : FInv bs (live lv0 bs m.fn) w sl a) (hv : ∀ x, Rep bs (live lv0 bs m.fn) w (ev' x) (a.eval x))
    (hD : ∀ b, nid ≤ b → b < nid + out.nn → ¬ D b) (hbar : out.bar = true → m.length = nid ∧ ∀ b, D b ↔ b < nid) :
    o.wp E.P a w (fun a' w' => After lv0 w0 D m nid sl o.dst out bs w a' w') Q := by
  have plain : (sop E.P m.fn nid ev' o.op).Is out → o.wp E.P a w (fun a' w' => After lv0 w0 D m nid sl o.dst out bs w a' w') Q := fun h =>
    after_of_yields hf (sop_sound h hi hv fun hn => hD nid (Nat.le_refl _) (by omega))
  cases hop : o.op <;> rw [hop] at h <;> (try exact plain (by rw [hop]; exact h))
  rename_i c
  obtain ⟨callee, args, ats⟩ := c
  cases callee <;> (try exact plain (by rw [hop]; exact h))
  rename_i f
  simp only [sopX] at h
  split at h
  rotate_left
  · exact h.elim
  rename_i g first cap hev
  have hfv := hv f
  rw [hev] at hfv
  obtain ⟨us, ts, hfe, hus, hts⟩ := hfv
  have hargs := evL hv args.toList
  unfold callS at h
  cases hbo : bodyOk E.P g
  · rw [hbo] at h; exact h.elim
  rw [hbo] at h
  simp only [cond_true] at h
  have hvals : RepL bs (live lv0 bs m.fn) w (first ++ args.toList.map ev' ++ cap) (us ++ args.toList.map a.eval ++ ts) := (hus.append hargs).append hts
  have hrun : (execOp a.eval o).run E.P w = .ok (.enter g (us ++ args.toList.map a.eval ++ ts).toArray) w := by
    unfold execOp
    rw [hop]
    simp only [resolve, Deferred.ofValue, hfe, Sem.run_bind, Sem.run_pure, Result.andThen_ok, invoke]
    rw [run_callFunc hbo]
    congr 2
    apply Array.ext'
    simp
  unfold Oper.wp
  rw [hrun, Oper.upon_enter]
  split at h
  · -- by a contract
    rename_i c hc
    obtain ⟨p, h1, h⟩ := T.is_bind h
    obtain ⟨sv, h2, h⟩ := T.is_bind h
    have hvs := viewsS_sound hi (lent lv0 bs m.fn p.2) (fun x hx => hx.1) _ p.1 p.2 _ (optS_is h1) (fun b hb x c hbx hl => hl.2 b hb c hbx) hvals
    have hcall := hE.con g c hc p.1 sv h2 (lent lv0 bs m.fn p.2) w _ (fun x hx => live_lt hi hx.1) hvs
    refine hcall.mono ?_
    rintro e w' ⟨v, rfl, hb, hr⟩
    cases hfl : (p.2.isEmpty || sv.flat)
    · rw [hfl] at h
      obtain rfl : _ = out := h
      obtain ⟨d1, d2⟩ := MInv.drops p.2 hi
      have hrd := viewsS_rd _ p.1 p.2 (optS_is h1)
      have hr' : Rep bs (live lv0 bs (mupd m.fn (p.2.map fun b => (b, none)))) w' sv v := by
        refine Rep.ext (fun _ _ h => by cases h) (fun x hx hl => ?_) (fun _ _ _ => rfl) (Nat.le_refl _) _ _ hr
        rcases hl with hl | ⟨b, k, cp, g1, g2⟩
        · exact ⟨.inl hl, fun b hb c hbx => by have := hi.amb x hl; have := (hi.rng b x c hbx).1; omega⟩
        · rw [mupd_none] at g1
          split at g1
          · cases g1
          · rename_i hnb
            refine ⟨.inr ⟨b, k, cp, g1, g2⟩, fun b' hb' c hbx => ?_⟩
            obtain ⟨k', hk'⟩ := hrd b' hb'
            exact hnb ((hi.inj _ _ _ _ _ _ _ hk' g1 hbx g2) ▸ hb')
      have hx := d2.trans (ext_grow bs (live lv0 bs (mupd m.fn (p.2.map fun b => (b, none)))) hb)
      refine ⟨bs, ?_, ?_, ?_⟩
      · show MInv lv0 w0 bs (news D nid 0) (msets m (p.2.map fun b => (b, none))).fn w'
        rw [msets_fn]
        exact (d1.grow hb).monoD (fun x => .inl)
      · show FInv bs (live lv0 bs (msets m (p.2.map fun b => (b, none))).fn) w' (putS sl o.dst sv) (a.put o.dst v)
        rw [msets_fn]
        exact hf.put hx o.dst hr'
      · show Ext bs (live lv0 bs m.fn) w bs (live lv0 bs (msets m (p.2.map fun b => (b, none))).fn) w'
        rw [msets_fn]
        exact hx
    rw [hfl] at h
    obtain rfl : _ = out := h
    have hm' := hi.grow hb
    have hr' : Rep bs (live lv0 bs m.fn) w' sv v := by
      simp only [Bool.or_eq_true] at hfl
      rcases hfl with he | hfl
      · have : p.2 = [] := by simpa using he
        refine Rep.ext (fun _ _ h => by cases h) (fun x hx hl => ?_) (fun _ _ _ => rfl) (Nat.le_refl _) _ _ hr
        exact ⟨hl, by rw [this]; simp⟩
      · exact Rep.flat _ _ hfl hr
    exact ⟨bs, by simpa [msets] using hm'.monoD (fun x => .inl), by simpa [msets] using hf.put (ext_grow bs (live lv0 bs m.fn) hb) o.dst hr', by simpa [msets] using ext_grow bs (live lv0 bs m.fn) hb⟩
  · -- by going in
    obtain ⟨⟨sv, m'⟩, h1, h⟩ := T.is_bind h
    obtain rfl : _ = out := h
    have hLe := (hE.inl g).1 _ m m' sv h1
    have hle := hLe.1
    obtain ⟨hml, hDl⟩ := hbar rfl
    have hi' : MInv lv0 w0 bs (· < m.length) m.fn w := hi.monoD fun x hx => by rw [hml]; exact (hDl x).1 hx
    refine ((hE.inl g).2 _ m m' sv h1 lv0 w0 w bs _ hi' hvals).mono ?_
    rintro e w' ⟨v, bs', rfl, g1, g2, g3⟩
    have hmf : (msets m (changed m m')).fn = m'.fn := changed_fn hLe
    refine ⟨bs', ?_, ?_, ?_⟩
    · show MInv lv0 w0 bs' (news D nid (m'.length - m.length)) (msets m (changed m m')).fn w'
      rw [hmf]
      refine g1.monoD fun x hx => ?_
      by_cases h : x < nid
      · exact .inl ((hDl x).2 h)
      · exact .inr ⟨by omega, by omega⟩
    · show FInv bs' (live lv0 bs' (msets m (changed m m')).fn) w' (putS sl o.dst sv) (a.put o.dst v)
      rw [hmf]
      exact hf.put g2 o.dst g3
    · show Ext bs (live lv0 bs m.fn) w bs' (live lv0 bs' (msets m (changed m m')).fn) w'
      rw [hmf]
      exact g2
end
end Go.RX
