/- Regions: in the order of the text, and in whatever order. -/
import Derived.Test.YtfcafajfllegaaaRXi
import Derived.Still
set_option linter.unusedVariables false
set_option linter.unusedSimpArgs false
namespace Go.RX
open Go Go.RowKit

theorem sop_congr (P : Program) (m : Nat → Option Blk) (nid : Nat) {ev ev' : Operand → SV} (o : Op) (h : ∀ x ∈ o.operands, ev x = ev' x) : sop P m nid ev o = sop P m nid ev' o := by
  have hl : ∀ (xs : Array Operand), (∀ x ∈ xs, ev x = ev' x) → xs.toList.map ev = xs.toList.map ev' := fun xs hx => List.map_congr_left fun x hm => hx x (by simpa using hm)
  cases o <;> simp only [sop] <;> simp only [Op.operands] at h
  case move x => rw [h x (by simp)]
  case assign x => rw [h x (by simp)]
  case pick c x y => rw [h c (by simp), h x (by simp), h y (by simp)]
  case box e x => rw [h x (by simp)]
  case build t parts =>
    have : (parts.toList.map fun p => (p.1, ev p.2)) = (parts.toList.map fun p => (p.1, ev' p.2)) := List.map_congr_left fun p hp => by
      rw [h p.2 (by simp; exact ⟨p.1, by simpa using hp⟩)]
    rw [this]
  case load t x => rw [h x (by simp)]
  case store t x y => rw [h x (by simp), h y (by simp)]
  case nilCheck x => rw [h x (by simp)]
  case binOp op t x y ty => rw [h x (by simp), h y (by simp)]
  case unOp op t x => rw [h x (by simp)]
  case convert s d x => rw [h x (by simp)]
  case makeFunc fn first cap => rw [hl first (fun x hx => h x (by simp [hx])), hl cap (fun x hx => h x (by simp [hx]))]
  case fieldAddr s x f => rw [h x (by simp)]
  case field s x f => rw [h x (by simp)]
  case indexAddr t x ix => rw [h x (by simp), h ix (by simp)]
  case index t x ix => rw [h x (by simp), h ix (by simp)]
  case extract x i => rw [h x (by simp)]
  case buildSlice t n parts =>
    have : (parts.toList.map fun p => (p.1, ev p.2)) = (parts.toList.map fun p => (p.1, ev' p.2)) := List.map_congr_left fun p hp => by
      rw [h p.2 (by simp; exact ⟨p.1, by simpa using hp⟩)]
    rw [this]
  case makeSlice t x y => rw [h x (by simp), h y (by simp)]
  case slice t x lo hi mx =>
    cases mx with
    | some _ => rfl
    | none =>
      have e1 : lo.map ev = lo.map ev' := by cases lo with | none => rfl | some y => simp [h y (by simp)]
      have e2 : hi.map ev = hi.map ev' := by cases hi with | none => rfl | some y => simp [h y (by simp)]
      simp only [h x (by simp), e1, e2]
  case call c =>
    obtain ⟨callee, args, ats⟩ := c
    cases callee <;> simp only []
    rw [hl args (fun x hx => h x (by simp [Call.operands, hx]))]

theorem sopX_congr (E : Env) (m : Mem) (nid : Nat) {ev ev' : Operand → SV} (o : Op) (h : ∀ x ∈ o.operands, ev x = ev' x) : sopX E m nid ev o = sopX E m nid ev' o := by
  have plain := sop_congr E.P m.fn nid o h
  cases o <;> (try exact plain)
  rename_i c
  obtain ⟨callee, args, ats⟩ := c
  cases callee <;> (try exact plain)
  rename_i f
  simp only [sopX]
  simp only [Op.operands, Call.operands] at h
  have : args.toList.map ev = args.toList.map ev' := List.map_congr_left fun x hm => h x (by simp at hm; simp [hm])
  rw [h f (by simp), this]

mutual
theorem viewS_congr {m m' : Nat → Option Blk} : ∀ (s s' : SV) (rd : List Nat), viewS m s = some (s', rd) → (∀ b ∈ rd, m b = m' b) → viewS m' s = some (s', rd)
  | .any, _, _, h, _ => by simp [viewS] at h
  | .lit _, _, _, h, _ => h
  | .kb _, _, _, h, _ => h
  | .ki _ _, _, _, h, _ => h
  | .ptr _ _, _, _, h, _ => by simp [viewS] at h
  | .optr _ _ _ _, _, _, h, _ => by simp [viewS] at h
  | .row _ _ _, _, _, h, _ => h
  | .rptr _ _ _ _ _, _, _, h, _ => h
  | .agg cs, s', rd, h, hm => by
    simp only [viewS, Option.map_eq_some_iff] at h ⊢
    obtain ⟨p, h3, h4⟩ := h
    obtain ⟨rfl, rfl⟩ := Prod.mk.inj h4
    exact ⟨p, viewsS_congr cs p.1 p.2 h3 hm, rfl⟩
  | .tup cs, s', rd, h, hm => by
    simp only [viewS, Option.map_eq_some_iff] at h ⊢
    obtain ⟨p, h3, h4⟩ := h
    obtain ⟨rfl, rfl⟩ := Prod.mk.inj h4
    exact ⟨p, viewsS_congr cs p.1 p.2 h3 hm, rfl⟩
  | .fn f as cs, s', rd, h, hm => by
    rw [viewS] at h ⊢
    split at h
    · rename_i p q hp hq
      simp only [Option.some.injEq, Prod.mk.injEq] at h
      obtain ⟨rfl, rfl⟩ := h
      rw [viewsS_congr as p.1 p.2 hp (fun b hb => hm b (by simp [hb])), viewsS_congr cs q.1 q.2 hq (fun b hb => hm b (by simp [hb]))]
    · cases h
  | .own z b n, s', rd, h, hm => by
    rw [viewS] at h ⊢
    split at h
    · rename_i z' n' ss f e hb
      simp only [Option.some.injEq, Prod.mk.injEq] at h
      obtain ⟨rfl, rfl⟩ := h
      rw [← hm b (by simp), hb]
    · cases h
  | .csl b off n ss, s', rd, h, hm => by
    rw [viewS] at h ⊢
    split at h
    · rename_i cs e hb
      have h0 := h
      simp only [Option.map_eq_some_iff] at h
      obtain ⟨l, hp, h⟩ := h
      obtain ⟨rfl, rfl⟩ := Prod.mk.inj h
      rw [← hm b (by simp), hb]
      exact h0
    · cases h
theorem viewsS_congr {m m' : Nat → Option Blk} : ∀ (s s' : List SV) (rd : List Nat), viewsS m s = some (s', rd) → (∀ b ∈ rd, m b = m' b) → viewsS m' s = some (s', rd)
  | [], _, _, h, _ => h
  | s :: ss, s', rd, h, hm => by
    rw [viewsS] at h ⊢
    split at h
    · rename_i p q hp hq
      simp only [Option.some.injEq, Prod.mk.injEq] at h
      obtain ⟨rfl, rfl⟩ := h
      rw [viewS_congr s p.1 p.2 hp (fun b hb => hm b (by simp [hb])), viewsS_congr ss q.1 q.2 hq (fun b hb => hm b (by simp [hb]))]
    · cases h
end

theorem loadS_mem {P : Program} {m m' : Nat → Option Blk} {t : TypeId} {x : SV} {p : SV × List Nat} (h : (loadS P m t x).Is p) (hm : ∀ b ∈ p.2, m b = m' b) : (loadS P m' t x).Is p := by
  unfold loadS at h ⊢
  split at h
  · rename_i b off
    split at h
    · rename_i cs e hb
      obtain ⟨s, h1, h2⟩ := T.is_bind h
      obtain rfl : _ = p := h2
      simp only [← hm b (by simp), hb]
      exact h
    · exact h.elim
  · exact h
  · rename_i b i off k
    split at h
    · rename_i z n ss f e hb
      have hrd : p.2 = [b] := by
        cases hk : Nat.beq k ss.length
        · rw [hk] at h; exact h.elim
        · rw [hk] at h
          obtain ⟨_, h⟩ := h
          obtain ⟨s, h1, h2⟩ := T.is_bind h
          rw [← (show _ = p from h2)]
      simp only [← hm b (by simp [hrd]), hb]
      exact h
    · exact h.elim
  · exact h.elim

theorem storeS_mem {P : Program} {m m' : Nat → Option Blk} {t : TypeId} {x v : SV} {p : List (Nat × Option Blk) × List Nat} (h : (storeS P m t x v).Is p) (hm : ∀ b ∈ p.2, m b = m' b) : (storeS P m' t x v).Is p := by
  unfold storeS at h ⊢
  split at h
  · rename_i i vs h1 h2
    cases hsz : Nat.beq vs.length i.size
    · rw [hsz] at h; exact h.elim
    · rw [hsz] at h
      simp only [cond_true] at h ⊢
      split at h
      · rename_i b off
        split at h
        · rename_i cs e hb
          have hrd : p.2 = [b] := by
            cases hle : Nat.ble (off + vs.length) cs.length
            · rw [hle] at h; exact h.elim
            · rw [hle] at h; rw [← (show _ = p from h)]
          simp only [← hm b (by simp [hrd]), hb]
          exact h
        · exact h.elim
      · rename_i b ix off k
        split at h
        · rename_i z n ss f e hb
          have hrd : p.2 = [b] := by
            cases hk : (Nat.beq k ss.length && Nat.ble (off + vs.length) k)
            · rw [hk] at h; exact h.elim
            · rw [hk] at h
              simp only [cond_true] at h
              split at h
              · obtain ⟨_, h⟩ := h
                rw [← (show _ = p from h)]
              · exact h.elim
          simp only [← hm b (by simp [hrd]), hb]
          exact h
        · exact h.elim
      · exact h.elim
  · exact h.elim

theorem srcS_mem {m m' : Nat → Option Blk} {ss : List Sh} {y : SV} {n : Nat} {f : Nat → Els ss} {rd : List Nat} {kn : Bool} (h : srcS m ss y = some ((n, f), (rd, kn))) (hm : ∀ b ∈ rd, m b = m' b) : srcS m' ss y = some ((n, f), (rd, kn)) := by
  unfold srcS at h ⊢
  split at h
  · rename_i b off n2 s2
    split at h
    · rename_i cs e hb
      have hrd : rd = [b] := by
        split at h
        · rename_i l hl
          cases hle : Nat.ble (off + n2 * ss.length) cs.length
          · rw [hle] at h; cases h
          · rw [hle] at h; cases h; rfl
        · cases h
      simp only [← hm b (by simp [hrd]), hb]
      exact h
    · cases h
  · rename_i z b n2
    split at h
    · rename_i z' n' ss' f' e hb
      have hrd : rd = [b] := by
        split at h
        · cases h; rfl
        · cases h
      simp only [← hm b (by simp [hrd]), hb]
      exact h
    · cases h
  · exact h
  · exact h
  · cases h

theorem appendS_mem {P : Program} {m m' : Nat → Option Blk} {nid : Nat} {t tx : TypeId} {x y : SV} {out : Out} (h : (appendS P m nid t tx x y).Is out) (hm : ∀ b ∈ out.rd, m b = m' b) : (appendS P m' nid t tx x y).Is out := by
  unfold appendS at h ⊢
  split at h
  rotate_left
  · exact h.elim
  split at h
  rotate_left
  · exact h.elim
  rename_i i hin
  split at h
  rotate_left
  · exact h.elim
  rename_i z hz
  cases hc : (Nat.beq z.cells.size i.size && Nat.ble 1 i.bytes)
  · rw [hc] at h; exact h.elim
  rw [hc] at h
  simp only [cond_true] at h ⊢
  split at h
  · split at h
    rotate_left
    · exact h.elim
    rename_i ss hss
    cases hl : Nat.beq ss.length i.size
    · rw [hl] at h; exact h.elim
    rw [hl] at h
    simp only [cond_true] at h ⊢
    split at h
    rotate_left
    · exact h.elim
    rename_i n2 f2 rd kn hs
    obtain ⟨hb, h⟩ := h
    obtain rfl : _ = out := h
    rw [srcS_mem hs hm]
    exact ⟨hb, rfl⟩
  · rename_i z0 b n
    split at h
    rotate_left
    · exact h.elim
    rename_i z1 n' ss f e2 hmb
    cases hl : (Nat.beq e2 _ && Nat.beq ss.length i.size)
    · rw [hl] at h; exact h.elim
    rw [hl] at h
    simp only [cond_true] at h
    split at h
    rotate_left
    · exact h.elim
    rename_i n2 f2 rd kn hs
    obtain ⟨hb, h⟩ := h
    obtain rfl : _ = out := h
    have e1 : m' b = m b := (hm b (by simp)).symm
    have hs' := srcS_mem hs (fun c hc => hm c (by simp [hc]))
    simp only [e1, hmb, hl, cond_true, hs']
    exact ⟨hb, rfl⟩
  · exact h.elim

theorem cutS_mem {P : Program} {m m' : Nat → Option Blk} {t : TypeId} {x : SV} {low high : Option SV} {out : Out} (h : (cutS P m t x low high).Is out) (hm : ∀ b ∈ out.rd, m b = m' b) : (cutS P m' t x low high).Is out := by
  unfold cutS at h ⊢
  split at h
  rotate_left
  · exact h.elim
  split at h
  · exact h
  · rename_i q z b n hq
    split at h
    rotate_left
    · exact h.elim
    rename_i z' n' ss f e' hmb
    have hrd : out.rd = [b] := by
      cases hk : Nat.beq ss.length q.size
      · rw [hk] at h; exact h.elim
      rw [hk] at h
      simp only [cond_true] at h
      split at h
      · obtain ⟨_, h⟩ := h
        rw [← (show _ = out from h)]
      · exact h.elim
    simp only [← hm b (by simp [hrd]), hmb]
    exact h
  · exact h.elim

theorem appS_mem {P : Program} {m m' : Nat → Option Blk} {nid : Nat} {t tx : TypeId} {x y : SV} {out : Out} (h : (appS P m nid t tx x y).Is out) (hm : ∀ b ∈ out.rd, m b = m' b) : (appS P m' nid t tx x y).Is out := by
  unfold appS at h ⊢
  split at h
  · exact h
  · exact appendS_mem h hm
theorem cut0_mem {m m' : Nat → Option Blk} {nid : Nat} {x : SV} {out : Out} (h : (cut0 m nid x).Is out) (hm : ∀ b ∈ out.rd, m b = m' b) : (cut0 m' nid x).Is out := by
  unfold cut0 at h ⊢
  split at h
  · rename_i z b n
    split at h
    · rename_i hmb
      obtain rfl : _ = out := h
      simp only [← hm b (by simp), hmb]
      rfl
    · exact h.elim
  · exact h.elim
theorem sliceS_mem {P : Program} {m m' : Nat → Option Blk} {nid : Nat} {t : TypeId} {x : SV} {low high : Option SV} {out : Out} (h : (sliceS P m nid t x low high).Is out) (hm : ∀ b ∈ out.rd, m b = m' b) : (sliceS P m' nid t x low high).Is out := by
  unfold sliceS at h ⊢
  split at h
  · split at h
    · exact h
    · exact cut0_mem h hm
    · exact cutS_mem h hm
  · exact cutS_mem h hm

theorem sop_mem {P : Program} {m m' : Nat → Option Blk} {nid : Nat} {ev : Operand → SV} {o : Op} {out : Out} (h : (sop P m nid ev o).Is out) (hm : ∀ b ∈ out.rd, m b = m' b) : (sop P m' nid ev o).Is out := by
  cases o <;> simp only [sop] at h ⊢ <;> (try exact h)
  case load t x =>
    obtain ⟨p, h1, h2⟩ := T.is_bind h
    obtain rfl : _ = out := h2
    exact T.bind_is (loadS_mem h1 hm) rfl
  case store t x y =>
    obtain ⟨p, h1, h2⟩ := T.is_bind h
    obtain rfl : _ = out := h2
    exact T.bind_is (storeS_mem h1 hm) rfl
  case slice t x lo hi mx =>
    cases mx with
    | some _ => exact h
    | none => exact sliceS_mem h hm
  case call c =>
    split at h
    · split at h
      · exact appS_mem h hm
      · exact h
    · exact h

theorem sopX_mem {E : Env} {m m' : Mem} {nid : Nat} {ev : Operand → SV} {o : Op} {out : Out} (h : (sopX E m nid ev o).Is out) (hm : ∀ b ∈ out.rd, m.fn b = m'.fn b) (hb : out.bar = true → m = m') : (sopX E m' nid ev o).Is out := by
  have plain : (sop E.P m.fn nid ev o).Is out → (sop E.P m'.fn nid ev o).Is out := fun h => sop_mem h hm
  cases o <;> (try exact plain h)
  rename_i c
  obtain ⟨callee, args, ats⟩ := c
  cases callee <;> (try exact plain h)
  simp only [sopX] at h ⊢
  split at h
  · unfold callS at h ⊢
    rename_i g first cap hev
    cases hbo : bodyOk E.P g
    · rw [hbo] at h; exact h.elim
    rw [hbo] at h
    simp only [cond_true] at h ⊢
    split at h
    · obtain ⟨p, h1, h⟩ := T.is_bind h
      obtain ⟨sv, h2, h⟩ := T.is_bind h
      have hrd : out.rd = p.2 := by
        cases hfl : (p.2.isEmpty || sv.flat)
        · rw [hfl] at h; rw [← (show _ = out from h)]
        · rw [hfl] at h; rw [← (show _ = out from h)]
      refine T.bind_is (a := p) ?_ (T.bind_is h2 h)
      rw [viewsS_congr _ p.1 p.2 (optS_is h1) (fun b hb => hm b (by rw [hrd]; exact hb))]
      rfl
    · obtain ⟨r, h1, h2⟩ := T.is_bind h
      have hbar : out.bar = true := by rw [← (show _ = out from h2)]
      rw [← hb hbar]
      exact h
  · exact h.elim

section
variable {E : Env} {lv0 : Nat → Prop} {w0 w : World} {bs : Bs} {D : Nat → Prop} {σ : List SV × Mem} {a : Act} {ops : List Oper}

theorem evD_rep {lv : Nat → Prop} {dec : Dec} {sl : List SV} (hf : FInv bs lv w sl a) {x : Operand} (hd : ∀ t, x = .tmp t → ∀ b, dec.get t = some b → sl.getD t (.lit undef) = .lit (.bool b)) :
    Rep bs lv w (evD dec sl x) (a.eval x) := by
  cases x with
  | tmp t =>
    unfold evD
    simp only []
    split
    · rename_i b hb
      have h1 : Rep bs lv w (sl.getD t (.lit undef)) (a.eval (.tmp t)) := hf.ev (.tmp t)
      rw [hd t rfl b hb] at h1
      exact h1
    · exact hf.ev _
  | const v => exact hf.ev (.const v)
  | global g => exact hf.ev (.global g)
  | func f => exact hf.ev (.func f)

theorem yielded_of {lv : Nat → Prop} {sl : List SV} (t : Nat) {tmps : Array Value} : tmps[t]?.getD undef = tmps.getD t undef := by
  simp

theorem wantB_wanted {lv : Nat → Prop} {dec : Dec} {sl : List SV} {o : Oper} {b : Bool} (hf : FInv bs lv w sl a) (h : wantB ops dec sl o = some b)
    (hd : ∀ t ∈ o.looksAt ops.toArray, ∀ b, dec.get t = some b → sl.getD t (.lit undef) = .lit (.bool b)) : Region.wanted o (yielded ops.toArray a.tmps) = b := by
  unfold wantB at h
  unfold Region.wanted
  split at h
  · rename_i hg; simp only [hg]; simpa using h
  · rename_i j want hg
    simp only [hg]
    unfold yielded
    split at h
    · rename_i hj
      simp only [List.getElem?_toArray, hj, Option.bind_none]
      simp only [Option.some.injEq] at h
      subst h; rfl
    · rename_i d hj
      simp only [List.getElem?_toArray, hj, Option.bind_some]
      have hlook : d ∈ o.looksAt ops.toArray := by
        unfold Oper.looksAt
        rw [hg]
        simp [hj]
      have hr := evD_rep hf (x := .tmp d) (dec := dec) (fun t e b hb => by cases e; exact hd d hlook b hb)
      have he : a.eval (.tmp d) = a.tmps.getD d undef := rfl
      rw [he] at hr
      split at h
      · rename_i c hc
        rw [hc] at hr
        have hr' : a.tmps.getD d undef = .bool c := hr
        have : a.tmps[d]? = some (.bool c) := by
          cases hx : a.tmps[d]? with
          | none => simp [hx, undef] at hr'
          | some v => simp [hx] at hr'; rw [hr']
        rw [this]
        simp only [Option.some.injEq] at h
        subst h
        cases c <;> cases want <;> rfl
      · rename_i hc
        rw [hc] at hr
        have hr' : a.tmps.getD d undef = undef := hr
        simp only [Option.some.injEq] at h
        subst h
        cases hx : a.tmps[d]? with
        | none => rfl
        | some v => simp [hx] at hr'; rw [hr']; rfl
      · cases h

structure Anchor where
  bs : Bs
  lv : Nat → Prop
  w : World
  n : Nat
  dom : ∀ b, n ≤ b → bs b = none
/-- The state of the walk: what is known of the world and of the frame, and that all goes on from an anchor. -/
def SInv (A : Anchor) (lv0 : Nat → Prop) (w0 : World) (D : Nat → Prop) (σ : List SV × Mem) (a : Act) (w : World) : Prop :=
  ∃ bs, MInv lv0 w0 bs D σ.2.fn w ∧ FInv bs (live lv0 bs σ.2.fn) w σ.1 a ∧ Ext A.bs A.lv A.w bs (live lv0 bs σ.2.fn) w

/-- A step, wherever it comes. -/
theorem step_wp {A : Anchor} (hE : EnvOK E) {s : Step} {Q : Exit → Act → World → Prop} (hs : StepOK E ops s σ) (hi : SInv A lv0 w0 D σ a w)
    (hD : ∀ b, s.nid ≤ b → b < s.nid + s.out.nn → ¬ D b) (hbar : s.out.bar = true → σ.2.length = s.nid ∧ ∀ b, D b ↔ b < s.nid)
    {K : Act → World → Prop} (hK : ∀ a' w', SInv A lv0 w0 (news D s.nid s.out.nn) (s.app σ) a' w' → K a' w') :
    if Region.wanted s.o (yielded ops.toArray a.tmps) then s.o.wp E.P a w K Q ∨ (s.o.asks E.P a w ∧ LetsOut Q) else K (a.put s.o.dst undef) w := by
  obtain ⟨bs, hm, hf, hx⟩ := hi
  obtain ⟨hdec, hs⟩ := hs
  rcases hs with ⟨hw, hs⟩ | ⟨hw, ho⟩
  · rw [wantB_wanted hf hw hdec]
    simp only [if_true]
    left
    classical
    have hs' : (sopX E σ.2 s.nid (fun x => if x ∈ s.o.op.operands then evD s.dec σ.1 x else .any) s.o.op).Is s.out := by
      rw [sopX_congr E σ.2 s.nid (ev' := evD s.dec σ.1) s.o.op (fun x hx => by simp [hx])]
      exact hs
    refine Oper.wp_mono (fun a' w' ⟨bs', h1, h2, h3⟩ => hK a' w' ⟨bs', h1, h2, hx.trans h3⟩) (stepX_wp hE hs' hm hf (fun x => ?_) hD hbar)
    by_cases hxo : x ∈ s.o.op.operands
    · simp only [hxo, if_true]
      refine evD_rep hf fun t e b hb => hdec t ?_ b hb
      subst e
      unfold Oper.looksAt
      simp only [List.mem_append, List.mem_filterMap]
      exact .inl ⟨.tmp t, by simpa using hxo, rfl⟩
    · simp only [hxo, if_false]; exact trivial
  · rw [wantB_wanted hf hw hdec]
    simp only [Bool.false_eq_true, if_false]
    obtain ⟨o, nid, dec, out⟩ := s
    obtain rfl : out = undefO := ho
    refine hK _ _ ⟨bs, ?_, ?_, hx⟩
    · have := hm.monoD (D' := news D nid 0) (fun x hx => .inl hx)
      exact this
    · exact hf.put (s := .lit undef) (v := undef) (Ext.refl _ _ _) o.dst (show undef = undef from rfl)

/-- A region in the order of the text. -/
theorem seq_wp {A : Anchor} (hE : EnvOK E) {Q : Exit → Act → World → Prop} : ∀ (l : List Step) (σ : List SV × Mem) (a : Act) (w : World), LexOK E ops l σ → SInv A lv0 w0 (· < σ.2.length) σ a w →
    (∀ a' w', SInv A lv0 w0 (· < (l.foldl (fun σ s => s.app σ) σ).2.length) (l.foldl (fun σ s => s.app σ) σ) a' w' → Q .normal a' w') → wpList E.P ops.toArray Q (l.map (·.o)) a w
  | [], σ, a, w, _, hi, hQ => hQ a w hi
  | s :: rest, σ, a, w, ⟨hn, hl, hs, hr⟩, hi, hQ => by
    rw [List.map_cons, wpList]
    have := step_wp hE (Q := Q) hs hi (fun b h1 _ => by omega) (fun _ => ⟨hn.symm, fun b => by rw [hn]⟩) (K := wpList E.P ops.toArray Q (rest.map (·.o)))
      (fun a' w' h => seq_wp hE rest (s.app σ) a' w' hr (by
        obtain ⟨bs, h1, h2, h3⟩ := h
        refine ⟨bs, h1.monoD fun x hx => ?_, h2, h3⟩
        show x < (s.app σ).2.length
        rw [hl]
        rcases hx with hx | hx <;> omega) hQ)
    exact this
end
end Go.RX
