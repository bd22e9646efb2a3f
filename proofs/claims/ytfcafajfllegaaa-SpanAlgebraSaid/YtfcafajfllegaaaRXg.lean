/- Steps: an operation with its guard, or a call; what a region of them does in the order of the text. -/
import Derived.Test.YtfcafajfllegaaaRXf
import Derived.Orders
set_option linter.unusedVariables false
set_option linter.unusedSimpArgs false
namespace Go.RX
open Go Go.RowKit

abbrev Dec := List (Nat × Bool)
def Dec.get (d : Dec) (t : Nat) : Option Bool := List.lookup t d

/-- An operand, as far as decisions are known. -/
def evD (dec : Dec) (sl : List SV) (x : Operand) : SV :=
  match x with
  | .tmp t => match dec.get t with
    | some b => .kb b
    | none => ev sl (.tmp t)
  | x => ev sl x

def Mem.fn (m : Mem) : Nat → Option Blk := fun b => (m.getD b (0, none)).2
def Mem.gen (m : Mem) (b : Nat) : Nat := (m.getD b (0, none)).1
def mset (m : Mem) (b : Nat) (v : Option Blk) : Mem := bif Nat.blt b m.length then m.set b (m.gen b + 1, v) else m ++ List.replicate (b - m.length) (0, none) ++ [(0, v)]
def msets (m : Mem) (wr : List (Nat × Option Blk)) : Mem := wr.foldl (fun m p => mset m p.1 p.2) m

theorem mset_get (m : Mem) (b : Nat) (v : Option Blk) (x : Nat) : (mset m b v).getD x (0, none) = if x = b then (if b < m.length then m.gen b + 1 else 0, v) else m.getD x (0, none) := by
  unfold mset
  cases h : Nat.blt b m.length
  · have hle : m.length ≤ b := by
      rcases Nat.lt_or_ge b m.length with h' | h'
      · rw [← Nat.blt_eq] at h'; rw [h] at h'; cases h'
      · exact h'
    simp only [cond_false, List.getD_eq_getElem?_getD]
    by_cases hx : x = b
    · subst hx
      rw [if_pos rfl, if_neg (by omega), List.getElem?_append_right (by simp; omega)]
      have : x - (m ++ List.replicate (x - m.length) (0, none)).length = 0 := by simp; omega
      rw [this]; rfl
    · rw [if_neg hx]
      by_cases h1 : x < m.length
      · rw [List.append_assoc, List.getElem?_append_left h1]
      · have e1 : m[x]? = none := by simp; omega
        rw [e1]
        by_cases h2 : x < b
        · rw [List.getElem?_append_left (by simp; omega), List.getElem?_append_right (by omega)]
          simp [List.getElem?_replicate]; split <;> rfl
        · rw [List.getElem?_eq_none (by simp; omega)]
  · have hlt : b < m.length := by rw [← Nat.blt_eq]; exact h
    simp only [cond_true, List.getD_eq_getElem?_getD, List.getElem?_set]
    by_cases hx : x = b
    · subst hx; simp [hlt]
    · rw [if_neg (Ne.symm hx), if_neg hx]
theorem mset_fn (m : Mem) (b : Nat) (v : Option Blk) : (mset m b v).fn = upd m.fn b v := by
  funext x
  unfold Mem.fn upd
  rw [mset_get]
  split <;> rfl
theorem mset_len0 (m : Mem) (b : Nat) (v : Option Blk) : m.length ≤ (mset m b v).length := by
  unfold mset; cases Nat.blt b m.length <;> simp <;> omega

/-- A later state of knowledge: what was not written is as it was. -/
def Le (m m' : Mem) : Prop := m.length ≤ m'.length ∧ ∀ b, b < m.length → m'.getD b (0, none) = m.getD b (0, none) ∨ m.gen b < m'.gen b
theorem Le.refl (m : Mem) : Le m m := ⟨Nat.le_refl _, fun _ _ => .inl rfl⟩
theorem Le.trans {m m' m'' : Mem} (h : Le m m') (h' : Le m' m'') : Le m m'' := by
  refine ⟨Nat.le_trans h.1 h'.1, fun b hb => ?_⟩
  rcases h.2 b hb with h1 | h1
  · rcases h'.2 b (Nat.lt_of_lt_of_le hb h.1) with h2 | h2
    · exact .inl (h2.trans h1)
    · right; unfold Mem.gen at h2 ⊢; rw [h1] at h2; exact h2
  · rcases h'.2 b (Nat.lt_of_lt_of_le hb h.1) with h2 | h2
    · right; unfold Mem.gen at h1 ⊢; rw [h2]; exact h1
    · exact .inr (Nat.lt_trans h1 h2)
theorem le_mset (m : Mem) (b : Nat) (v : Option Blk) : Le m (mset m b v) := by
  refine ⟨mset_len0 m b v, fun x hx => ?_⟩
  by_cases h : x = b
  · subst h
    right
    unfold Mem.gen
    rw [mset_get, if_pos rfl, if_pos hx]
    exact Nat.lt_succ_self _
  · left; rw [mset_get, if_neg h]
theorem le_msets (wr : List (Nat × Option Blk)) : ∀ m : Mem, Le m (msets m wr) := by
  induction wr with
  | nil => intro m; exact .refl m
  | cons p wr ih => intro m; simp only [msets, List.foldl_cons] at ih ⊢; exact (le_mset m _ _).trans (ih _)

/-- The blocks that were written, or are new. -/
def changed (m m' : Mem) : List (Nat × Option Blk) :=
  ((List.range m'.length).filter fun b => Nat.ble m.length b || !(Nat.beq (m.gen b) (m'.gen b))).map fun b => (b, m'.fn b)
theorem mupd_list (f : Nat → Option Blk) (g : Nat → Option Blk) : ∀ (l : List Nat) (x : Nat), (l.map fun b => (b, g b)).foldl (fun (m : Nat → Option Blk) p => upd m p.1 p.2) f x = if x ∈ l then g x else f x := by
  intro l
  induction l generalizing f with
  | nil => intro x; simp
  | cons a l ih =>
    intro x
    simp only [List.map_cons, List.foldl_cons]
    rw [ih]
    by_cases h : x ∈ l
    · simp [h]
    · rw [if_neg h]
      by_cases hx : x = a
      · subst hx; simp
      · rw [upd_other _ _ hx]; simp [h, hx]

theorem msets_fn (wr : List (Nat × Option Blk)) : ∀ m : Mem, (msets m wr).fn = mupd m.fn wr := by
  induction wr with
  | nil => intro m; rfl
  | cons p wr ih => intro m; simp only [msets, mupd, List.foldl_cons] at ih ⊢; rw [ih, mset_fn]

theorem fn_out {m : Mem} {x : Nat} (h : m.length ≤ x) : m.fn x = none := by
  simp [Mem.fn, List.getD_eq_getElem?_getD, List.getElem?_eq_none h]
theorem changed_fn {m m' : Mem} (h : Le m m') : (msets m (changed m m')).fn = m'.fn := by
  rw [msets_fn]
  funext x
  unfold mupd changed
  rw [mupd_list]
  by_cases hx : x ∈ (List.range m'.length).filter fun b => Nat.ble m.length b || !(Nat.beq (m.gen b) (m'.gen b))
  · rw [if_pos hx]
  · rw [if_neg hx]
    simp only [List.mem_filter, List.mem_range, Bool.or_eq_true, Bool.not_eq_true', not_and, not_or] at hx
    by_cases hl : x < m'.length
    · obtain ⟨h1, h2⟩ := hx hl
      have hlt : x < m.length := by
        rcases Nat.lt_or_ge x m.length with h | h
        · exact h
        · exact absurd (Nat.ble_eq_true_of_le h) h1
      have hg : m.gen x = m'.gen x := by
        cases hb : Nat.beq (m.gen x) (m'.gen x)
        · exact absurd hb h2
        · exact Nat.eq_of_beq_eq_true hb
      rcases h.2 x hlt with h3 | h3
      · unfold Mem.fn; rw [h3]
      · omega
    · rw [fn_out (m := m') (by omega), fn_out (m := m) (by have := h.1; omega)]

/-- A contract of a function that neither is given nor gives back blocks of the call's own. -/
abbrev Con := List SV → T SV
/-- What a call comes to: by a contract, or by going into the body. -/
structure Env where
  P : Program
  con : FuncId → Option Con
  inl : FuncId → List SV → Mem → T (SV × Mem)

mutual
/-- A value as a function sees it that may not touch the call's own blocks. -/
noncomputable def viewS (m : Nat → Option Blk) : SV → Option (SV × List Nat)
  | .any => none
  | .lit v => some (.lit v, [])
  | .kb b => some (.lit (.bool b), [])
  | .ki k n => some (.lit (.int k n), [])
  | .ptr _ _ => none
  | .agg cs => (viewsS m cs).map fun p => (.agg p.1, p.2)
  | .tup cs => (viewsS m cs).map fun p => (.tup p.1, p.2)
  | .fn f as cs =>
    match viewsS m as, viewsS m cs with
    | some p, some q => some (.fn f p.1 q.1, p.2 ++ q.2)
    | _, _ => none
  | .own z b n =>
    match m b with
    | some (.row _ _ ss f _) => some (.row ss n f, [b])
    | _ => none
  | .optr _ _ _ _ => none
  | .csl b off n ss =>
    match m b with
    | some (.cells cs _) => (packs ss cs off n).map fun l => (.row ss n (ofList l), [b])
    | _ => none
  | .row ss n f => some (.row ss n f, [])
  | .rptr ss n f i o => some (.rptr ss n f i o, [])
noncomputable def viewsS (m : Nat → Option Blk) : List SV → Option (List SV × List Nat)
  | [] => some ([], [])
  | s :: ss =>
    match viewS m s, viewsS m ss with
    | some p, some q => some (p.1 :: q.1, p.2 ++ q.2)
    | _, _ => none
end

def bodyOk (P : Program) (f : FuncId) : Bool :=
  match P.funcs[f]? with
  | some fn => fn.body.isSome && !(fn.name == "runtime.NumGoroutine")
  | none => false

noncomputable def callS (E : Env) (m : Mem) (f : FuncId) (args : List SV) : T Out :=
  bif bodyOk E.P f then
    match E.con f with
    | some c => (optS 80 (viewsS m.fn args)).bind fun p => (c p.1).bind fun sv => bif p.2.isEmpty || sv.flat then .ret ⟨sv, [], p.2, 0, false⟩ else .ret ⟨sv, p.2.map (fun b => (b, none)), p.2, 0, false⟩
    | none => (E.inl f args m).bind fun r => .ret ⟨r.1, changed m r.2, [], r.2.length - m.length, true⟩
  else .stuck 81

noncomputable def sopX (E : Env) (m : Mem) (nid : Nat) (ev : Operand → SV) (o : Op) : T Out :=
  match o with
  | .call c =>
    match c.callee with
    | .value f =>
      match ev f with
      | .fn (.func g) first cap => callS E m g (first ++ c.args.toList.map ev ++ cap)
      | _ => .stuck 82
    | _ => sop E.P m.fn nid ev o
  | o => sop E.P m.fn nid ev o

def undefO : Out := ⟨.lit undef, [], [], 0, false⟩

/-- Whether an operation is carried out: by its guard. -/
def wantB (ops : List Oper) (dec : Dec) (sl : List SV) (o : Oper) : Option Bool :=
  match o.guard with
  | none => some true
  | some (j, want) =>
    match (ops[j]?).bind (·.dst) with
    | none => some false
    | some d =>
      match evD dec sl (.tmp d) with
      | .kb b => some (b == want)
      | .lit (.tuple ⟨[]⟩) => some false
      | _ => none

structure Step where
  o : Oper
  nid : Nat
  dec : Dec
  out : Out

def putS (sl : List SV) (dst : Option Tmp) (s : SV) : List SV :=
  match dst with
  | some d => sl.set d s
  | none => sl

def Step.app (s : Step) (σ : List SV × Mem) : List SV × Mem := (putS σ.1 s.o.dst s.out.sv, msets σ.2 s.out.wr)

def DecOK (dec : Dec) (sl : List SV) : Prop := ∀ t b, dec.get t = some b → sl.getD t (.lit undef) = .lit (.bool b)

def StepOK (E : Env) (ops : List Oper) (s : Step) (σ : List SV × Mem) : Prop :=
  (∀ t ∈ s.o.looksAt ops.toArray, ∀ b, s.dec.get t = some b → σ.1.getD t (.lit undef) = .lit (.bool b)) ∧
  ((wantB ops s.dec σ.1 s.o = some true ∧ (sopX E σ.2 s.nid (evD s.dec σ.1) s.o.op).Is s.out) ∨ (wantB ops s.dec σ.1 s.o = some false ∧ s.out = undefO))

def LexOK (E : Env) (ops : List Oper) : List Step → List SV × Mem → Prop
  | [], _ => True
  | s :: rest, σ => s.nid = σ.2.length ∧ (s.app σ).2.length = s.nid + s.out.nn ∧ StepOK E ops s σ ∧ LexOK E ops rest (s.app σ)

/-- The decisions that still stand when a slot is written. -/
def Dec.forget (dec : Dec) (dst : Option Tmp) : Dec :=
  match dst with
  | some d => dec.filter fun p => !(Nat.beq p.1 d)
  | none => dec

/-- The guard asked, its Bool decided. -/
def wantS (ops : List Oper) (dec : Dec) (sl : List SV) (o : Oper) : T (Bool × Dec) :=
  match o.guard with
  | none => .ret (true, dec)
  | some (j, want) =>
    match (ops[j]?).bind (·.dst) with
    | none => .ret (false, dec)
    | some d =>
      match evD dec sl (.tmp d) with
      | .kb b => .ret (b == want, dec)
      | .lit (.tuple ⟨[]⟩) => .ret (false, dec)
      | .lit (.bool c) => .br c (.ret (true == want, (d, true) :: dec)) (.ret (false == want, (d, false) :: dec))
      | _ => .stuck 90

noncomputable def srun (E : Env) (ops : List Oper) : List Oper → Dec → List SV × Mem → List Step → T ((List SV × Mem) × List Step)
  | [], _, σ, acc => .ret (σ, acc.reverse)
  | o :: rest, dec, σ, acc =>
    (wantS ops dec σ.1 o).bind fun p =>
      (bif p.1 then sopX E σ.2 σ.2.length (evD p.2 σ.1) o.op else .ret undefO).bind fun out =>
        bif Nat.beq (msets σ.2 out.wr).length (σ.2.length + out.nn) then
          srun E ops rest (p.2.forget o.dst) (Step.app ⟨o, σ.2.length, p.2, out⟩ σ) (⟨o, σ.2.length, p.2, out⟩ :: acc)
        else .stuck 91

theorem lookup_filter {d t : Nat} {b : Bool} : ∀ {dec : Dec}, List.lookup t (dec.filter fun p => !(Nat.beq p.1 d)) = some b → t ≠ d ∧ List.lookup t dec = some b
  | [], h => by simp at h
  | (x, c) :: dec, h => by
    simp only [List.filter_cons] at h
    split at h
    · rename_i hx
      have hx' : x ≠ d := fun e => by subst e; simp at hx
      rw [List.lookup_cons] at h ⊢
      split at h
      · rename_i htx
        have : t = x := by simpa using htx
        subst this
        exact ⟨hx', by simpa using h⟩
      · obtain ⟨h1, h2⟩ := lookup_filter h
        exact ⟨h1, h2⟩
    · rename_i hx
      have hx' : x = d := by simp at hx; exact hx
      obtain ⟨h1, h2⟩ := lookup_filter h
      refine ⟨h1, ?_⟩
      rw [List.lookup_cons]
      have : (t == x) = false := by simp; rw [hx']; exact h1
      rw [this]; exact h2

theorem decOK_forget {dec : Dec} {sl : List SV} {dst : Option Tmp} {s : SV} (h : DecOK dec sl) : DecOK (dec.forget dst) (putS sl dst s) := by
  intro t b hb
  cases dst with
  | none => exact h t b hb
  | some d =>
    obtain ⟨h1, h2⟩ := lookup_filter hb
    have := h t b h2
    simp only [putS, List.getD_eq_getElem?_getD] at this ⊢
    rw [List.getElem?_set_ne (Ne.symm h1)]
    exact this

theorem wantS_sound {ops : List Oper} {dec dec' : Dec} {sl : List SV} {o : Oper} {b : Bool} (h : (wantS ops dec sl o).Is (b, dec')) (hd : DecOK dec sl) :
    wantB ops dec' sl o = some b ∧ DecOK dec' sl := by
  unfold wantS at h
  unfold wantB
  split at h
  · rename_i hg
    obtain ⟨rfl, rfl⟩ := Prod.mk.inj (show (_, _) = (_, _) from h)
    exact ⟨rfl, hd⟩
  · rename_i j want hg
    split at h
    · rename_i hj
      obtain ⟨rfl, rfl⟩ := Prod.mk.inj (show (_, _) = (_, _) from h)
      exact ⟨rfl, hd⟩
    · rename_i d hj
      split at h
      · rename_i c hc
        obtain ⟨rfl, rfl⟩ := Prod.mk.inj (show (_, _) = (_, _) from h)
        rw [hc]; exact ⟨rfl, hd⟩
      · rename_i hc
        obtain ⟨rfl, rfl⟩ := Prod.mk.inj (show (_, _) = (_, _) from h)
        rw [hc]; exact ⟨rfl, hd⟩
      · rename_i c hc
        have hsl : sl.getD d (.lit undef) = .lit (.bool c) := by
          unfold evD at hc
          simp only [] at hc
          split at hc
          · cases hc
          · exact hc
        rcases h with ⟨rfl, h⟩ | ⟨rfl, h⟩
        all_goals
          obtain ⟨rfl, rfl⟩ := Prod.mk.inj (show (_, _) = (_, _) from h)
          refine ⟨by simp [evD, Dec.get], fun t b hb => ?_⟩
          unfold Dec.get at hb
          rw [List.lookup_cons] at hb
          split at hb
          · rename_i ht
            have : t = d := by simpa using ht
            subst this
            cases hb
            exact hsl
          · exact hd t b hb
      · exact h.elim

theorem srun_sound {E : Env} {ops : List Oper} : ∀ (l : List Oper) (dec : Dec) (σ : List SV × Mem) (acc : List Step) (σ' : List SV × Mem) (steps : List Step),
    (srun E ops l dec σ acc).Is (σ', steps) → DecOK dec σ.1 →
      ∃ new, steps = acc.reverse ++ new ∧ new.map (·.o) = l ∧ LexOK E ops new σ ∧ σ' = new.foldl (fun σ s => s.app σ) σ
  | [], dec, σ, acc, σ', steps, h, hd => by
    obtain ⟨rfl, rfl⟩ := Prod.mk.inj (show (_, _) = (_, _) from h)
    exact ⟨[], by simp, rfl, trivial, rfl⟩
  | o :: rest, dec, σ, acc, σ', steps, h, hd => by
    obtain ⟨⟨b, dec'⟩, h1, h⟩ := T.is_bind h
    obtain ⟨out, h2, h⟩ := T.is_bind h
    obtain ⟨hw, hd'⟩ := wantS_sound h1 hd
    cases hlen : Nat.beq (msets σ.2 out.wr).length (σ.2.length + out.nn)
    · rw [hlen] at h; exact h.elim
    rw [hlen] at h
    simp only [cond_true] at h
    obtain ⟨new, e1, e2, e3, e4⟩ := srun_sound rest _ _ _ σ' steps h (decOK_forget hd')
    refine ⟨⟨o, σ.2.length, dec', out⟩ :: new, by simp [e1], by simp [e2], ⟨rfl, Nat.eq_of_beq_eq_true hlen, ⟨fun t _ b hb => hd' t b hb, ?_⟩, e3⟩, by simpa using e4⟩
    cases b
    · exact .inr ⟨hw, (show _ = _ from h2).symm⟩
    · exact .inl ⟨hw, h2⟩
end Go.RX
