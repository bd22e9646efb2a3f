/- Calls: bodies gone into, and contracts out of bodies. -/
import Derived.Test.YtfcafajfllegaaaRXm
set_option linter.unusedVariables false
set_option linter.unusedSimpArgs false
namespace Go.RX
open Go Go.RowKit

def resS (P : Program) (σ : St) : List ResultVar → Option (List SV)
  | [] => some []
  | .tmp t :: rest => (resS P σ rest).map (σ.1.getD t (.lit undef) :: ·)
  | .cell a t :: rest =>
    match σ.1.getD a (.lit undef) with
    | .ptr b off =>
      match σ.2.fn b with
      | some (.cells cs _) =>
        match partO P t cs off, resS P σ rest with
        | some s, some ss => some (s :: ss)
        | _, _ => none
      | _ => none
    | _ => none

def resV : List SV → SV
  | [x] => x
  | xs => .tup xs

/-- A call, by going into bodies at most n deep. -/
noncomputable def scall (P : Program) (con : FuncId → Option Con) (LL : FuncId → Loops) : Nat → FuncId → List SV → Mem → T (SV × Mem)
  | 0, _, _, _ => .stuck 110
  | n + 1, f, args, m =>
    match P.funcs[f]? with
    | some fn =>
      match fn.body with
      | some c => (sx ⟨P, con, scall P con LL n⟩ (LL f) m.length c (args ++ List.replicate (fn.ntmps - args.length) (.lit undef), m)).bind fun p =>
        match p.1 with
        | .exit _ => .stuck 111
        | _ => (optS 112 (resS P p.2 fn.results.toList)).bind fun vs => .ret (resV vs, p.2.2)
      | none => .stuck 113
    | none => .stuck 114

/-- A contract out of a body. -/
noncomputable def conB (P : Program) (con : FuncId → Option Con) (LL : FuncId → Loops) (n : Nat) (f : FuncId) : Con := fun args =>
  (scall P con LL n f args []).bind fun p => (optS 115 (viewS p.2.fn p.1)).bind fun q => .ret q.1

structure AllOK (P : Program) (con : FuncId → Option Con) (LL : FuncId → Loops) : Prop where
  mixed : P.follows .mixedOrders = true
  con : ∀ f c, con f = some c → ConOK P f c
  loops : ∀ f fn c, P.funcs[f]? = some fn → fn.body = some c → LoopsOK P (LL f) c

section
variable {P : Program} {con : FuncId → Option Con} {LL : FuncId → Loops}

theorem resS_sound {bs : Bs} {lv0 : Nat → Prop} {w0 w : World} {D : Nat → Prop} {σ : St} {a : Act} (hi : MInv lv0 w0 bs D σ.2.fn w) (hf : FInv bs (live lv0 bs σ.2.fn) w σ.1 a) :
    ∀ (l : List ResultVar) (ss : List SV), resS P σ l = some ss → ∃ vs : List Value, (l.mapM (fun | .tmp t => pure (a.tmps.getD t undef) | .cell x t => do loadVar t (← asAddr (a.tmps.getD x undef)) : ResultVar → Sem Value)).run P w = .ok vs w ∧ RepL bs (live lv0 bs σ.2.fn) w ss vs
  | [], ss, h => by simp only [resS, Option.some.injEq] at h; subst h; exact ⟨[], by simp, .nil⟩
  | .tmp t :: rest, ss, h => by
    simp only [resS, Option.map_eq_some_iff] at h
    obtain ⟨ss', h1, rfl⟩ := h
    obtain ⟨vs, h2, h3⟩ := resS_sound hi hf rest ss' h1
    refine ⟨a.tmps.getD t undef :: vs, ?_, .cons (hf.ev (.tmp t)) h3⟩
    rw [List.mapM_cons, Sem.run_bind, Sem.run_pure, Result.andThen_ok, Sem.run_bind, h2]; rfl
  | .cell x t :: rest, ss, h => by
    rw [resS] at h
    split at h
    · rename_i b off hx
      split at h
      · rename_i cs e hm
        split at h
        · rename_i s ss' hp hr
          cases h
          obtain ⟨vs, h2, h3⟩ := resS_sound hi hf rest ss' hr
          have hev := hf.ev (.tmp x)
          have hx' : ev σ.1 (.tmp x) = .ptr b off := hx
          rw [hx'] at hev
          obtain ⟨y, c, hb, hv⟩ := hev
          have hv' : a.tmps.getD x undef = .pointer (some ⟨y, off, none⟩) := hv
          obtain ⟨y', c', us, hb', ho, hr'⟩ := hi.blk _ _ hm
          rw [hb] at hb'; cases hb'
          obtain ⟨v, hv1, hv2⟩ := run_loadVar_cells (off := off) ho (by simpa using hr') hp
          refine ⟨v :: vs, ?_, .cons hv2 h3⟩
          have hcell : (do loadVar t (← asAddr (a.tmps.getD x undef)) : Sem Value).run P w = .ok v w := by
            rw [Sem.run_bind, hv']
            exact hv1
          rw [List.mapM_cons, Sem.run_bind]
          show ((do loadVar t (← asAddr (a.tmps.getD x undef)) : Sem Value).run P w).andThen _ = _
          rw [hcell, Result.andThen_ok, Sem.run_bind, h2]; rfl
        · cases h
      · cases h
    · cases h

theorem results_run {bs : Bs} {lv0 : Nat → Prop} {w0 w : World} {D : Nat → Prop} {σ : St} {a : Act} {fn : Func} {vs : List SV} (hi : MInv lv0 w0 bs D σ.2.fn w) (hf : FInv bs (live lv0 bs σ.2.fn) w σ.1 a)
    (h : resS P σ fn.results.toList = some vs) : ∃ v, (results fn a.tmps).run P w = .ok v w ∧ Rep bs (live lv0 bs σ.2.fn) w (resV vs) v := by
  obtain ⟨us, h1, h2⟩ := resS_sound hi hf _ _ h
  have hrun : (results fn a.tmps).run P w = .ok (if h : us.toArray.size = 1 then us.toArray[0] else .tuple us.toArray) w := by
    unfold results
    rw [Sem.run_bind, Array.mapM_eq_mapM_toList, Sem.run_map]
    have : (fn.results.toList.mapM (fun | .tmp t => pure (a.tmps.getD t undef) | .cell x t => do loadVar t (← asAddr (a.tmps.getD x undef)) : ResultVar → Sem Value)).run P w = .ok us w := h1
    erw [this]
    rfl
  refine ⟨_, hrun, ?_⟩
  cases vs with
  | nil => cases h2; exact ⟨[], rfl, .nil⟩
  | cons s vs =>
    obtain ⟨u, us', rfl, h3, h4⟩ := h2
    cases vs with
    | nil => cases h4; exact h3
    | cons t vs =>
      obtain ⟨u', us'', rfl, h5, h6⟩ := h4
      exact ⟨u :: u' :: us'', by simp, .cons h3 (.cons h5 h6)⟩

theorem scall_le : ∀ (n : Nat) (f : FuncId) (args : List SV) (m m' : Mem) (r : SV), (scall P con LL n f args m).Is (r, m') → Le m m'
  | 0, f, args, m, m', r, h => h.elim
  | n + 1, f, args, m, m', r, h => by
    unfold scall at h
    split at h
    · split at h
      · obtain ⟨⟨ex, σ'⟩, h1, h2⟩ := T.is_bind h
        have g := sx_le (E := ⟨P, con, scall P con LL n⟩) (fun f args m m' r h => scall_le n f args m m' r h) _ _ _ h1
        cases ex with
        | exit i => exact h2.elim
        | normal =>
          obtain ⟨vs, h3, h4⟩ := T.is_bind h2
          obtain ⟨rfl, rfl⟩ := Prod.mk.inj (show (_, _) = (_, _) from h4)
          exact g
        | ret =>
          obtain ⟨vs, h3, h4⟩ := T.is_bind h2
          obtain ⟨rfl, rfl⟩ := Prod.mk.inj (show (_, _) = (_, _) from h4)
          exact g
      · exact h.elim
    · exact h.elim

theorem scall_ok (hA : AllOK P con LL) : ∀ (n : Nat) (f : FuncId), InlOK P f (scall P con LL n f)
  | 0, f => ⟨fun args m m' r h => h.elim, fun args m m' r h => h.elim⟩
  | n + 1, f => by
    refine ⟨scall_le (n + 1) f, ?_⟩
    intro args m m' r h lv0 w0 w bs vals hi hr
    unfold scall at h
    split at h
    · rename_i fn hfn
      split at h
      · rename_i c hc
        obtain ⟨⟨ex, σ'⟩, h1, h2⟩ := T.is_bind h
        have hE : EnvOK ⟨P, con, scall P con LL n⟩ := ⟨hA.con, fun f => scall_ok hA n f⟩
        have hlen := hr.length
        have hS : SInv ⟨bs, live lv0 bs m.fn, w, m.length, fun b hb => (hi.dom b (Nat.not_lt.2 hb)).1⟩ lv0 w0 (· < m.length) (args ++ List.replicate (fn.ntmps - args.length) (.lit undef), m)
            { tmps := vals.toArray ++ Array.replicate (fn.ntmps - vals.toArray.size) undef, defers := [] } w := by
          refine ⟨bs, hi, ⟨?_, rfl⟩, Ext.refl _ _ _⟩
          have e : (vals.toArray ++ Array.replicate (fn.ntmps - vals.toArray.size) undef).toList = vals ++ List.replicate (fn.ntmps - args.length) undef := by simp [hlen]
          rw [e]
          exact hr.append (RepL.replicate_lit _ _)
        have hwp := sx_sound (E := ⟨P, con, scall P con LL n⟩) hA.mixed hE c _ _ h1 (hA.loops f fn c hfn hc) _ lv0 w0 _ w (Nat.le_refl _) hS
        refine calls_of_wp hfn hc (wp_mono hwp ?_)
        rintro e a' w' ⟨rfl, bs', g1, g2, g3⟩
        simp only [] at h2
        cases ex with
        | exit i => exact h2.elim
        | normal =>
          obtain ⟨vs, h3, h4⟩ := T.is_bind h2
          obtain ⟨rfl, rfl⟩ := Prod.mk.inj (show (_, _) = (_, _) from h4)
          obtain ⟨v, hv1, hv2⟩ := results_run g1 g2 (optS_is h3)
          exact ⟨g2.defers, v, hv1, v, bs', rfl, g1, g3, hv2⟩
        | ret =>
          obtain ⟨vs, h3, h4⟩ := T.is_bind h2
          obtain ⟨rfl, rfl⟩ := Prod.mk.inj (show (_, _) = (_, _) from h4)
          obtain ⟨v, hv1, hv2⟩ := results_run g1 g2 (optS_is h3)
          exact ⟨g2.defers, v, hv1, v, bs', rfl, g1, g3, hv2⟩
      · exact h.elim
    · exact h.elim

theorem minv_start (lv : Nat → Prop) (w : World) (hlv : ∀ x, lv x → x < w.heap.size) : MInv lv w (fun _ => none) (· < 0) (Mem.fn []) w where
  below := Below.refl _ _
  amb := hlv
  rng := fun b x c h => by cases h
  inj := fun b b' k k' x c c' h => by simp [Mem.fn] at h
  blk := fun b k h => by simp [Mem.fn] at h
  dom := fun b _ => ⟨rfl, by simp [Mem.fn]⟩

theorem conB_ok (hA : AllOK P con LL) (n : Nat) (f : FuncId) : ConOK P f (conB P con LL n f) := by
  intro args r h lv w vals hlv hr
  obtain ⟨⟨sv, m'⟩, h1, h⟩ := T.is_bind h
  obtain ⟨q, h2, h3⟩ := T.is_bind h
  obtain rfl : q.1 = r := h3
  have hlive : ∀ x, live lv (fun _ => none) (Mem.fn []) x → lv x := fun x h => by
    rcases h with h | ⟨b, k, c, h1, h2⟩
    · exact h
    · cases h2
  have hr' : RepL (fun _ => none) (live lv (fun _ => none) (Mem.fn [])) w args vals :=
    RepL.ext (fun _ _ h => h) (fun x _ hx => hlive x hx) (fun _ _ _ => rfl) (Nat.le_refl _) _ _ hr
  refine ((scall_ok hA n f).2 args [] m' sv h1 lv w w (fun _ => none) vals (minv_start lv w hlv) hr').mono ?_
  rintro e w' ⟨v, bs', rfl, g1, g2, g3⟩
  refine ⟨v, rfl, g1.below, ?_⟩
  refine viewS_sound g1 lv (fun x hx => .inl hx) sv q.1 q.2 v (optS_is h2) (fun b hb x c hbx hx => ?_) g3
  have := (g1.rng b x c hbx).1
  have := hlv x hx
  omega

theorem con_of (hA : AllOK P con LL) (n : Nat) (f : FuncId) {c : Con} (h : ∀ args r, (c args).Is r → T.All (· = r) (conB P con LL n f args)) : ConOK P f c := by
  intro args r hc
  obtain ⟨r', h1, h2⟩ := T.is_of_all (h args r hc)
  subst h2
  exact conB_ok hA n f args _ h1
end
end Go.RX
