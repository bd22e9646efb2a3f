/- Regions whose order is drawn: the theorem. -/
import Derived.Test.YtfcafajfllegaaaRXk
set_option linter.unusedVariables false
set_option linter.unusedSimpArgs false
namespace Go.RX
open Go Go.RowKit

def sat (steps : List Step) (σ : List SV × Mem) (i : Nat) : List SV × Mem := (steps.take i).foldl (fun σ s => s.app σ) σ

theorem mset_len (m : Mem) (b : Nat) (v : Option Blk) : m.length ≤ (mset m b v).length := by
  unfold mset; cases Nat.blt b m.length <;> simp <;> omega
theorem msets_len (wr : List (Nat × Option Blk)) : ∀ m : Mem, m.length ≤ (msets m wr).length := by
  induction wr with
  | nil => intro m; exact Nat.le_refl _
  | cons p wr ih => intro m; simp only [msets, List.foldl_cons] at ih ⊢; exact Nat.le_trans (mset_len m _ _) (ih _)

section
variable {E : Env} {ops : List Oper} {steps : List Step} {σ : List SV × Mem}

theorem lex_at : ∀ (steps : List Step) (σ : List SV × Mem), LexOK E ops steps σ → ∀ (i : Nat) (s : Step), steps[i]? = some s →
    s.nid = (sat steps σ i).2.length ∧ (s.app (sat steps σ i)).2.length = s.nid + s.out.nn ∧ StepOK E ops s (sat steps σ i)
  | [], _, _, i, s, h => by simp at h
  | u :: rest, σ, ⟨h1, h2, h3, h4⟩, i, s, h => by
    cases i with
    | zero => simp at h; subst h; exact ⟨h1, h2, h3⟩
    | succ i =>
      have := lex_at rest (u.app σ) h4 i s (by simpa using h)
      simpa [sat] using this

theorem sat_succ {i : Nat} {s : Step} (h : steps[i]? = some s) : sat steps σ (i + 1) = s.app (sat steps σ i) := by
  unfold sat
  rw [List.take_add_one, h]
  simp

theorem sat_mono (steps : List Step) (σ : List SV × Mem) {i j : Nat} (h : i ≤ j) : (sat steps σ i).2.length ≤ (sat steps σ j).2.length := by
  induction j with
  | zero => have : i = 0 := by omega
            subst this; exact Nat.le_refl _
  | succ j ih =>
    by_cases hij : i = j + 1
    · subst hij; exact Nat.le_refl _
    · refine Nat.le_trans (ih (by omega)) ?_
      cases hs : steps[j]? with
      | none =>
        have : steps.length ≤ j := by simpa using hs
        unfold sat
        rw [List.take_of_length_le this, List.take_of_length_le (by omega)]
        exact Nat.le_refl _
      | some s => rw [sat_succ hs]; exact msets_len _ _

theorem foldL_lt (i : Nat) (steps : List Step) (σ : List SV × Mem) : foldL (fun j => decide (j < i)) steps 0 σ = sat steps σ i := by
  conv => lhs; rw [← List.take_append_drop i steps]
  rw [foldL_append, foldL_every _ 0 σ (fun k hk => by simp at hk ⊢; omega)]
  rw [foldL_none]
  · rfl
  · intro k hk
    simp only [List.length_take, List.length_drop] at hk ⊢
    simp; omega

def DL (steps : List Step) (base : Nat) (L : Nat → Bool) (x : Nat) : Prop := x < base ∨ ∃ j s, steps[j]? = some s ∧ L j = true ∧ s.nid ≤ x ∧ x < s.nid + s.out.nn

def addL (L : Nat → Bool) (i : Nat) : Nat → Bool := fun j => L j || decide (j = i)

theorem wantB_congr {dec : Dec} {sl sl' : List SV} {o : Oper} (h : ∀ t ∈ o.looksAt ops.toArray, sl.getD t (.lit undef) = sl'.getD t (.lit undef)) : wantB ops dec sl o = wantB ops dec sl' o := by
  unfold wantB
  cases hg : o.guard with
  | none => rfl
  | some p =>
    obtain ⟨j, want⟩ := p
    cases hj : (ops[j]?).bind (·.dst) with
    | none => simp only [hj]
    | some d =>
      have hd : d ∈ o.looksAt ops.toArray := by unfold Oper.looksAt; rw [hg]; simp [hj]
      have : evD dec sl (.tmp d) = evD dec sl' (.tmp d) := by
        unfold evD
        simp only []
        cases dec.get d with
        | some b => rfl
        | none => exact h d hd
      simp only [hj, this]

variable {lv0 : Nat → Prop} {w0 w : World} {a : Act}

theorem draw_step {A : Anchor} (hE : EnvOK E) (hlex : LexOK E ops steps σ) (hord : ordFrom ops (bef ops []) [] 0 steps = true) {L : Nat → Bool}
    (hc : ∀ j o, ops[j]? = some o → L j = true → ∀ e ∈ o.after.toList, Region.binds .any e = true → L e.on = true)
    {i : Nat} {s : Step} (hs : steps[i]? = some s) (hLi : L i = false) (hanc : ∀ k, Anc ops i k → L k = true) {Q : Exit → Act → World → Prop}
    (hi : SInv A lv0 w0 (DL steps σ.2.length L) (foldL L steps 0 σ) a w) {K : Act → World → Prop}
    (hK : ∀ a' w', SInv A lv0 w0 (DL steps σ.2.length (addL L i)) (foldL (addL L i) steps 0 σ) a' w' → K a' w') :
    if Region.wanted s.o (yielded ops.toArray a.tmps) then s.o.wp E.P a w K Q ∨ (s.o.asks E.P a w ∧ LetsOut Q) else K (a.put s.o.dst undef) w := by
  obtain ⟨hn, hl, hok⟩ := lex_at steps σ hlex i s hs
  have hbef := bef_anc ops ops [] ⟨[], rfl, rfl⟩ (fun j i h => by simp at h)
  -- what meets the step is listed just if it stands ahead of it
  have hmeet : ∀ j u, steps[j]? = some u → confl ops u s = true → confl ops s u = true → L j = decide (j < i) := by
    intro j u hu c1 c2
    rcases Nat.lt_trichotomy j i with h | h | h
    · have := ordFrom_spec steps [] hord j i u s h (Nat.zero_le _) (by simpa using hu) (by simpa using hs) c1
      simp [h, hanc j (hbef _ _ this)]
    · subst h; simp [hLi]
    · have := ordFrom_spec steps [] hord i j s u h (Nat.zero_le _) (by simpa using hs) (by simpa using hu) c2
      have hno : L j = false := by
        cases hj : L j
        · rfl
        · rw [anc_listed hc (hbef _ _ this) hj] at hLi; cases hLi
      simp [hno]; omega
  have hslot : ∀ t ∈ s.o.looksAt ops.toArray, (foldL L steps 0 σ).1[t]? = (sat steps σ i).1[t]? := by
    intro t ht
    rw [← foldL_lt]
    refine foldL_slot t steps 0 σ σ rfl rfl fun k u hk hu => ?_
    rw [Nat.zero_add]
    exact hmeet k u hk (by simp [confl, meets_of hu ht]) (by simp [confl, meets_of hu ht])
  have hslot' : ∀ t ∈ s.o.looksAt ops.toArray, (foldL L steps 0 σ).1.getD t (.lit undef) = (sat steps σ i).1.getD t (.lit undef) := by
    intro t ht; rw [List.getD_eq_getElem?_getD, List.getD_eq_getElem?_getD, hslot t ht]
  have hmem : ∀ b ∈ s.out.rd, (sat steps σ i).2.fn b = (foldL L steps 0 σ).2.fn b := by
    intro b hb
    rw [← foldL_lt]
    refine (foldL_mem b steps 0 σ σ rfl fun k u hk hu => ?_).symm
    rw [Nat.zero_add]
    exact hmeet k u hk (by simp [confl, meets_of hu hb]) (by simp [confl, meets_of hb hu])
  have hbarm : ∀ (hb : s.out.bar = true) j u, steps[j]? = some u → memy u = true → L j = decide (j < i) := fun hb j u hu hm =>
    hmeet j u hu (by simp [confl, hb, hm]) (by simp [confl, hb, hm])
  have hall : s.out.bar = true → (sat steps σ i).2 = (foldL L steps 0 σ).2 := by
    intro hb
    rw [← foldL_lt]
    refine (foldL_all steps 0 σ σ rfl fun k u hk hu => ?_).symm
    rw [Nat.zero_add]
    exact hbarm hb k u hk (by unfold memy; cases hw : u.out.wr <;> simp_all)
  have hstep : StepOK E ops s (foldL L steps 0 σ) := by
    obtain ⟨h1, h2⟩ := hok
    refine ⟨fun t ht b hb => by rw [hslot' t ht]; exact h1 t ht b hb, ?_⟩
    rw [wantB_congr hslot']
    refine h2.imp (fun ⟨g1, g2⟩ => ⟨g1, ?_⟩) id
    refine sopX_mem ?_ hmem hall
    rw [sopX_congr E _ _ (ev' := evD s.dec (sat steps σ i).1) s.o.op (fun x hx => ?_)]
    · exact g2
    · cases x with
      | tmp t =>
        have ht : t ∈ s.o.looksAt ops.toArray := by
          unfold Oper.looksAt
          simp only [List.mem_append, List.mem_filterMap]
          exact .inl ⟨.tmp t, by simpa using hx, rfl⟩
        unfold evD
        simp only []
        cases s.dec.get t with
        | some b => rfl
        | none => exact hslot' t ht
      | const v => rfl
      | global g => rfl
      | func f => rfl
  refine step_wp hE hstep hi ?_ ?_ ?_
  · -- the new numbers are new
    rintro b h1 h2 (h3 | ⟨j, u, hu, hLj, h4, h5⟩)
    · have := sat_mono steps σ (Nat.zero_le i)
      simp only [sat, List.take_zero, List.foldl_nil] at this hn
      omega
    · obtain ⟨hn', hl', _⟩ := lex_at steps σ hlex j u hu
      rcases Nat.lt_trichotomy j i with h | h | h
      · have := sat_mono steps σ (show j + 1 ≤ i by omega)
        rw [sat_succ hu, hl'] at this
        omega
      · subst h; rw [hLi] at hLj; cases hLj
      · have := sat_mono steps σ (show i + 1 ≤ j by omega)
        rw [sat_succ hs, hl] at this
        omega
  · -- a step that must stand in its place
    intro hb
    refine ⟨by rw [← hall hb, hn], fun b => ⟨?_, fun hlt => ?_⟩⟩
    · rintro (h3 | ⟨j, u, hu, hLj, h4, h5⟩)
      · have := sat_mono steps σ (Nat.zero_le i)
        simp only [sat, List.take_zero, List.foldl_nil] at this hn
        omega
      · have hm : memy u = true := by
          unfold memy
          have : Nat.beq u.out.nn 0 = false := by
            cases h : Nat.beq u.out.nn 0
            · rfl
            · have := Nat.eq_of_beq_eq_true h; omega
          simp [this]
        have := hbarm hb j u hu hm
        rw [hLj] at this
        have hji : j < i := by simpa using this.symm
        obtain ⟨hn', hl', _⟩ := lex_at steps σ hlex j u hu
        have := sat_mono steps σ (show j + 1 ≤ i by omega)
        rw [sat_succ hu, hl'] at this
        omega
    · -- every number below is in use
      by_cases hbase : b < σ.2.length
      · exact .inl hbase
      · have key : ∀ k, k ≤ i → b < (sat steps σ k).2.length → ∃ j u, j < k ∧ steps[j]? = some u ∧ u.nid ≤ b ∧ b < u.nid + u.out.nn := by
          intro k
          induction k with
          | zero => intro _ h; simp only [sat, List.take_zero, List.foldl_nil] at h; omega
          | succ k ih =>
            intro hk h
            by_cases h' : b < (sat steps σ k).2.length
            · obtain ⟨j, u, h1, h2⟩ := ih (by omega) h'
              exact ⟨j, u, by omega, h2⟩
            · have hlen : k < steps.length := by
                have : i < steps.length := by rw [List.getElem?_eq_some_iff] at hs; exact hs.1
                omega
              have hk' : steps[k]? = some steps[k] := List.getElem?_eq_getElem hlen
              obtain ⟨hn', hl', _⟩ := lex_at steps σ hlex k _ hk'
              rw [sat_succ hk', hl'] at h
              exact ⟨k, _, by omega, hk', by omega, h⟩
        obtain ⟨j, u, h1, h2, h3, h4⟩ := key i (Nat.le_refl _) (by rw [← hn]; exact hlt)
        have hm : memy u = true := by
          unfold memy
          have : Nat.beq u.out.nn 0 = false := by
            cases h : Nat.beq u.out.nn 0
            · rfl
            · have := Nat.eq_of_beq_eq_true h; omega
          simp [this]
        exact .inr ⟨j, u, h2, by rw [hbarm hb j u h2 hm]; simp [h1], h3, h4⟩
  · -- what holds behind it
    intro a' w' h
    refine hK a' w' ?_
    obtain ⟨bs, h1, h2, h2x⟩ := h
    have hsplit : steps = steps.take i ++ s :: steps.drop (i + 1) := by
      have hlen : i < steps.length := by rw [List.getElem?_eq_some_iff] at hs; exact hs.1
      have : steps[i] = s := by rw [List.getElem?_eq_getElem hlen] at hs; simpa using hs
      rw [← this]; exact (List.take_append_drop i steps).symm.trans (by rw [List.drop_eq_getElem_cons hlen])
    have hlen : i < steps.length := by rw [List.getElem?_eq_some_iff] at hs; exact hs.1
    have hafter : foldL (addL L i) steps 0 σ = foldL (addL L i) (steps.drop (i + 1)) (i + 1) (s.app (foldL (addL L i) (steps.take i) 0 σ)) := by
      conv => lhs; rw [hsplit]
      rw [foldL_append, foldL]
      have e1 : 0 + (steps.take i).length = i := by simp; omega
      rw [e1]
      have e2 : addL L i i = true := by simp [addL]
      rw [e2, cond_true]
    have hdrop : ∀ k u, (steps.drop (i + 1))[k]? = some u → steps[i + 1 + k]? = some u := fun k u h => by simpa using h
    have e1 : (s.app (foldL L steps 0 σ)).1 = (foldL (addL L i) steps 0 σ).1 := by
      apply List.ext_getElem?
      intro t
      by_cases ht : t ∈ s.dsts
      · rw [hafter]
        rw [foldL_slot (L := addL L i) (L' := fun _ => false) t (steps.drop (i + 1)) (i + 1) _ (s.app (foldL (addL L i) (steps.take i) 0 σ)) rfl rfl
          (fun k u hk hu => by
            have hm := hmeet (i + 1 + k) u (hdrop k u hk) (by simp [confl, meets_of hu ht]) (by simp [confl, meets_of ht hu])
            have : ¬ (i + 1 + k < i) := by omega
            simp [addL, hm, this]; omega)]
        rw [foldL_none (L := fun _ => false) (steps.drop (i + 1)) (i + 1) _ (fun _ _ => rfl)]
        exact putS_get_same (by rw [foldL_len, foldL_len]) _ _ t ht
      · have : (s.app (foldL L steps 0 σ)).1[t]? = (foldL L steps 0 σ).1[t]? := putS_get _ _ _ t ht
        rw [this]
        refine foldL_slot t steps 0 σ σ rfl rfl fun k u hk hu => ?_
        rw [Nat.zero_add]
        have hki : k ≠ i := fun e => by subst e; rw [hs] at hk; cases hk; exact ht hu
        simp [addL, hki]
    have e2 : (s.app (foldL L steps 0 σ)).2.fn = (foldL (addL L i) steps 0 σ).2.fn := by
      funext b
      by_cases hb : b ∈ keys s.out.wr
      · rw [hafter]
        rw [foldL_mem (L := addL L i) (L' := fun _ => false) b (steps.drop (i + 1)) (i + 1) _ (s.app (foldL (addL L i) (steps.take i) 0 σ)) rfl
          (fun k u hk hu => by
            have hm := hmeet (i + 1 + k) u (hdrop k u hk) (by simp [confl, meets_of hu hb]) (by simp [confl, meets_of hb hu])
            have : ¬ (i + 1 + k < i) := by omega
            simp [addL, hm, this]; omega)]
        rw [foldL_none (L := fun _ => false) (steps.drop (i + 1)) (i + 1) _ (fun _ _ => rfl), app_fn, app_fn]
        exact mupd_same _ _ _ b (.inl hb)
      · rw [app_fn, mupd_not _ _ b hb]
        refine foldL_mem b steps 0 σ σ rfl fun k u hk hu => ?_
        rw [Nat.zero_add]
        have hki : k ≠ i := fun e => by subst e; rw [hs] at hk; cases hk; exact hb hu
        simp [addL, hki]
    rw [e2] at h1 h2 h2x
    rw [e1] at h2
    refine ⟨bs, h1.monoD fun x hx => ?_, h2, h2x⟩
    rcases hx with (hx | ⟨j, u, g1, g2, g3⟩) | hx
    · exact .inl hx
    · exact .inr ⟨j, u, g1, by simp [addL, g2], g3⟩
    · exact .inr ⟨i, s, hs, by simp [addL], hx⟩
end
end Go.RX
