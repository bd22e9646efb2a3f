/- The rule of a loop over a function: all rounds. -/
import Derived.Test.YtoncmmlgpecklaaQKb
import Derived.Deep.Slices
import Derived.ChangeArms
set_option linter.unusedVariables false
set_option linter.unusedSimpArgs false
namespace Go.RX
open Go Go.RowKit

theorem enter_loop {P : Program} {w : World} {ro : Option Nat} (h : ∀ l0, ro = some l0 → ∃ r, w.heap[l0]? = some (.loop r)) (fn : FuncId) (tm : Array Value) (ps : Array Tmp) (assign body : Code) :
    ∃ l mk W1 df, (Instr.enterLoop fn tm ps assign body ro).run P w = .ok (l, mk) W1 ∧ Below w.heap.size w W1 ∧ w.heap.size ≤ l ∧ l < W1.heap.size ∧
      W1.heap[l]? = some (.loop { state := .ready, pending := none, fn, tmps := tm, params := ps, assign, body, defers := df }) ∧
      (mk = [] ∨ ∃ D, mk = [mark D] ∧ w.heap.size ≤ D ∧ D < W1.heap.size ∧ D ≠ l ∧ W1.heap[D]? = some (.deferred (some []))) := by
  cases ro with
  | none =>
    refine ⟨w.heap.size + 1, [mark w.heap.size], _, w.heap.size, run_enterLoop_outer fn tm ps assign body, ((Below.refl _ w).alloc (Nat.le_refl _) _).alloc (by simp) _, by omega, by simp, ?_, .inr ⟨w.heap.size, rfl, Nat.le_refl _, by simp; omega, by omega, ?_⟩⟩
    · have := World.alloc_heap_new (w.alloc (.deferred (some []))) (.loop { state := .ready, pending := none, fn, tmps := tm, params := ps, assign, body, defers := w.heap.size })
      rwa [World.size_alloc] at this
    · exact (Below.heap_alloc _ _ _ (by simp)).trans (World.alloc_heap_new w _)
  | some l0 =>
    obtain ⟨r, hr⟩ := h l0 rfl
    exact ⟨w.heap.size, [], _, r.defers, run_enterLoop_inner hr fn tm ps assign body, (Below.refl _ w).alloc (Nat.le_refl _) _, Nat.le_refl _, by simp, World.alloc_heap_new w _, .inl rfl⟩

theorem CInv.fin {n0 : Nat} {lv1 : Am} {w0 : World} {bs1 : Bs} {L1 : Nat → Prop} {W1 : World} {l : Nat} {KL : Nat → Prop} {sl : List SV} {tmps : List Value} {m : Mem} {o : Obj} {V : Nat → Prop} {W : World}
    (h : CInv n0 lv1 w0 bs1 L1 W1 l KL sl tmps m o V W) (hw : w0.heap.size ≤ l) (hL1 : L1 l) (hlv1 : ∀ x, lv1 x → x < W1.heap.size ∧ x ≠ l) (hf1 : ∀ x o, lv1.fix x = some o → lv1 x) (o' : Obj) :
    ∃ bs lvi, Grow lv1 lvi ∧ MInv lvi w0 bs (· < m.length) m.fn (W.putObj l o') ∧ RepL bs (live lvi bs m.fn) (W.putObj l o') sl tmps ∧ Ext (cut n0 bs1) L1 W1 bs (live lvi bs m.fn) (W.putObj l o') := by
  obtain ⟨h1, h2, bs, lvi, h3, h4, h5, h6, h7, h8⟩ := h
  obtain ⟨k1, k2⟩ := h6.refix amT_fix_l hw o'
  obtain ⟨g1, g2⟩ := k1.less (a' := lvi) (fun x hx => .inl hx) rfl rfl (fun x o'' hx => by
      have hx1 : lv1 x := hf1 x o'' (by rw [← h3.fix]; exact hx)
      obtain ⟨g1, g2⟩ := hlv1 x hx1
      refine ⟨h3.lv x hx1, ?_⟩
      rw [Am.refix_o g2, amT_fix_o g2 (fun h => absurd h.1 (by omega))]; exact hx)
    (fun x hx hn => by
      have hne : x ≠ l := fun e => by rw [e, Am.refix_l] at hn; cases hn
      rw [Am.refix_o hne] at hn
      have hTx : ¬ (W1.heap.size ≤ x ∧ x < W.heap.size ∧ ¬ V x) := fun h => by
        rw [amT_fix_T hne h] at hn
        obtain ⟨o', ho'⟩ := heap_some h.2.1
        rw [ho'] at hn; cases hn
      rw [amT_fix_o hne hTx] at hn
      refine ⟨?_, hn⟩
      rcases hx with ha | ha | ha
      · exact ha
      · exact absurd ha hTx
      · exact absurd ha hne)
  refine ⟨bs, lvi, h3, g1, g2 _ _ (k2 _ _ h7), ?_⟩
  have := h8.putObj (.inl hL1) o'
  exact ⟨this.hbs, fun x hx hl => this.hlv x hx (hl.imp (fun h => .inl h) id), this.heap, this.size⟩

set_option maxHeartbeats 1000000 in
theorem range_rule {E : Env} {L : Loops} (hm : E.P.follows .mixedOrders = true) (hE : EnvOK E) {g : Operand} {ps : Array Tmp} {assign body : Code} (hLa : LoopsOK E.P L assign) (hLb : LoopsOK E.P L body)
    {n0 n : Nat} {el : Nat → List Value} {sl : List SV} {M : Nat → Mem} {Pre : Nat → Prop} {Z : Ex × St → Prop} (size : ∀ i, i < n → (el i).length = ps.size) (len : ∀ i, n0 ≤ (M i).length) (pre0 : Pre 0)
    (round : ∀ i, i < n → Pre i → (sxR E L (M i).length ps assign body (el i) (sl, M i)).All fun r => match r.1 with
      | .normal => Pre (i + 1) ∧ Weak n0 (sl, r.2.2) (sl, M (i + 1))
      | e => Z (e, (sl, r.2.2)))
    (done : Pre n → Z (.normal, (sl, M n)))
    {A : Anchor} {lv0 lv1 : Am} {bs : Bs} {w0 : World} {a : Act} {w : World} {gf : FuncId} {lb : List Value} (hA : A.n ≤ n0) (hg : a.eval g = .func (.func gf) #[] lb.toArray) (hb : bodyOk E.P gf = true) (hgr : Grow lv0 lv1)
    (hi : MInv lv1 w0 bs (· < (M 0).length) (M 0).fn w) (hf : FInv bs (live lv1 bs (M 0).fn) w sl a) (hx : Ext A.bs A.lv A.w bs (live lv1 bs (M 0).fn) w) (hs : Side A lv0 (live lv1 bs (M 0).fn) w a.defers)
    (hseq : ∀ (W : World) (K : Cons), Below w.heap.size w W → ConsOK K → K.P = E.P → K.n = n → K.el = el → K.B = W.heap.size → (∀ x, K.lv x → x < W.heap.size ∧ (x < w.heap.size → live lv1 bs (M 0).fn x)) → K.C 0 K.lv W →
      Calls E.P gf (.func (.yield K.l) #[] #[] :: lb).toArray W fun e W' => (∃ v, e = .returned v) ∧ ∃ go i V, SeqAt K go i ∧ (go = true → i = K.n) ∧ K.C i V W' ∧ Turn K.lv W W') :
    (Code.rangeFunc g ps assign body).wpIn (Fr A.ro) 3 E.P (fun e a' w' => ∃ o, Z o ∧ e = o.1.out ∧ SInv A lv0 w0 (· < o.2.2.length) o.2 a' w') a w := by
  refine wpIn_rangeFunc ?_
  intro fn _
  obtain ⟨l, mk, W1, df, e1, e2, e3, e4, e5, e6⟩ := enter_loop (P := E.P) (ro := A.ro) (w := w) (fun l0 h0 => by
    obtain ⟨r, hr⟩ := hs.2 l0 h0
    exact ⟨r, (hi.fixed l0 _ (by rw [hgr.fix]; exact hr)).2⟩) fn a.tmps ps assign body
  obtain ⟨rec, hrec⟩ : ∃ rec : LoopState → Option Code → Loop, rec = fun st pe => { state := st, pending := pe, fn, tmps := a.tmps, params := ps, assign, body, defers := df } := ⟨_, rfl⟩
  have hL : W1.heap[l]? = some (.loop (rec .ready none)) := by rw [hrec]; exact e5
  have hww : w0.heap.size ≤ w.heap.size := hi.below.size
  -- the rounds
  have ch : ∀ i, ∃ r : Ex × St, i < n → Pre i → (sxR E L (M i).length ps assign body (el i) (sl, M i)).Is r ∧ (match r.1 with
      | .normal => Pre (i + 1) ∧ Weak n0 (sl, r.2.2) (sl, M (i + 1))
      | e => Z (e, (sl, r.2.2))) := fun i => by
    by_cases h : i < n ∧ Pre i
    · obtain ⟨r, h1, h2⟩ := T.is_of_all (round i h.1 h.2)
      exact ⟨r, fun _ _ => ⟨h1, h2⟩⟩
    · exact ⟨(.normal, (sl, M 0)), fun h1 h2 => absurd ⟨h1, h2⟩ h⟩
  obtain ⟨r, hr⟩ := Classical.axiomOfChoice ch
  obtain ⟨stM, hM0, hM1⟩ : ∃ stM : Nat → Mem, stM 0 = M 0 ∧ ∀ i, stM (i + 1) = if isN (r i).1 then M (i + 1) else (r i).2.2 := ⟨fun i => match i with | 0 => M 0 | i + 1 => if isN (r i).1 then M (i + 1) else (r i).2.2, rfl, fun _ => rfl⟩
  obtain ⟨jmp, hj0, hj1⟩ : ∃ jmp : Nat → Option Code, jmp 0 = none ∧ ∀ i, jmp (i + 1) = jumpOf (r i).1 := ⟨fun i => match i with | 0 => none | i + 1 => jumpOf (r i).1, rfl, fun _ => rfl⟩
  have before : ∀ i, i ≤ n → (∀ j, j < i → isN (r j).1 = true) → Pre i ∧ stM i = M i ∧ jmp i = none := by
    intro i
    induction i with
    | zero => intro _ _; exact ⟨pre0, hM0, hj0⟩
    | succ i ih =>
      intro hin hall
      have hn := hall i (Nat.lt_succ_self _)
      obtain ⟨p1, p2⟩ := hr i (by omega) (ih (by omega) (fun j hj => hall j (by omega))).1
      rw [hM1, hj1, hn]
      cases hex : (r i).1 with
      | normal => rw [hex] at p2; exact ⟨p2.1, rfl, rfl⟩
      | exit id => rw [hex] at hn; cases hn
      | ret => rw [hex] at hn; cases hn
  -- the consumer
  obtain ⟨am1, ham1⟩ : ∃ am1, am1 = amT lv1 W1.heap.size (fun x => live lv1 bs (M 0).fn x ∨ x = l) l (.loop (rec .ready none)) W1 := ⟨_, rfl⟩
  obtain ⟨L1, hL1⟩ : ∃ L1, L1 = live am1 bs (M 0).fn := ⟨_, rfl⟩
  have hlv1 : ∀ x, lv1 x → x < W1.heap.size ∧ x ≠ l := fun x hx => ⟨Nat.lt_of_lt_of_le (hi.amb x hx) e2.size, fun e => by have := hi.amb x hx; omega⟩
  have ham : ∀ x, am1 x ↔ lv1 x ∨ x = l := fun x => by
    rw [ham1]
    constructor
    · rintro (h | h | h)
      · exact .inl h
      · omega
      · exact .inr h
    · rintro (h | h)
      · exact .inl h
      · exact .inr (.inr h)
  have hL1i : ∀ x, L1 x ↔ live lv1 bs (M 0).fn x ∨ x = l := fun x => by
    rw [hL1]
    constructor
    · rintro (h | h)
      · exact ((ham x).1 h).imp .inl id
      · exact .inl (.inr h)
    · rintro ((h | h) | h)
      · exact .inl ((ham x).2 (.inl h))
      · exact .inr h
      · exact .inl ((ham x).2 (.inr h))
  obtain ⟨K, hK⟩ : ∃ K : Cons, K = { P := E.P, n := n, el := el, ans := fun i => isN (r i).1, l := l, B := W1.heap.size, lv := (fun x => live lv1 bs (M 0).fn x ∨ x = l), C := fun i V W => CInv n0 lv1 w0 bs L1 W1 l (fun x => live lv1 bs (M 0).fn x ∨ x = l) sl a.tmps.toList (stM i) (.loop (rec (if (jmp i).isNone then .ready else .done) (jmp i))) V W } := ⟨_, rfl⟩
  have hKok : ConsOK K := by
    rw [hK]
    refine ⟨fun i V W W' h ht => CInv.stab h e4 (Nat.le_trans hww e2.size) ht, fun i V W h => h.vlt, fun i V W hin hall h => ?_⟩
    obtain ⟨b1, b2, b3⟩ := before i (Nat.le_of_lt hin) hall
    obtain ⟨p1, p2⟩ := hr i hin b1
    simp only [b2, b3] at h
    have hwk : match (r i).1 with | .normal => Weak n0 (sl, (r i).2.2) (sl, stM (i + 1)) | _ => stM (i + 1) = (r i).2.2 := by
      rw [hM1]
      cases hex : (r i).1 with
      | normal => rw [hex] at p2; exact p2.2
      | exit id => rfl
      | ret => rfl
    have := CInv.round hm hE hLa hLb hrec p1 hwk (len i) (size i hin) h e4 (by omega) (.inr rfl) (fun x hx => (hL1i x).1 hx) hlv1
    simp only [hj1]
    exact this
  have hC0 : K.C 0 K.lv W1 := by
    rw [hK]
    simp only [hM0, hj0]
    have hsh := hi.shift (a' := am1) (X := fun _ => False) (Turn.of_below e2) (fun x hx => hx.elim) (fun x hx => hx.elim) (fun x hx => hx.elim)
      (fun x hx => (ham x).2 (.inl hx)) (fun x hxs hx => ((ham x).1 hx).elim id (fun e => by omega)) (fun x hx => ((ham x).1 hx).elim (fun h => (hlv1 x h).1) (fun e => by omega)) (by rw [ham1]; rfl) (by rw [ham1]; rfl)
      (fun x o hx => by
        by_cases hne : x = l
        · rw [hne, ham1, amT_fix_l] at hx; cases hx
          rw [hne]; exact ⟨(ham l).2 (.inr rfl), hL⟩
        · rw [ham1, amT_fix_o hne (fun h => by omega)] at hx
          have := hi.fixed x o hx
          exact ⟨(ham x).2 (.inl this.1), (e2.block x (hi.amb x this.1)).trans this.2⟩)
      (fun x hx hn => by
        have hne : x ≠ l := (hlv1 x hx).2
        rw [ham1, amT_fix_o hne (fun h => by omega)]; exact hn)
    obtain ⟨g1, g2⟩ := hsh
    refine ⟨fun x hx => ?_, fun x hx => hx, bs, lv1, .refl _, fun x hx => .inl (.inl hx), fun b x hbx => .inl (Nat.lt_of_lt_of_le (hi.rngO b x hbx).2 e2.size), ?_, ?_, ?_⟩
    · rcases hx with hx | hx
      · exact ⟨Nat.lt_of_lt_of_le (live_lt hi hx) e2.size, .inl (.inl hx)⟩
      · exact ⟨by omega, .inl (.inr hx)⟩
    · rw [ham1] at g1; exact g1
    · have := g2 _ _ hf.rep; rw [ham1] at this; exact this
    · rw [hL1, ham1]; exact (Ext.refl _ _ _).cut
  have hcall := hseq W1 K e2 hKok (by rw [hK]) (by rw [hK]) (by rw [hK]) (by rw [hK]) (fun x hx => by
    rw [hK] at hx
    rcases hx with hx | hx
    · exact ⟨Nat.lt_of_lt_of_le (live_lt hi hx) e2.size, fun _ => hx⟩
    · exact ⟨by omega, fun h => by omega⟩) hC0
  refine ⟨l, mk, W1, { target := .fn (.func gf) lb.toArray, args := #[.func (.yield l) #[] #[]] }, W1, gf, (.func (.yield l) #[] #[] :: lb).toArray, W1, e1, ?_, fun _ _ => trivial, ?_, fun h => absurd h (by simp [Fr, Fence.wide]), callsIn_fr.2 ?_⟩
  · simp only [resolve, Deferred.ofValue, hg, Sem.run_bind, Sem.run_pure, Result.andThen_ok]
    simp [Act.eval]
  · simp only [invoke]
    rw [run_callFunc hb]
    congr 2
    apply Array.ext'
    simp
  have hKl : K.l = l := by rw [hK]
  rw [hKl] at hcall
  refine hcall.mono ?_
  rintro e W2 ⟨⟨v, rfl⟩, go, i, V, hat, hgo, hc, ht⟩
  rw [hK] at hc hat hgo
  -- what holds behind the loop
  have hend : ∀ (m : Mem) (j : Option Code) (st : LoopState), CInv n0 lv1 w0 bs L1 W1 l (fun x => live lv1 bs (M 0).fn x ∨ x = l) sl a.tmps.toList m (.loop (rec st j)) V W2 → st ≠ .busy →
      ∃ w4, (Instr.endLoop l).run E.P W2 = .ok j w4 ∧ SInv A lv0 w0 (· < m.length) (sl, m) { a with defers := mk ++ a.defers } w4 := by
    intro m j st hcc hst
    obtain ⟨bs2, lvi2, _, _, _, hm2, _, hx2⟩ := hcc.ex
    have hl2 := (hm2.fixed l _ amT_fix_l).2
    have hrun := run_endLoop (P := E.P) hl2 (by rw [hrec]; exact hst)
    obtain ⟨bs3, lv3, k1, k2, k3, k4⟩ := hcc.fin (by omega) ((hL1i l).2 (.inr rfl)) hlv1 (fun x o hx => (hi.fixed x o hx).1) (.loop { rec st j with state := .exhausted })
    refine ⟨W2.putObj l (.loop { rec st j with state := .exhausted }), ?_, bs3, lv3, hgr.trans k1, k2, ⟨k3⟩, ?_, ?_⟩
    · rw [hrun, hrec]
    · refine ⟨fun b x hbx => ?_, fun x hxs hlx => ?_, fun x hxs hlx => ?_, Nat.le_trans hx.size (Nat.le_trans e2.size k4.size)⟩
      · have hbn : b < n0 := by
          rcases Nat.lt_or_ge b n0 with h | h
          · exact h
          · rw [A.dom b (by omega)] at hbx; cases hbx
        exact k4.hbs b x (by rw [cut_lt hbn]; exact hx.hbs b x hbx)
      · have hxw : x < w.heap.size := Nat.lt_of_lt_of_le hxs hx.size
        exact hx.hlv x hxs (((hL1i x).1 (k4.hlv x (Nat.lt_of_lt_of_le hxw e2.size) hlx)).elim id (fun e => by omega))
      · have hxw : x < w.heap.size := Nat.lt_of_lt_of_le hxs hx.size
        refine (k4.heap x (Nat.lt_of_lt_of_le hxw e2.size) fun h => ?_).trans ((e2.block x hxw).trans (hx.heap x hxs hlx))
        rcases (hL1i x).1 h with h | h
        · exact hlx (hx.hlv x hxs h)
        · omega
    · refine ⟨?_, hs.2⟩
      have old : ∀ d ∈ a.defers, ∃ x, d = mark x ∧ x < w.heap.size ∧ A.w.heap.size ≤ x ∧ x < (W2.putObj l (.loop { rec st j with state := .exhausted })).heap.size ∧ ¬ live lv3 bs3 m.fn x ∧ (W2.putObj l (.loop { rec st j with state := .exhausted })).heap[x]? = some (.deferred (some [])) := fun d hd => by
        obtain ⟨x, g1, g2, g3, g4, g5⟩ := hs.1.2 d hd
        have hx1 : x < W1.heap.size := Nat.lt_of_lt_of_le g3 e2.size
        have hn : ¬ L1 x := fun h => ((hL1i x).1 h).elim g4 (fun e => by omega)
        exact ⟨x, g1, g3, g2, Nat.lt_of_lt_of_le hx1 k4.size, fun h => hn (k4.hlv x hx1 h), (k4.heap x hx1 hn).trans ((e2.block x g3).trans g5)⟩
      rcases e6 with rfl | ⟨D, rfl, d1, d2, d3, d4⟩
      · exact ⟨hs.1.1, fun d hd => by obtain ⟨x, g1, _, g2⟩ := old d hd; exact ⟨x, g1, g2⟩⟩
      · refine ⟨List.nodup_cons.2 ⟨fun hd => ?_, hs.1.1⟩, fun d hd => ?_⟩
        · obtain ⟨x, g1, g2, _⟩ := old _ hd
          have : D = x := by simpa [mark] using g1
          omega
        · rcases List.mem_cons.1 hd with rfl | hd
          · have hn : ¬ L1 D := fun h => ((hL1i D).1 h).elim (fun h => by have := live_lt hi h; omega) d3
            exact ⟨D, rfl, by have := hx.size; omega, Nat.lt_of_lt_of_le d2 k4.size, fun h => hn (k4.hlv D d2 h), (k4.heap D d2 hn).trans d4⟩
          · obtain ⟨x, g1, _, g2⟩ := old d hd; exact ⟨x, g1, g2⟩
  cases go with
  | true =>
    have hin : i = n := hgo rfl
    obtain ⟨b1, b2, b3⟩ := before i (by omega) hat.2
    simp only [b2, b3] at hc
    obtain ⟨w4, h1, h2⟩ := hend _ _ _ hc (by simp)
    subst hin
    exact ⟨none, w4, h1, _, done b1, rfl, h2⟩
  | false =>
    obtain ⟨j, q1, rfl, q2, q3⟩ := hat
    obtain ⟨b1, b2, b3⟩ := before j (Nat.le_of_lt q1) q3
    obtain ⟨p1, p2⟩ := hr j q1 b1
    simp only [hM1, hj1, q2] at hc
    cases hex : (r j).1 with
    | normal => simp only [hex] at q2; cases q2
    | exit id =>
      rw [hex] at p2
      simp only [hex] at hc
      obtain ⟨w4, h1, h2⟩ := hend _ _ _ hc (by simp [jumpOf])
      exact ⟨some (.exit id), w4, h1, wpIn_exit ⟨_, p2, rfl, h2⟩⟩
    | ret =>
      rw [hex] at p2
      simp only [hex] at hc
      obtain ⟨w4, h1, h2⟩ := hend _ _ _ hc (by simp [jumpOf])
      exact ⟨some .ret, w4, h1, wpIn_ret ⟨_, p2, rfl, h2⟩⟩
end Go.RX
namespace Go.RX
open Go Go.RowKit

/-- A summary of a loop over a function, by a few slots. -/
noncomputable def rfew (N : Nat) (keep : List Nat) (g : Nat → Nat → (Nat → List Value) → Few → T (Ex × Few)) : Nat → Nat → (Nat → List Value) → St → T (Ex × St) := fun n0 n el σ =>
  (proj N keep (.normal, σ)).bind fun s => (g n0 n el s.2).bind fun r => .ret (r.1, (mkS N keep r.2.1, r.2.2))

theorem few_mkS {N : Nat} : ∀ (keep : List Nat) (vs : List SV), nodupB keep = true → (∀ k ∈ keep, k < N) → vs.length = keep.length → fewS keep (mkS N keep vs) = vs := by
  intro keep vs hn hk hl
  apply List.ext_getElem?
  intro i
  unfold fewS
  rw [List.getElem?_map]
  by_cases hi : i < keep.length
  · have h1 : keep[i]? = some keep[i] := List.getElem?_eq_getElem hi
    have h2 : vs[i]? = some (vs[i]'(by omega)) := List.getElem?_eq_getElem (by omega)
    rw [h1, h2, Option.map_some]
    congr 1
    have hlt : keep[i] < N := hk _ (List.getElem_mem hi)
    have e : (mkS N keep vs).getD keep[i] .any = (List.lookup keep[i] (keep.zip vs)).getD .any := by simp [mkS, hlt]
    rw [e]
    have : ∀ (keep : List Nat) (vs : List SV) (i : Nat) (hi : i < keep.length) (hv : i < vs.length), nodupB keep = true → List.lookup keep[i] (keep.zip vs) = some vs[i] := by
      intro keep
      induction keep with
      | nil => intro vs i hi; simp at hi
      | cons k ks ih =>
        intro vs i hi hv hn
        cases vs with
        | nil => simp at hv
        | cons v vs =>
          simp only [nodupB, Bool.and_eq_true, Bool.not_eq_true', List.any_eq_false] at hn
          rw [List.zip_cons_cons, List.lookup_cons]
          cases i with
          | zero => simp
          | succ i =>
            have hi' : i < ks.length := by simpa using hi
            have hne : (((k :: ks)[i + 1] : Nat) == k) = false := by
              simp only [List.getElem_cons_succ]
              have := hn.1 ks[i] (List.getElem_mem hi')
              cases hb : (ks[i] == k)
              · rfl
              · have e : ks[i] = k := by simpa using hb
                rw [e] at this
                exact absurd (by simp) this
            rw [hne]
            simpa using ih vs i hi' (by simpa using hv) hn.2
    rw [this keep vs i hi (by omega) hn]; rfl
  · rw [List.getElem?_eq_none (by omega), List.getElem?_eq_none (by omega)]; rfl

theorem range_few {E : Env} {L : Loops} (hm : E.P.follows .mixedOrders = true) (hE : EnvOK E) {c : Code} {g0 : Operand} {ps : Array Tmp} {assign body : Code} (hc : c = .rangeFunc g0 ps assign body) (hLa : LoopsOK E.P L assign) (hLb : LoopsOK E.P L body) (N : Nat) (keep : List Nat)
    (hkeep : (nodupB keep && keep.all fun k => Nat.blt k N) = true) {X : Type} (g : Nat → Nat → (Nat → List Value) → Few → T (Ex × Few)) (V : Nat → X → List SV) (M : Nat → X → Nat → Mem) (cnt : X → Nat) (els : X → Nat → List Value) (Φ : Nat → X → Prop) (Pre : Nat → X → Nat → Prop) (Z : Nat → X → Ex × Few → Prop)
    (vlen : ∀ n0 x, (V n0 x).length = keep.length)
    (enter : ∀ n0 n el s r, (g n0 n el s).Is r → ∃ x, Φ n0 x ∧ cnt x = n ∧ els x = el ∧ Wk N keep n0 s (V n0 x, M n0 x 0) ∧ Pre n0 x 0 ∧ ∀ o, Z n0 x o → o = r)
    (size : ∀ n0 x i, Φ n0 x → i < cnt x → (els x i).length = ps.size) (len : ∀ n0 x i, Φ n0 x → n0 ≤ (M n0 x i).length)
    (round : ∀ n0 x i, Φ n0 x → i < cnt x → Pre n0 x i → ((sxR E L (M n0 x i).length ps assign body (els x i) (mkS N keep (V n0 x), M n0 x i)).bind fun r => .ret (r.1, r.2.2)).All fun r => match r.1 with
      | .normal => Pre n0 x (i + 1) ∧ Wk N keep n0 (V n0 x, r.2) (V n0 x, M n0 x (i + 1))
      | e => ∃ s, Z n0 x (e, s) ∧ Wk N keep n0 (V n0 x, r.2) s)
    (done : ∀ n0 x, Φ n0 x → Pre n0 x (cnt x) → ∃ s, Z n0 x (.normal, s) ∧ Wk N keep n0 (V n0 x, M n0 x (cnt x)) s) : RangeC E.P c (rfew N keep g) := by
  subst hc
  simp only [Bool.and_eq_true, List.all_eq_true, Nat.blt_eq] at hkeep
  have hfew : ∀ n0 x, fewS keep (mkS N keep (V n0 x)) = V n0 x := fun n0 x => few_mkS keep _ hkeep.1 hkeep.2 (vlen n0 x)
  have hN : ∀ n0 x, (mkS N keep (V n0 x)).length = N := fun n0 x => by simp [mkS]
  intro n0 n el σ r hr A lv0 lv1 bs w0 a w gf lb hA hg hb hgr hi hf hx hs hseq
  obtain ⟨s, h1, h2⟩ := T.is_bind hr
  obtain ⟨r', h3, h4⟩ := T.is_bind h2
  obtain rfl : _ = r := h4
  unfold proj at h1
  cases hbN : Nat.beq σ.1.length N
  · rw [hbN] at h1; exact h1.elim
  rw [hbN] at h1
  obtain rfl : _ = s := h1
  obtain ⟨x, k1, rfl, rfl, k2, k3, k4⟩ := enter n0 n el _ r' h3
  -- the entry, made less
  obtain ⟨bs', lv2, q1, q2, q3, q4, q5⟩ := k2 σ.1 (Nat.eq_of_beq_eq_true hbN) rfl ⟨cut n0 bs, live lv1 bs σ.2.fn, w, n0, cut_dom n0 bs, none⟩ lv1 w0 { a with defers := [] } w (Nat.le_refl _) ⟨bs, lv1, .refl _, hi, ⟨hf.rep⟩, (Ext.refl _ _ _).cut, side_nil⟩
  have hx' : Ext A.bs A.lv A.w bs' (live lv2 bs' (M n0 x 0).fn) w :=
    ⟨fun b y hby => by
      have hbn : b < n0 := by
        rcases Nat.lt_or_ge b n0 with h | h
        · exact h
        · rw [A.dom b (by omega)] at hby; cases hby
      exact q4.hbs b y ((cut_lt (bs := bs) hbn).trans (hx.hbs b y hby)), fun y hy hl => hx.hlv y hy (q4.hlv y (Nat.lt_of_lt_of_le hy hx.size) hl), hx.heap, hx.size⟩
  have hlive : ∀ y, live lv2 bs' (M n0 x 0).fn y → live lv1 bs σ.2.fn y := fun y hl => q4.hlv y (live_lt q2 hl) hl
  refine wpIn_mono (range_rule hm hE hLa hLb (n0 := n0) (n := cnt x) (el := els x) (sl := mkS N keep (V n0 x)) (M := M n0 x) (Pre := Pre n0 x) (Z := fun o => ∃ s, Z n0 x (o.1, s) ∧ Weak n0 o.2 (mkS N keep s.1, s.2))
    (fun i hi => size n0 x i k1 hi) (fun i => len n0 x i k1) k3 (fun i hi hp => ?_) (fun hp => ?_) hA hg hb (hgr.trans q1) q2 ⟨q3.rep⟩ hx' (hs.weaken hlive) (fun W K c0 c1 c2 c3 c4 c5 c6 c7 => hseq W K c0 c1 c2 c3 c4 c5 (fun y hy => ⟨(c6 y hy).1, fun h => hlive y ((c6 y hy).2 h)⟩) c7)) ?_
  · have h := round n0 x i k1 hi hp
    have aux : ∀ (t : T (Ex × St)) (K : Ex × Mem → Prop), (t.bind fun r => .ret (r.1, r.2.2)).All K → t.All fun r => K (r.1, r.2.2) := by
      intro t K
      induction t with
      | ret a => exact fun h => h
      | br c t e iht ihe => exact fun h => ⟨fun hc => iht (h.1 hc), fun hc => ihe (h.2 hc)⟩
      | ask p t ih => exact fun h => ⟨h.1, ih h.2⟩
      | stuck n => exact fun h => h
    refine T.all_mono ?_ (aux _ _ h)
    rintro ⟨ex, σ'⟩ hk
    cases ex with
    | normal => exact ⟨hk.1, hk.2 _ (hN n0 x) (hfew n0 x)⟩
    | exit id => obtain ⟨s, z1, z2⟩ := hk; exact ⟨s, z1, z2 _ (hN n0 x) (hfew n0 x)⟩
    | ret => obtain ⟨s, z1, z2⟩ := hk; exact ⟨s, z1, z2 _ (hN n0 x) (hfew n0 x)⟩
  · obtain ⟨s, z1, z2⟩ := done n0 x k1 hp
    exact ⟨s, z1, z2 _ (hN n0 x) (hfew n0 x)⟩
  · rintro e a' w' ⟨o, ⟨s, z1, z2⟩, rfl, hi'⟩
    have := k4 _ z1
    obtain rfl := this
    exact ⟨rfl, z2 A lv0 w0 a' w' hA hi'⟩
/-- The same, with what is looked at put back. -/
noncomputable def rfewN (N : Nat) (keep : List Nat) (g : Nat → Nat → (Nat → List Value) → Few → T (Ex × Few)) : Nat → Nat → (Nat → List Value) → St → T (Ex × St) := fun n0 n el σ =>
  (projN N keep (.normal, σ)).bind fun s => (g n0 n el s.2).bind fun r => .ret (r.1, (mkS N keep r.2.1, r.2.2))

theorem range_fewN {E : Env} {L : Loops} (hm : E.P.follows .mixedOrders = true) (hE : EnvOK E) {c : Code} {g0 : Operand} {ps : Array Tmp} {assign body : Code} (hc : c = .rangeFunc g0 ps assign body) (hLa : LoopsOK E.P L assign) (hLb : LoopsOK E.P L body) (N : Nat) (keep : List Nat)
    (hkeep : (nodupB keep && keep.all fun k => Nat.blt k N) = true) {X : Type} (g : Nat → Nat → (Nat → List Value) → Few → T (Ex × Few)) (V : Nat → X → List SV) (M : Nat → X → Nat → Mem) (cnt : X → Nat) (els : X → Nat → List Value) (Φ : Nat → X → Prop) (Pre : Nat → X → Nat → Prop) (Z : Nat → X → Ex × Few → Prop)
    (vlen : ∀ n0 x, (V n0 x).length = keep.length)
    (enter : ∀ n0 n el s r, (g n0 n el s).Is r → ∃ x, Φ n0 x ∧ cnt x = n ∧ els x = el ∧ Wk N keep n0 s (V n0 x, M n0 x 0) ∧ Pre n0 x 0 ∧ ∀ o, Z n0 x o → o = r)
    (size : ∀ n0 x i, Φ n0 x → i < cnt x → (els x i).length = ps.size) (len : ∀ n0 x i, Φ n0 x → n0 ≤ (M n0 x i).length)
    (round : ∀ n0 x i, Φ n0 x → i < cnt x → Pre n0 x i → ((sxR E L (M n0 x i).length ps assign body (els x i) (mkS N keep (V n0 x), M n0 x i)).bind fun r => .ret (r.1, unf r.2.2)).All fun r => match r.1 with
      | .normal => Pre n0 x (i + 1) ∧ Wk N keep n0 (V n0 x, r.2) (V n0 x, M n0 x (i + 1))
      | e => ∃ s, Z n0 x (e, s) ∧ Wk N keep n0 (V n0 x, r.2) s)
    (done : ∀ n0 x, Φ n0 x → Pre n0 x (cnt x) → ∃ s, Z n0 x (.normal, s) ∧ Wk N keep n0 (V n0 x, M n0 x (cnt x)) s) : RangeC E.P c (rfewN N keep g) := by
  subst hc
  simp only [Bool.and_eq_true, List.all_eq_true, Nat.blt_eq] at hkeep
  have hfew : ∀ n0 x, fewS keep (mkS N keep (V n0 x)) = V n0 x := fun n0 x => few_mkS keep _ hkeep.1 hkeep.2 (vlen n0 x)
  have hN : ∀ n0 x, (mkS N keep (V n0 x)).length = N := fun n0 x => by simp [mkS]
  intro n0 n el σ r hr A lv0 lv1 bs w0 a w gf lb hA hg hb hgr hi hf hx hs hseq
  obtain ⟨s, h1, h2⟩ := T.is_bind hr
  obtain ⟨r', h3, h4⟩ := T.is_bind h2
  obtain rfl : _ = r := h4
  unfold projN at h1
  cases hbN : Nat.beq σ.1.length N
  · rw [hbN] at h1; exact h1.elim
  rw [hbN] at h1
  obtain rfl : _ = s := h1
  obtain ⟨x, k1, rfl, rfl, k2, k3, k4⟩ := enter n0 n el _ r' h3
  -- the entry, made less
  obtain ⟨bs', lv2, q1, q2, q3, q4, q5⟩ := ((weak_unf n0 σ.1 σ.2).trans (k2 σ.1 (Nat.eq_of_beq_eq_true hbN) rfl)) ⟨cut n0 bs, live lv1 bs σ.2.fn, w, n0, cut_dom n0 bs, none⟩ lv1 w0 { a with defers := [] } w (Nat.le_refl _) ⟨bs, lv1, .refl _, hi, ⟨hf.rep⟩, (Ext.refl _ _ _).cut, side_nil⟩
  have hx' : Ext A.bs A.lv A.w bs' (live lv2 bs' (M n0 x 0).fn) w :=
    ⟨fun b y hby => by
      have hbn : b < n0 := by
        rcases Nat.lt_or_ge b n0 with h | h
        · exact h
        · rw [A.dom b (by omega)] at hby; cases hby
      exact q4.hbs b y ((cut_lt (bs := bs) hbn).trans (hx.hbs b y hby)), fun y hy hl => hx.hlv y hy (q4.hlv y (Nat.lt_of_lt_of_le hy hx.size) hl), hx.heap, hx.size⟩
  have hlive : ∀ y, live lv2 bs' (M n0 x 0).fn y → live lv1 bs σ.2.fn y := fun y hl => q4.hlv y (live_lt q2 hl) hl
  refine wpIn_mono (range_rule hm hE hLa hLb (n0 := n0) (n := cnt x) (el := els x) (sl := mkS N keep (V n0 x)) (M := M n0 x) (Pre := Pre n0 x) (Z := fun o => ∃ s, Z n0 x (o.1, s) ∧ Weak n0 o.2 (mkS N keep s.1, s.2))
    (fun i hi => size n0 x i k1 hi) (fun i => len n0 x i k1) k3 (fun i hi hp => ?_) (fun hp => ?_) hA hg hb (hgr.trans q1) q2 ⟨q3.rep⟩ hx' (hs.weaken hlive) (fun W K c0 c1 c2 c3 c4 c5 c6 c7 => hseq W K c0 c1 c2 c3 c4 c5 (fun y hy => ⟨(c6 y hy).1, fun h => hlive y ((c6 y hy).2 h)⟩) c7)) ?_
  · have h := round n0 x i k1 hi hp
    have aux : ∀ (t : T (Ex × St)) (K : Ex × Mem → Prop), (t.bind fun r => .ret (r.1, unf r.2.2)).All K → t.All fun r => K (r.1, unf r.2.2) := by
      intro t K
      induction t with
      | ret a => exact fun h => h
      | br c t e iht ihe => exact fun h => ⟨fun hc => iht (h.1 hc), fun hc => ihe (h.2 hc)⟩
      | ask p t ih => exact fun h => ⟨h.1, ih h.2⟩
      | stuck n => exact fun h => h
    refine T.all_mono ?_ (aux _ _ h)
    rintro ⟨ex, σ'⟩ hk
    cases ex with
    | normal => exact ⟨hk.1, (weak_unf _ _ _).trans (hk.2 _ (hN n0 x) (hfew n0 x))⟩
    | exit id => obtain ⟨s, z1, z2⟩ := hk; exact ⟨s, z1, (weak_unf _ _ _).trans (z2 _ (hN n0 x) (hfew n0 x))⟩
    | ret => obtain ⟨s, z1, z2⟩ := hk; exact ⟨s, z1, (weak_unf _ _ _).trans (z2 _ (hN n0 x) (hfew n0 x))⟩
  · obtain ⟨s, z1, z2⟩ := done n0 x k1 hp
    exact ⟨s, z1, z2 _ (hN n0 x) (hfew n0 x)⟩
  · rintro e a' w' ⟨o, ⟨s, z1, z2⟩, rfl, hi'⟩
    have := k4 _ z1
    obtain rfl := this
    exact ⟨rfl, z2 A lv0 w0 a' w' hA hi'⟩
end Go.RX

/- The arguments of a law, read by the row's reader, as symbolic values: rows, structs, numbers of whatever shape. -/
set_option linter.unusedVariables false
set_option linter.unusedSimpArgs false
namespace Go.RX
open Go Go.RowKit

mutual
/-- Numbers lie in their range, lists are no longer than any slice. -/
def OkE : (s : Sh) → El s → Prop
  | .int k, d => (Lit.int k d).wf = true
  | .bool, _ => True
  | .str, d => ByteArray.size d ≤ maxLen
  | .sl ss, d => d.1 ≤ top ∧ ∀ i, i < d.1 → OkEs ss (d.2 i)
def OkEs : (ss : List Sh) → Els ss → Prop
  | [], _ => True
  | s :: ss, d => OkE s d.1 ∧ OkEs ss d.2
end
def appE : (a b : List Sh) → Els a → Els b → Els (a ++ b)
  | [], b, _, y => y
  | s :: a, b, x, y => (x.1, appE a b x.2 y)
theorem repC_app {lv : Nat → Prop} {w : World} {g : Nat → Option Value} : ∀ (a b : List Sh) (x : Els a) (y : Els b) (o : Nat), RepC lv w g a x o → RepC lv w g b y (o + a.length) → RepC lv w g (a ++ b) (appE a b x y) o
  | [], b, _, y, o, _, h => h
  | s :: a, b, x, y, o, ⟨h1, h2⟩, h => ⟨h1, repC_app a b x.2 y (o + 1) h2 (by rw [show o + 1 + a.length = o + (s :: a).length by simp; omega]; exact h)⟩
theorem okE_app : ∀ (a b : List Sh) (x : Els a) (y : Els b), OkEs a x → OkEs b y → OkEs (a ++ b) (appE a b x y)
  | [], b, _, y, _, h => h
  | s :: a, b, x, y, ⟨h1, h2⟩, h => ⟨h1, okE_app a b x.2 y h2 h⟩
theorem repC_shift {lv : Nat → Prop} {w : World} {g g' : Nat → Option Value} : ∀ (ss : List Sh) (d : Els ss) (o o' : Nat), (∀ j, j < ss.length → g' (o' + j) = g (o + j)) → RepC lv w g ss d o → RepC lv w g' ss d o'
  | [], _, _, _, _, _ => trivial
  | s :: ss, d, o, o', h, ⟨⟨u, h1, h2⟩, h3⟩ =>
    ⟨⟨u, by have := h 0 (by simp); simpa using this.trans h1, h2⟩, repC_shift ss d.2 (o + 1) (o' + 1) (fun j hj => by
      have := h (j + 1) (by simpa using hj)
      rwa [show o' + (j + 1) = o' + 1 + j by omega, show o + (j + 1) = o + 1 + j by omega] at this) h3⟩

/-- The cells of a type, each by its shape; of a struct: its fields one behind the other. -/
def shFs (P : Program) (sh : TypeId → Option (List Sh)) : Nat → List Field → Option (List Sh)
  | _, [] => some []
  | o, f :: fs =>
    match sh f.type with
    | some s => bif Nat.beq f.offset o && Nat.beq (P.cellsOf f.type) s.length then (shFs P sh (o + s.length) fs).map (s ++ ·) else none
    | none => none
def shT (P : Program) : Nat → TypeId → Option (List Sh)
  | 0, _ => none
  | d + 1, t =>
    match P.underlying t with
    | some (.int k) => some [.int k]
    | some .bool => some [.bool]
    | some .string => some [.str]
    | some (.slice e) => match shT P d e with
      | some ss => bif Nat.beq (P.cellsOf e) ss.length && Nat.blt 0 ss.length then some [.sl ss] else none
      | none => none
    | some (.struct fs) => match shFs P (shT P d) 0 fs.toList with
      | some ss => bif Nat.beq (P.cellsOf t) ss.length then some ss else none
      | none => none
    | _ => none

def noLv : Nat → Prop := fun _ => False
section
variable {H : Type} {enc : TypeId × Value → H} {P : Program} {w : World} {base : Nat} {spare : Nat → Bool} {held : Bool}

theorem shFs_rep (sh : TypeId → Option (List Sh)) (cs : List Value) (n : Nat)
    (one : ∀ t ss, sh t = some ss → ∀ cs x, DataW.trod enc P w base spare held n t cs = some x → cs.length = ss.length ∧ ∃ e : Els ss, RepC noLv w (fun o => cs[o]?) ss e 0 ∧ OkEs ss e) :
    ∀ (fs : List Field) (o : Nat) (ss : List Sh), shFs P sh o fs = some ss → (∀ f, f ∈ fs → ∃ x, DataW.trod enc P w base spare held n f.type ((cs.drop f.offset).take (P.cellsOf f.type)) = some x) →
      ∃ e : Els ss, RepC noLv w (fun o => cs[o]?) ss e o ∧ OkEs ss e
  | [], o, ss, h, _ => by
    simp only [shFs, Option.some.injEq] at h
    subst h
    exact ⟨(), trivial, trivial⟩
  | f :: fs, o, ss, h, hx => by
    simp only [shFs] at h
    split at h
    · rename_i s hs
      cases hb : (Nat.beq f.offset o && Nat.beq (P.cellsOf f.type) s.length)
      · rw [hb] at h; cases h
      rw [hb] at h
      simp only [cond_true] at h
      obtain ⟨rest, hr, rfl⟩ := Option.map_eq_some_iff.1 h
      rw [Bool.and_eq_true] at hb
      have ho := Nat.eq_of_beq_eq_true hb.1
      have hc := Nat.eq_of_beq_eq_true hb.2
      obtain ⟨x, hx0⟩ := hx f (by simp)
      obtain ⟨hl, e, he1, he2⟩ := one f.type s hs _ x hx0
      obtain ⟨e', he3, he4⟩ := shFs_rep sh cs n one fs (o + s.length) rest hr (fun g hg => hx g (by simp [hg]))
      refine ⟨appE s rest e e', repC_app s rest e e' o ?_ he3, okE_app s rest e e' he2 he4⟩
      refine repC_shift s e 0 o (fun j hj => ?_) he1
      simp only [Nat.zero_add]
      rw [List.getElem?_take_of_lt (by omega), List.getElem?_drop, ho]
    · cases h

theorem trod_rep : ∀ (d : Nat) (t : TypeId) (ss : List Sh), shT P d t = some ss → ∀ (fuel : Nat) (cs : List Value) (x : DataW H × List MemPlace), DataW.trod enc P w base spare held fuel t cs = some x →
    cs.length = ss.length ∧ ∃ e : Els ss, RepC noLv w (fun o => cs[o]?) ss e 0 ∧ OkEs ss e
  | 0, t, ss, h, _, _, _, _ => by simp [shT] at h
  | d + 1, t, ss, h, fuel, cs, x, hx => by
    simp only [shT] at h
    split at h
    · rename_i k hk
      cases h
      obtain ⟨n, rfl, rfl, hw⟩ := DataW.trod_int hk hx
      exact ⟨rfl, ((n : Int), ()), ⟨⟨.int k n, rfl, rfl⟩, trivial⟩, hw, trivial⟩
    · rename_i hk
      cases h
      obtain ⟨b, rfl, rfl⟩ := DataW.trod_bool hk hx
      exact ⟨rfl, ((b : Bool), ()), ⟨⟨.bool b, rfl, rfl⟩, trivial⟩, trivial, trivial⟩
    · rename_i hk
      cases h
      obtain ⟨s, rfl, rfl, hs⟩ := DataW.trod_string hk hx
      exact ⟨rfl, ((s : ByteArray), ()), ⟨⟨.string s, rfl, rfl⟩, trivial⟩, hs, trivial⟩
    · rename_i e hk
      split at h
      · rename_i es hes
        cases hb : (Nat.beq (P.cellsOf e) es.length && Nat.blt 0 es.length)
        · rw [hb] at h; cases h
        rw [hb] at h
        simp only [cond_true, Option.some.injEq] at h
        subst h
        rw [Bool.and_eq_true] at hb
        have hc := Nat.eq_of_beq_eq_true hb.1
        have hpos : 0 < es.length := by have := hb.2; simp [Nat.blt] at this; omega
        rcases Go.Deep.open_slice hk hx with ⟨rfl, rfl⟩ | ⟨a, len, cap, m, n, D, Pl, rfl, hbb, hl, hm, hmm, rfl, hel⟩
        · exact ⟨rfl, ((0, fun _ => zeroEs es), ()), ⟨⟨.slice none 0 0, rfl, none, 0, rfl, Nat.le_refl _, Nat.zero_le _, fun h => absurd h (by simp)⟩, trivial⟩, ⟨Nat.zero_le _, fun i hi => absurd hi (by simp)⟩, trivial⟩
        · have hlm : len ≤ m := by rw [hmm]; split <;> omega
          have each : ∀ i, i < len → ∃ e' : Els es, (0 < len → a.spot = none ∧ a.block < w.heap.size) ∧ RepC noLv w (fun o => w.cell? ⟨a.block, o, none⟩) es e' (a.off + i * es.length) ∧ OkEs es e' := fun i hi => by
            obtain ⟨cs', h1, h2⟩ := hel i (by omega)
            obtain ⟨hle, e', h3, h4⟩ := trod_rep d e es hes n cs' _ h2
            obtain ⟨_, h5, h6⟩ := World.cells?_some h1
            rw [hc] at h5 h6
            have hz := h6 0 hpos
            obtain ⟨v0, hv0⟩ : ∃ v0, cs'[0]? = some v0 := ⟨cs'[0], by simp⟩
            have addr : ∀ j, j < es.length → w.cell? ⟨a.block, a.off + i * es.length + j, none⟩ = cs'[j]? := fun j hj => by
              have hj' := h6 j hj
              obtain ⟨vj, hvj⟩ : ∃ vj, cs'[j]? = some vj := ⟨cs'[j]'(by omega), by simp⟩
              rw [hvj] at hj' ⊢
              rw [← hj']
              rw [Go.Deep.add_add] at hj' ⊢
              unfold Addr.add at hj' ⊢
              by_cases hij : i * es.length + j = 0
              · rw [if_pos hij] at hj' ⊢
                have hsp : a.spot = none := by
                  unfold World.cell? at hj'
                  split at hj'
                  · cases hs : a.spot
                    · rfl
                    · rw [hs] at hj'; simp at hj'
                  · cases hj'
                congr 1
                cases a
                simp only [] at hsp ⊢
                subst hsp
                congr 1
                omega
              · rw [if_neg hij]
                congr 1
                simp [Nat.add_assoc]
            refine ⟨e', fun _ => ?_, repC_shift es e' 0 _ (fun j hj => by simp only [Nat.zero_add]; exact addr j hj) h3, h4⟩
            obtain ⟨c0, g1, g2⟩ := hel 0 (by omega)
            obtain ⟨_, g3, g4⟩ := World.cells?_some g1
            rw [hc] at g3 g4
            have g5 := g4 0 hpos
            have : (a.add (0 * es.length)).add 0 = a := by simp [Addr.add]
            rw [this] at g5
            obtain ⟨v1, hv1⟩ : ∃ v1, c0[0]? = some v1 := ⟨c0[0], by simp⟩
            rw [hv1] at g5
            unfold World.cell? at g5
            split at g5
            · rename_i c _ _ hh
              constructor
              · cases hs : a.spot
                · rfl
                · rw [hs] at g5; simp at g5
              · obtain ⟨hlt, _⟩ := Array.getElem?_eq_some_iff.1 hh
                exact hlt
            · cases g5
          letI : Inhabited (Els es) := ⟨zeroEs es⟩
          obtain ⟨F, hF⟩ := Go.Deep.choose_lt each
          refine ⟨rfl, ((len, F), ()), ⟨⟨.slice (some a) len cap, rfl, some a, cap, rfl, hl, ?_, fun h0 => ⟨a.block, a.off, ?_, ((hF 0 h0).1 h0).2, fun h => h.elim, fun i hi => (hF i hi).2.1⟩⟩, trivial⟩, ⟨?_, fun i hi => (hF i hi).2.2⟩, trivial⟩
          · show len ≤ top
            have : maxLen = top := rfl
            omega
          · have := ((hF 0 h0).1 h0).1
            cases a
            simp only [] at this ⊢
            rw [this]
          · show len ≤ top
            have : maxLen = top := rfl
            omega
      · cases h
    · rename_i fs hk
      split at h
      · rename_i es hes
        cases hb : Nat.beq (P.cellsOf t) es.length
        · rw [hb] at h; cases h
        rw [hb] at h
        simp only [cond_true, Option.some.injEq] at h
        subst h
        obtain ⟨xs, n, rfl, rfl, hlen, hxl, hfs⟩ := DataW.trod_struct hk hx
        refine ⟨hlen.trans (Nat.eq_of_beq_eq_true hb), ?_⟩
        refine shFs_rep (shT P d) cs n (fun t ss hs cs x hx => trod_rep d t ss hs n cs x hx) fs.toList 0 es hes (fun f hf => ?_)
        obtain ⟨i, hi, rfl⟩ := List.mem_iff_getElem.1 hf
        have h1 := hfs i (fs.toList[i]) (by simp)
        have hi' : i < fs.size := by simpa using hi
        rw [h1]
        exact ⟨xs[i]'(by omega), by simp⟩
      · cases h
    · cases h
end

/-- The cells of a value as symbolic ones. -/
def svs : (ss : List Sh) → Els ss → List SV
  | [], _ => []
  | s :: ss, d => toSV s d.1 :: svs ss d.2
theorem svs_rep {w : World} : ∀ (ss : List Sh) (d : Els ss) (o : Nat) (cs : List Value), cs.length = ss.length → RepC noLv w (fun i => cs[i - o]?) ss d o → RepL Bs.none noLv w (svs ss d) cs
  | [], _, _, cs, h, _ => by
    have : cs = [] := by simpa using h
    subst this; exact .nil
  | s :: ss, d, o, cs, h, ⟨⟨u, h1, h2⟩, h3⟩ => by
    cases cs with
    | nil => simp at h
    | cons c cs =>
      have h1' : (c :: cs)[o - o]? = some u := h1
      rw [Nat.sub_self] at h1'
      obtain rfl : c = u := by simpa using h1'
      refine .cons (toSV_rep s d.1 c h2 _) (svs_rep ss d.2 (o + 1) cs (by simpa using h) ?_)
      refine repC_shift ss d.2 (o + 1) (o + 1) (fun j hj => ?_) h3
      show cs[o + 1 + j - (o + 1)]? = (c :: cs)[o + 1 + j - o]?
      rw [show o + 1 + j - (o + 1) = j by omega, show o + 1 + j - o = j + 1 by omega, List.getElem?_cons_succ]

/-- A struct that comes in. -/
theorem param_agg {H : Type} {enc : TypeId × Value → H} {P : Program} {w : World} {base : Nat} {spare : Nat → Bool} {held : Bool} {r : Reach} {b0 : Nat} {t : TypeId} {v : Value} {d : DataW H} {p : List MemPlace} {fs : Array Field} {ss : List Sh}
    (ht : P.underlying t = some (.struct fs)) (hs : shT P 10 t = some ss) (hv : Value.okWide P w r b0 t v) (h : DataW.Trod enc P w base spare held t v d p) :
    ∃ e : Els ss, Rep Bs.none noLv w (.agg (svs ss e)) v ∧ OkEs ss e := by
  obtain ⟨cs, rfl, hsz⟩ := Go.WideShapes.okWide_struct ht hv
  obtain ⟨fuel, hf⟩ := h
  obtain ⟨hl, e, h1, h2⟩ := trod_rep 10 t ss hs fuel _ _ hf
  refine ⟨e, ⟨cs.toList, by simp, ?_⟩, h2⟩
  exact svs_rep ss e 0 cs.toList (by simpa [Value.cells] using hl) (by simpa [Value.cells] using h1)
end Go.RX

