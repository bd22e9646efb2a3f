/- Euclid's algorithm: the walk. -/
import Derived.Test.YtfcafajfllegaaaSRa
import Derived.Test.YtfcafajfllegaaaSPy
set_option linter.unusedVariables false
set_option linter.unusedSimpArgs false
set_option maxRecDepth 100000
namespace Go.RX.Span
open Go Go.RX

set_option maxRecDepth 100000 in
theorem t_U (n0 : Nat) (x0 x1 y0 y1 : Int) : (sx E0 [] n0 (loopOf P 118 2) (mkS 41 [6, 7] [.ptr 0 0, .ptr 1 0], [(0, some (.cells [.lit (.int .i64 x0), .lit (.int .i64 x1)] 131)), (0, some (.cells [.lit (.int .i64 y0), .lit (.int .i64 y1)] 131))])).bind (proj 41 [6, 7]) =
    T.br (U.ne y0 (0 : Int))
    (T.ask (y0 ≠ (0 : Int))
      (T.ret
        (Ex.normal, [SV.ptr (nat_lit 0) (nat_lit 0), SV.ptr (nat_lit 1) (nat_lit 0)],
          [(nat_lit 1,
              some (Blk.cells [SV.lit (Value.int IntKind.i64 y0), SV.lit (Value.int IntKind.i64 y1)] (nat_lit 131))),
            (nat_lit 1,
              some
                (Blk.cells
                  [SV.lit
                      (Value.int IntKind.i64 (U.sub IntKind.i64 x0 (U.mul IntKind.i64 (U.quo IntKind.i64 x0 y0) y0))),
                    SV.lit
                      (Value.int IntKind.i64 (U.sub IntKind.i64 x1 (U.mul IntKind.i64 (U.quo IntKind.i64 x0 y0) y1)))]
                  (nat_lit 131)))])))
    (T.ret
      (Ex.exit (nat_lit 0), [SV.ptr (nat_lit 0) (nat_lit 0), SV.ptr (nat_lit 1) (nat_lit 0)],
        [(nat_lit 0,
            some (Blk.cells [SV.lit (Value.int IntKind.i64 x0), SV.lit (Value.int IntKind.i64 x1)] (nat_lit 131))),
          (nat_lit 0,
            some (Blk.cells [SV.lit (Value.int IntKind.i64 y0), SV.lit (Value.int IntKind.i64 y1)] (nat_lit 131)))])) := by kernel_rfl
theorem roundU (n0 : Nat) (x : XU) (hx : PhiU n0 x) : ((sx E0 [] n0 (loopOf P 118 2) (mkS 41 [6, 7] (VU x).1, (VU x).2)).bind (proj 41 [6, 7])).All fun r => match r.1 with
      | .normal => ∃ x', PhiU n0 x' ∧ x'.k < x.k ∧ Wk 41 [6, 7] n0 r.2 (VU x') ∧ ∀ o, o = OU x' → o = OU x
      | e => ∃ s, (e, s) = OU x ∧ Wk 41 [6, 7] n0 r.2 s := by
  obtain ⟨a, b, x0, x1, y0, y1, k⟩ := x
  unfold VU
  dsimp only
  refine T.all_of_eq (t_U n0 x0 x1 y0 y1) ?_
  obtain ⟨⟨h0, ha0, ha1, hb0, hb1⟩, hi, hk, hx4, hy4⟩ := hx
  simp only [] at h0 ha0 ha1 hb0 hb1 hi hk hx4 hy4
  by_cases hy : y0 = 0
  · subst hy
    simp only [T.All, U.le_t, U.le_f, U.lt_t, U.lt_f, U.gt_t, U.gt_f, U.ge_t, U.ge_f, U.eq_t, U.eq_f, U.ne_t, U.ne_f, U.not_t, U.not_f, U.andb_t, U.andb_f, SV.lit.injEq, SV.agg.injEq, SV.tup.injEq, List.cons.injEq, Value.int.injEq, Value.bool.injEq, true_and, and_true, lk_eq]
    refine ⟨fun h => absurd rfl h, fun _ => ⟨(OU ⟨a, b, x0, x1, 0, y1, k⟩).2, rfl, ?_⟩⟩
    have e : eg k x0 x1 0 y1 = (x0, x1) := by cases k <;> simp [eg]
    refine wk_of (idR 2) rfl h0 (fun b hb => idR_of (by omega)) ⟨⟨rfl, rfl⟩, ⟨rfl, rfl⟩, trivial⟩ ⟨⟨rfl, ⟨?_, ?_, trivial⟩⟩, ⟨rfl, ⟨rl_any _, rl_any _, trivial⟩⟩, trivial⟩
    · show Value.int .i64 x0 = Value.int .i64 (eg k x0 x1 0 y1).1
      rw [e]
    · show Value.int .i64 x1 = Value.int .i64 (eg k x0 x1 0 y1).2
      rw [e]
  · obtain ⟨k', rfl⟩ : ∃ k', k = k' + 1 := ⟨k - 1, by omega⟩
    have hy' : 0 < y0 := by have := hi.hy; omega
    obtain ⟨q1, q2, q3, q4, q5, q6, q7, q8⟩ := einv_q hi.hx hy'
    have hi' := einv_step hi hy
    have hbx := hi.bx
    have hb1' := hi.b1
    have hbs := hi'.b1
    have hx0 := hi.hx
    have e1 : U.quo .i64 x0 y0 = x0.tdiv y0 := U.quo64 (by rw [q1]; unfold I64; omega)
    have e2 : U.mul .i64 (x0.tdiv y0) y0 = x0.tdiv y0 * y0 := U.mul64 (by rw [q1]; unfold I64; omega)
    have e3 : U.sub .i64 x0 (x0.tdiv y0 * y0) = x0 - x0.tdiv y0 * y0 := U.sub64 (by rw [q1]; unfold I64; omega)
    have e4 : U.mul .i64 (x0.tdiv y0) y1 = x0.tdiv y0 * y1 := U.mul64 (by unfold I64; omega)
    have e5 : U.sub .i64 x1 (x0.tdiv y0 * y1) = x1 - x0.tdiv y0 * y1 := U.sub64 (by unfold I64; omega)
    simp only [T.All, U.le_t, U.le_f, U.lt_t, U.lt_f, U.gt_t, U.gt_f, U.ge_t, U.ge_f, U.eq_t, U.eq_f, U.ne_t, U.ne_f, U.not_t, U.not_f, U.andb_t, U.andb_f, SV.lit.injEq, SV.agg.injEq, SV.tup.injEq, List.cons.injEq, Value.int.injEq, Value.bool.injEq, true_and, and_true, lk_eq, e1, e2, e3, e4, e5]
    refine ⟨fun _ => ⟨hy, ⟨a, b, y0, y1, x0 - x0.tdiv y0 * y0, x1 - x0.tdiv y0 * y1, k'⟩, ⟨⟨h0, ha0, ha1, hb0, hb1⟩, hi', ?_, hy4, ?_⟩, Nat.lt_succ_self _, ?_, fun o ho => ?_⟩, fun h => absurd h hy⟩
    · show (x0 - x0.tdiv y0 * y0).toNat < k'
      rw [q1]; omega
    · show x0 - x0.tdiv y0 * y0 ≤ 4000000
      rw [q1]; omega
    · exact wk_of (idR 2) rfl h0 (fun b hb => idR_of (by omega)) ⟨⟨rfl, rfl⟩, ⟨rfl, rfl⟩, trivial⟩ ⟨⟨rfl, ⟨rfl, rfl, trivial⟩⟩, ⟨rfl, ⟨rfl, rfl, trivial⟩⟩, trivial⟩
    · rw [ho]
      have e : eg (k' + 1) x0 x1 y0 y1 = eg k' y0 y1 (x0 - x0.tdiv y0 * y0) (x1 - x0.tdiv y0 * y1) := by rw [eg, if_neg hy]
      simp only [OU, e]
theorem loopU : LoopOK P (loopOf P 118 2) (few 41 [6, 7] gU) :=
  loop_few (E := E0) mixed E0_ok loopsOK_none 41 [6, 7] (X := XU) gU (fun _ x => VU x) PhiU (fun x => x.k) (fun _ x o => o = OU x)
    (fun n0 s r h => by
      unfold gU at h
      split at h
      · rename_i n0 g1 a g2 b
        obtain ⟨h0, ha0, ha1, hb0, hb1⟩ := (T.is_ask h).1
        obtain rfl := T.is_ret (T.is_ask h).2
        refine ⟨⟨a, b, a, 1, b, 0, b.toNat + 1⟩, ⟨⟨h0, ha0, ha1, hb0, hb1⟩, einv_start ha0 hb0, Nat.lt_succ_self _, ha1, hb1⟩, ?_, fun o ho => ?_⟩
        · exact wk_of (idR 2) rfl h0 (fun b hb => idR_of (by omega)) ⟨⟨rfl, rfl⟩, ⟨rfl, rfl⟩, trivial⟩ ⟨⟨rfl, ⟨rfl, rfl, trivial⟩⟩, ⟨rfl, ⟨rfl, rfl, trivial⟩⟩, trivial⟩
        · rw [ho]
          simp only [OU, lk_eq, euG, euX]
      · exact h.elim)
    roundU
theorem l118_ok : ∀ p ∈ l118, LoopsOK P p.2 (bodyOf P p.1) := by
  intro p hp
  simp only [l118, List.mem_singleton] at hp
  subst hp
  refine loopsOK_of (by kernel_rfl) fun k g hk => ?_
  simp only [List.mem_singleton, Prod.mk.injEq, LoopC.sum.injEq] at hk
  obtain ⟨rfl, rfl⟩ := hk
  exact loopU
noncomputable def c_euclid : Con := fun args => match args with
  | [.lit (.int .i64 a), .lit (.int .i64 b)] => .ask (0 ≤ a ∧ a ≤ 4000000 ∧ 0 ≤ b ∧ b ≤ 4000000) (.ret (.tup [.lit (.int .i64 (lk euG a b)), .lit (.int .i64 (lk euX a b))]))
  | _ => .stuck 1
set_option maxRecDepth 100000 in
theorem t_euclid (a b : Int) : conB Go.Proofs.Try.prog (conOf []) (loopsOf l118) 10 118 [.lit (.int .i64 a), .lit (.int .i64 b)] =
    T.ask (PreU (nat_lit 0) a b)
    (T.ret (SV.tup [SV.lit (Value.int IntKind.i64 (lk euG a b)), SV.lit (Value.int IntKind.i64 (lk euX a b))])) := by kernel_rfl
theorem euclid_ok : ConOK P 118 c_euclid := con_of (allOKL mixed none_ok l118_ok) 10 118 fun args r h => by
  unfold c_euclid at h
  split at h
  · rename_i a b
    have hp := (T.is_ask h).1
    have h := (T.is_ask h).2
    obtain rfl := T.is_ret h
    rw [t_euclid]
    have hpre : PreU 0 a b := ⟨by omega, hp⟩
    simp only [T.All, hpre, lk_eq, true_and]
    try simp
  · exact h.elim
end Go.RX.Span
