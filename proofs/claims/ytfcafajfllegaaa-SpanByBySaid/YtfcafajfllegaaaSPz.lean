/- The library's slices.Equal and slices.Concat of two, of numbers: the walks. -/
import Derived.Test.YtfcafajfllegaaaSPy
set_option linter.unusedVariables false
set_option linter.unusedSimpArgs false
set_option maxRecDepth 100000
namespace Go.RX.Span
open Go Go.RX

set_option maxRecDepth 100000 in
theorem t_E (n0 n n1 : Nat) (f f1 : Nat → Els [.int .i64]) (len i : Int) : (sx E0 [] n0 (loopOf P 36 4) (mkS 26 [0, 1, 4, 12, 13] [.row [.int .i64] n f, .row [.int .i64] n1 f1, .any, .lit (.int .i64 len), .lit (.int .i64 i)], [])).bind (proj 26 [0, 1, 4, 12, 13]) =
    T.br (U.lt i len)
    (T.ask ((0 : Int) ≤ i ∧ i < ↑n)
      (T.ask ((0 : Int) ≤ i ∧ i < ↑n1)
        (T.br (U.ne (f (U.toNat i)).1 (f1 (U.toNat i)).1)
          (T.ret
            (Ex.ret,
              [SV.row [Sh.int IntKind.i64] n f, SV.row [Sh.int IntKind.i64] n1 f1, SV.kb false,
                SV.lit (Value.int IntKind.i64 len), SV.lit (Value.int IntKind.i64 i)],
              []))
          (T.ret
            (Ex.normal,
              [SV.row [Sh.int IntKind.i64] n f, SV.row [Sh.int IntKind.i64] n1 f1, SV.any,
                SV.lit (Value.int IntKind.i64 len), SV.lit (Value.int IntKind.i64 (U.add IntKind.i64 i (1 : Int)))],
              [])))))
    (T.ret
      (Ex.exit (nat_lit 0),
        [SV.row [Sh.int IntKind.i64] n f, SV.row [Sh.int IntKind.i64] n1 f1, SV.any, SV.lit (Value.int IntKind.i64 len),
          SV.lit (Value.int IntKind.i64 i)],
        [])) := by kernel_rfl
theorem roundE (n0 : Nat) (x : XE) (hx : PhiE n0 x) : ((sx E0 [] n0 (loopOf P 36 4) (mkS 26 [0, 1, 4, 12, 13] (VE x).1, (VE x).2)).bind (proj 26 [0, 1, 4, 12, 13])).All fun r => match r.1 with
      | .normal => ∃ x', PhiE n0 x' ∧ x'.n - x'.k < x.n - x.k ∧ Wk 26 [0, 1, 4, 12, 13] n0 r.2 (VE x') ∧ ∀ o, ZE x' o → ZE x o
      | e => ∃ s, ZE x (e, s) ∧ Wk 26 [0, 1, 4, 12, 13] n0 r.2 s := by
  obtain ⟨n, n1, f, f1, len, k⟩ := x
  unfold VE
  dsimp only
  refine T.all_of_eq (t_E n0 n n1 f f1 len k) ?_
  obtain ⟨⟨h0, e1, e2, ht⟩, hk, hall⟩ := hx
  simp only [] at h0 e1 e2 ht hk hall
  subst h0; subst e1
  simp only [top] at ht
  have w0 : ∀ {vs vs' : List SV}, RlL (idR 0) vs vs' → Wk 26 [0, 1, 4, 12, 13] 0 (vs, []) (vs', []) := fun h => wk_of (idR 0) rfl (Nat.zero_le _) (fun b hb => by omega) h trivial
  by_cases hlt : k < n
  · have hadd : U.add .i64 (k : Int) 1 = ((k + 1 : Nat) : Int) := by rw [U.add64 (by unfold I64; omega)]; omega
    simp only [T.All, U.le_t, U.le_f, U.lt_t, U.lt_f, U.gt_t, U.gt_f, U.ge_t, U.ge_f, U.eq_t, U.eq_f, U.ne_t, U.ne_f, U.not_t, U.not_f, U.andb_t, U.andb_f, SV.lit.injEq, SV.agg.injEq, SV.tup.injEq, List.cons.injEq, Value.int.injEq, Value.bool.injEq, true_and, and_true, lk_eq, U.toNat_eq, Int.toNat_natCast]
    refine ⟨fun _ => ⟨⟨by omega, by omega⟩, ⟨by omega, by omega⟩, fun hne => ⟨OE'.2, ⟨fun he => absurd ((eqR_t.1 he).2 k hlt) (Eq.mp U.ne_t hne), fun _ => rfl⟩, w0 ⟨trivial, trivial, rfl, trivial, trivial, trivial⟩⟩, fun heq => ?_⟩, fun h => absurd h (by omega)⟩
    refine ⟨⟨n, n, f, f1, len, k + 1⟩, ⟨⟨rfl, rfl, e2, ht⟩, hlt, fun i hi => ?_⟩, by simp only []; omega, w0 ⟨⟨rfl, sameRow_refl _ _⟩, ⟨rfl, sameRow_refl _ _⟩, trivial, rfl, by rw [hadd]; rfl, trivial⟩, fun o ho => ho⟩
    by_cases h : i = k
    · subst h; exact Eq.mp U.ne_f heq
    · have hi' : i < k + 1 := hi
      exact hall i (by omega)
  · have : (k : Int) = n := by omega
    have hkn : k = n := by omega
    simp only [T.All, U.le_t, U.le_f, U.lt_t, U.lt_f, U.gt_t, U.gt_f, U.ge_t, U.ge_f, U.eq_t, U.eq_f, U.ne_t, U.ne_f, U.not_t, U.not_f, U.andb_t, U.andb_f, SV.lit.injEq, SV.agg.injEq, SV.tup.injEq, List.cons.injEq, Value.int.injEq, Value.bool.injEq, true_and, and_true, lk_eq]
    refine ⟨fun h => absurd h (by omega), fun _ => ⟨(OE ⟨n, n, f, f1, len, k⟩).2, ⟨fun _ => rfl, fun he => ?_⟩, w0 ⟨⟨rfl, sameRow_refl _ _⟩, ⟨rfl, sameRow_refl _ _⟩, trivial, trivial, trivial, trivial⟩⟩⟩
    rw [eqR_t.2 ⟨rfl, fun i hi => hall i (by have hi' : i < n := hi; omega)⟩] at he
    cases he
theorem loopE : LoopOK P (loopOf P 36 4) (few 26 [0, 1, 4, 12, 13] gE) :=
  loop_few (E := E0) mixed E0_ok loopsOK_none 26 [0, 1, 4, 12, 13] (X := XE) gE (fun _ x => VE x) PhiE (fun x => x.n - x.k) (fun _ x o => ZE x o)
    (fun n0 s r h => by
      unfold gE at h
      split at h
      · rename_i n0 n f n1 f1 s4 len
        obtain ⟨h0, e1, e2, ht⟩ := (T.is_ask h).1
        have h := (T.is_ask h).2
        rcases h with ⟨he, h⟩ | ⟨he, h⟩ <;> rw [lk_eq] at he <;> obtain rfl := T.is_ret h
        all_goals
          refine ⟨⟨n, n1, f, f1, len, 0⟩, ⟨⟨h0, e1, e2, ht⟩, Nat.zero_le _, fun i hi => by simp only [] at hi; omega⟩, wk_of (idR 0) rfl (by rw [h0]; exact Nat.zero_le _) (fun b hb => by omega) ⟨⟨rfl, sameRow_refl _ _⟩, ⟨rfl, sameRow_refl _ _⟩, rl_any _, rfl, rfl, trivial⟩ trivial, fun o ho => ?_⟩
          first | exact ho.1 he | exact ho.2 he
      · exact h.elim)
    roundE
theorem l36_ok : ∀ p ∈ l36, LoopsOK P p.2 (bodyOf P p.1) := by
  intro p hp
  simp only [l36, List.mem_singleton] at hp
  subst hp
  refine loopsOK_of (by kernel_rfl) fun k g hk => ?_
  simp only [List.mem_singleton, Prod.mk.injEq, LoopC.sum.injEq] at hk
  obtain ⟨rfl, rfl⟩ := hk
  exact loopE

noncomputable def c_Equal : Con := fun args => match args with
  | [.row [.int .i64] n f, .row [.int .i64] n1 f1] => .ask (n ≤ top) (.ret (.lit (.bool (lk eqR n f n1 f1))))
  | _ => .stuck 1
set_option maxRecDepth 100000 in
theorem t_Equal (n n1 : Nat) (f f1 : Nat → Els [.int .i64]) : conB Go.Proofs.Try.prog (conOf []) (loopsOf l36) 10 36 [.row [.int .i64] n f, .row [.int .i64] n1 f1] =
    T.br (U.ne (Int.ofNat n) (Int.ofNat n1)) (T.ret (SV.lit (Value.bool false)))
    (T.ask (PreE (nat_lit 0) n n1 ↑n)
      (T.br (lk eqR n f n1 f1) (T.ret (SV.lit (Value.bool true))) (T.ret (SV.lit (Value.bool false))))) := by kernel_rfl
theorem Equal_ok : ConOK P 36 c_Equal := con_of (allOKL mixed none_ok l36_ok) 10 36 fun args r h => by
  unfold c_Equal at h
  split at h
  · rename_i n f n1 f1
    have hp := (T.is_ask h).1
    have h := (T.is_ask h).2
    obtain rfl := T.is_ret h
    rw [t_Equal]
    by_cases hn : n = n1
    · subst hn
      have hpre : PreE 0 n n n := ⟨rfl, rfl, rfl, hp⟩
      have hne : U.ne (Int.ofNat n) (Int.ofNat n) = false := by rw [U.ne_eq]; simp
      simp only [T.All, hne, hpre, lk_eq]
      cases eqR n f n f1 <;> simp
    · have he : eqR n f n1 f1 = false := by
        cases h : eqR n f n1 f1
        · rfl
        · exact absurd (eqR_t.1 h).1 hn
      have hne : U.ne (Int.ofNat n) (Int.ofNat n1) = true := by rw [U.ne_eq]; simp only [Int.ofNat_eq_natCast]; simp; omega
      simp only [T.All, hne, lk_eq, he]
      simp
  · exact h.elim
theorem cat_zero {ss : List Sh} (z f : Nat → Els ss) : U.cat 0 z f = f := by
  funext i; rw [U.cat_eq]; simp
noncomputable def c_Concat : Con := fun args => match args with
  | [.row [.sl [.int .i64]] 2 F] => .ask ((F 0).1.1 + (F 1).1.1 ≤ 1000000) (.ret (.row [.int .i64] ((F 0).1.1 + (F 1).1.1) (U.cat (F 0).1.1 (F 0).1.2 (F 1).1.2)))
  | _ => .stuck 1
set_option maxRecDepth 100000 in
theorem t_Concat (F : Nat → Els [.sl [.int .i64]]) : conB Go.Proofs.Try.prog (conOf []) (loopsOf l37) 10 37 [.row [.sl [.int .i64]] 2 F] =
    T.br (U.lt (0 : Int) (2 : Int))
    (T.ask ((0 : Int) ≤ (0 : Int) ∧ (0 : Int) < ↑(2 : Nat))
      (T.br (U.lt (U.add IntKind.i64 (0 : Int) (Int.ofNat (F (U.toNat (Int.ofNat (0 : Nat)))).fst.1)) (0 : Int))
        (T.stuck (nat_lit 67))
        (T.br (U.lt (1 : Int) (2 : Int))
          (T.ask ((0 : Int) ≤ (1 : Int) ∧ (1 : Int) < ↑(2 : Nat))
            (T.br
              (U.lt
                (U.add IntKind.i64 (U.add IntKind.i64 (0 : Int) (Int.ofNat (F (U.toNat (Int.ofNat (0 : Nat)))).fst.1))
                  (Int.ofNat (F (U.toNat (Int.ofNat (1 : Nat)))).fst.1))
                (0 : Int))
              (T.stuck (nat_lit 67))
              (T.br (U.lt (2 : Int) (2 : Int))
                (T.ask ((0 : Int) ≤ (2 : Int) ∧ (2 : Int) < ↑(2 : Nat))
                  (T.br
                    (U.lt
                      (U.add IntKind.i64
                        (U.add IntKind.i64
                          (U.add IntKind.i64 (0 : Int) (Int.ofNat (F (U.toNat (Int.ofNat (0 : Nat)))).fst.1))
                          (Int.ofNat (F (U.toNat (Int.ofNat (1 : Nat)))).fst.1))
                        (Int.ofNat (F (U.toNat (Int.ofNat (2 : Nat)))).fst.1))
                      (0 : Int))
                    (T.stuck (nat_lit 67)) (T.stuck (nat_lit 105))))
                (T.br
                  (U.lt
                    (U.add IntKind.i64
                      (U.add IntKind.i64 (0 : Int) (Int.ofNat (F (U.toNat (Int.ofNat (0 : Nat)))).fst.1))
                      (Int.ofNat (F (U.toNat (Int.ofNat (1 : Nat)))).fst.1))
                    (0 : Int))
                  (T.stuck (nat_lit 67))
                  (T.br
                    (U.gt
                      (U.sub IntKind.i64
                        (U.add IntKind.i64
                          (U.add IntKind.i64 (0 : Int) (Int.ofNat (F (U.toNat (Int.ofNat (0 : Nat)))).fst.1))
                          (Int.ofNat (F (U.toNat (Int.ofNat (1 : Nat)))).fst.1))
                        (0 : Int))
                      (0 : Int))
                    (T.ask
                      ((0 : Int) <
                          U.sub IntKind.i64
                            (U.add IntKind.i64
                              (U.add IntKind.i64 (0 : Int) (Int.ofNat (F (U.toNat (Int.ofNat (0 : Nat)))).fst.1))
                              (Int.ofNat (F (U.toNat (Int.ofNat (1 : Nat)))).fst.1))
                            (0 : Int) ∧
                        ↑(nat_lit 8) *
                            U.sub IntKind.i64
                              (U.add IntKind.i64
                                (U.add IntKind.i64 (0 : Int) (Int.ofNat (F (U.toNat (Int.ofNat (0 : Nat)))).fst.1))
                                (Int.ofNat (F (U.toNat (Int.ofNat (1 : Nat)))).fst.1))
                              (0 : Int) ≤
                          (140737488351232 : Int))
                      (T.br (U.lt (0 : Int) (2 : Int))
                        (T.ask ((0 : Int) ≤ (0 : Int) ∧ (0 : Int) < ↑(2 : Nat))
                          (T.ask
                            (((0 : Nat) + (F (U.toNat (Int.ofNat (0 : Nat)))).fst.1) * nat_lit 8 ≤
                              nat_lit 140737488351232)
                            (T.br (U.lt (1 : Int) (2 : Int))
                              (T.ask ((0 : Int) ≤ (1 : Int) ∧ (1 : Int) < ↑(2 : Nat))
                                (T.ask
                                  (((0 : Nat) + (F (U.toNat (Int.ofNat (0 : Nat)))).fst.1 +
                                        (F (U.toNat (Int.ofNat (1 : Nat)))).fst.1) *
                                      nat_lit 8 ≤
                                    nat_lit 140737488351232)
                                  (T.br (U.lt (2 : Int) (2 : Int))
                                    (T.ask ((0 : Int) ≤ (2 : Int) ∧ (2 : Int) < ↑(2 : Nat))
                                      (T.ask
                                        (((0 : Nat) + (F (U.toNat (Int.ofNat (0 : Nat)))).fst.1 +
                                                (F (U.toNat (Int.ofNat (1 : Nat)))).fst.1 +
                                              (F (U.toNat (Int.ofNat (2 : Nat)))).fst.1) *
                                            nat_lit 8 ≤
                                          nat_lit 140737488351232)
                                        (T.stuck (nat_lit 105))))
                                    (T.ret
                                      (SV.row [Sh.int IntKind.i64]
                                        (nat_lit 0 + (F (U.toNat (Int.ofNat (0 : Nat)))).fst.1 +
                                          (F (U.toNat (Int.ofNat (1 : Nat)))).fst.1)
                                        (U.cat (nat_lit 0 + (F (U.toNat (Int.ofNat (0 : Nat)))).fst.1)
                                          (U.cat (nat_lit 0) (fun x => ((0 : Int), PUnit.unit))
                                            (F (U.toNat (Int.ofNat (0 : Nat)))).fst.2)
                                          (F (U.toNat (Int.ofNat (1 : Nat)))).fst.2))))))
                              (T.ret
                                (SV.row [Sh.int IntKind.i64] (nat_lit 0 + (F (U.toNat (Int.ofNat (0 : Nat)))).fst.1)
                                  (U.cat (nat_lit 0) (fun x => ((0 : Int), PUnit.unit))
                                    (F (U.toNat (Int.ofNat (0 : Nat)))).fst.2))))))
                        (T.ret (SV.row [Sh.int IntKind.i64] (nat_lit 0) fun x => ((0 : Int), PUnit.unit)))))
                    (T.br (U.lt (0 : Int) (2 : Int))
                      (T.ask ((0 : Int) ≤ (0 : Int) ∧ (0 : Int) < ↑(2 : Nat))
                        (T.ask ((F (U.toNat (Int.ofNat (0 : Nat)))).fst.1 * nat_lit 8 ≤ nat_lit 140737488351232)
                          (T.br (U.lt (1 : Int) (2 : Int))
                            (T.ask ((0 : Int) ≤ (1 : Int) ∧ (1 : Int) < ↑(2 : Nat))
                              (T.ask
                                (((F (U.toNat (Int.ofNat (0 : Nat)))).fst.1 +
                                      (F (U.toNat (Int.ofNat (1 : Nat)))).fst.1) *
                                    nat_lit 8 ≤
                                  nat_lit 140737488351232)
                                (T.br (U.lt (2 : Int) (2 : Int))
                                  (T.ask ((0 : Int) ≤ (2 : Int) ∧ (2 : Int) < ↑(2 : Nat))
                                    (T.ask
                                      (((F (U.toNat (Int.ofNat (0 : Nat)))).fst.1 +
                                              (F (U.toNat (Int.ofNat (1 : Nat)))).fst.1 +
                                            (F (U.toNat (Int.ofNat (2 : Nat)))).fst.1) *
                                          nat_lit 8 ≤
                                        nat_lit 140737488351232)
                                      (T.stuck (nat_lit 105))))
                                  (T.ret
                                    (SV.row [Sh.int IntKind.i64]
                                      ((F (U.toNat (Int.ofNat (0 : Nat)))).fst.1 +
                                        (F (U.toNat (Int.ofNat (1 : Nat)))).fst.1)
                                      (U.cat (F (U.toNat (Int.ofNat (0 : Nat)))).fst.1
                                        (F (U.toNat (Int.ofNat (0 : Nat)))).fst.2
                                        (F (U.toNat (Int.ofNat (1 : Nat)))).fst.2))))))
                            (T.ret
                              (SV.row [Sh.int IntKind.i64] (F (U.toNat (Int.ofNat (0 : Nat)))).fst.1
                                (F (U.toNat (Int.ofNat (0 : Nat)))).fst.2)))))
                      (T.ret (SV.lit (Value.slice none (nat_lit 0) (nat_lit 0))))))))))
          (T.br (U.lt (U.add IntKind.i64 (0 : Int) (Int.ofNat (F (U.toNat (Int.ofNat (0 : Nat)))).fst.1)) (0 : Int))
            (T.stuck (nat_lit 67))
            (T.br
              (U.gt
                (U.sub IntKind.i64 (U.add IntKind.i64 (0 : Int) (Int.ofNat (F (U.toNat (Int.ofNat (0 : Nat)))).fst.1))
                  (0 : Int))
                (0 : Int))
              (T.ask
                ((0 : Int) <
                    U.sub IntKind.i64
                      (U.add IntKind.i64 (0 : Int) (Int.ofNat (F (U.toNat (Int.ofNat (0 : Nat)))).fst.1)) (0 : Int) ∧
                  ↑(nat_lit 8) *
                      U.sub IntKind.i64
                        (U.add IntKind.i64 (0 : Int) (Int.ofNat (F (U.toNat (Int.ofNat (0 : Nat)))).fst.1)) (0 : Int) ≤
                    (140737488351232 : Int))
                (T.br (U.lt (0 : Int) (2 : Int))
                  (T.ask ((0 : Int) ≤ (0 : Int) ∧ (0 : Int) < ↑(2 : Nat))
                    (T.ask
                      (((0 : Nat) + (F (U.toNat (Int.ofNat (0 : Nat)))).fst.1) * nat_lit 8 ≤ nat_lit 140737488351232)
                      (T.br (U.lt (1 : Int) (2 : Int))
                        (T.ask ((0 : Int) ≤ (1 : Int) ∧ (1 : Int) < ↑(2 : Nat))
                          (T.ask
                            (((0 : Nat) + (F (U.toNat (Int.ofNat (0 : Nat)))).fst.1 +
                                  (F (U.toNat (Int.ofNat (1 : Nat)))).fst.1) *
                                nat_lit 8 ≤
                              nat_lit 140737488351232)
                            (T.br (U.lt (2 : Int) (2 : Int))
                              (T.ask ((0 : Int) ≤ (2 : Int) ∧ (2 : Int) < ↑(2 : Nat))
                                (T.ask
                                  (((0 : Nat) + (F (U.toNat (Int.ofNat (0 : Nat)))).fst.1 +
                                          (F (U.toNat (Int.ofNat (1 : Nat)))).fst.1 +
                                        (F (U.toNat (Int.ofNat (2 : Nat)))).fst.1) *
                                      nat_lit 8 ≤
                                    nat_lit 140737488351232)
                                  (T.stuck (nat_lit 105))))
                              (T.ret
                                (SV.row [Sh.int IntKind.i64]
                                  (nat_lit 0 + (F (U.toNat (Int.ofNat (0 : Nat)))).fst.1 +
                                    (F (U.toNat (Int.ofNat (1 : Nat)))).fst.1)
                                  (U.cat (nat_lit 0 + (F (U.toNat (Int.ofNat (0 : Nat)))).fst.1)
                                    (U.cat (nat_lit 0) (fun x => ((0 : Int), PUnit.unit))
                                      (F (U.toNat (Int.ofNat (0 : Nat)))).fst.2)
                                    (F (U.toNat (Int.ofNat (1 : Nat)))).fst.2))))))
                        (T.ret
                          (SV.row [Sh.int IntKind.i64] (nat_lit 0 + (F (U.toNat (Int.ofNat (0 : Nat)))).fst.1)
                            (U.cat (nat_lit 0) (fun x => ((0 : Int), PUnit.unit))
                              (F (U.toNat (Int.ofNat (0 : Nat)))).fst.2))))))
                  (T.ret (SV.row [Sh.int IntKind.i64] (nat_lit 0) fun x => ((0 : Int), PUnit.unit)))))
              (T.br (U.lt (0 : Int) (2 : Int))
                (T.ask ((0 : Int) ≤ (0 : Int) ∧ (0 : Int) < ↑(2 : Nat))
                  (T.ask ((F (U.toNat (Int.ofNat (0 : Nat)))).fst.1 * nat_lit 8 ≤ nat_lit 140737488351232)
                    (T.br (U.lt (1 : Int) (2 : Int))
                      (T.ask ((0 : Int) ≤ (1 : Int) ∧ (1 : Int) < ↑(2 : Nat))
                        (T.ask
                          (((F (U.toNat (Int.ofNat (0 : Nat)))).fst.1 + (F (U.toNat (Int.ofNat (1 : Nat)))).fst.1) *
                              nat_lit 8 ≤
                            nat_lit 140737488351232)
                          (T.br (U.lt (2 : Int) (2 : Int))
                            (T.ask ((0 : Int) ≤ (2 : Int) ∧ (2 : Int) < ↑(2 : Nat))
                              (T.ask
                                (((F (U.toNat (Int.ofNat (0 : Nat)))).fst.1 +
                                        (F (U.toNat (Int.ofNat (1 : Nat)))).fst.1 +
                                      (F (U.toNat (Int.ofNat (2 : Nat)))).fst.1) *
                                    nat_lit 8 ≤
                                  nat_lit 140737488351232)
                                (T.stuck (nat_lit 105))))
                            (T.ret
                              (SV.row [Sh.int IntKind.i64]
                                ((F (U.toNat (Int.ofNat (0 : Nat)))).fst.1 + (F (U.toNat (Int.ofNat (1 : Nat)))).fst.1)
                                (U.cat (F (U.toNat (Int.ofNat (0 : Nat)))).fst.1
                                  (F (U.toNat (Int.ofNat (0 : Nat)))).fst.2
                                  (F (U.toNat (Int.ofNat (1 : Nat)))).fst.2))))))
                      (T.ret
                        (SV.row [Sh.int IntKind.i64] (F (U.toNat (Int.ofNat (0 : Nat)))).fst.1
                          (F (U.toNat (Int.ofNat (0 : Nat)))).fst.2)))))
                (T.ret (SV.lit (Value.slice none (nat_lit 0) (nat_lit 0))))))))))
    (T.br (U.lt (0 : Int) (2 : Int))
      (T.ask ((0 : Int) ≤ (0 : Int) ∧ (0 : Int) < ↑(2 : Nat))
        (T.ask ((F (U.toNat (Int.ofNat (0 : Nat)))).fst.1 * nat_lit 8 ≤ nat_lit 140737488351232)
          (T.br (U.lt (1 : Int) (2 : Int))
            (T.ask ((0 : Int) ≤ (1 : Int) ∧ (1 : Int) < ↑(2 : Nat))
              (T.ask
                (((F (U.toNat (Int.ofNat (0 : Nat)))).fst.1 + (F (U.toNat (Int.ofNat (1 : Nat)))).fst.1) * nat_lit 8 ≤
                  nat_lit 140737488351232)
                (T.br (U.lt (2 : Int) (2 : Int))
                  (T.ask ((0 : Int) ≤ (2 : Int) ∧ (2 : Int) < ↑(2 : Nat))
                    (T.ask
                      (((F (U.toNat (Int.ofNat (0 : Nat)))).fst.1 + (F (U.toNat (Int.ofNat (1 : Nat)))).fst.1 +
                            (F (U.toNat (Int.ofNat (2 : Nat)))).fst.1) *
                          nat_lit 8 ≤
                        nat_lit 140737488351232)
                      (T.stuck (nat_lit 105))))
                  (T.ret
                    (SV.row [Sh.int IntKind.i64]
                      ((F (U.toNat (Int.ofNat (0 : Nat)))).fst.1 + (F (U.toNat (Int.ofNat (1 : Nat)))).fst.1)
                      (U.cat (F (U.toNat (Int.ofNat (0 : Nat)))).fst.1 (F (U.toNat (Int.ofNat (0 : Nat)))).fst.2
                        (F (U.toNat (Int.ofNat (1 : Nat)))).fst.2))))))
            (T.ret
              (SV.row [Sh.int IntKind.i64] (F (U.toNat (Int.ofNat (0 : Nat)))).fst.1
                (F (U.toNat (Int.ofNat (0 : Nat)))).fst.2)))))
      (T.ret (SV.lit (Value.slice none (nat_lit 0) (nat_lit 0))))) := by kernel_rfl
theorem l37_ok : ∀ p ∈ l37, LoopsOK P p.2 (bodyOf P p.1) := by
  intro p hp
  simp only [l37, List.mem_singleton] at hp
  subst hp
  exact loopsOK_un fun q hq => by
    simp only [List.mem_cons, List.not_mem_nil, or_false] at hq
    rcases hq with rfl | rfl <;> exact ⟨3, rfl⟩
theorem Concat_ok : ConOK P 37 c_Concat := con_of (allOKL mixed none_ok l37_ok) 10 37 fun args r h => by
  unfold c_Concat at h
  split at h
  · rename_i F
    have hp := (T.is_ask h).1
    have h := (T.is_ask h).2
    obtain rfl := T.is_ret h
    rw [t_Concat]
    have t0 : U.toNat (Int.ofNat 0) = 0 := by rw [U.toNat_eq]; rfl
    have t1 : U.toNat (Int.ofNat 1) = 1 := by rw [U.toNat_eq]; rfl
    have l02 : U.lt 0 2 = true := by rw [U.lt_eq]; decide
    have l12 : U.lt 1 2 = true := by rw [U.lt_eq]; decide
    have l22 : U.lt 2 2 = false := by rw [U.lt_eq]; decide
    simp only [t0, t1, l02, l12, l22]
    generalize F 0 = d0 at hp ⊢
    generalize F 1 = d1 at hp ⊢
    obtain ⟨⟨n0, f0⟩, u0⟩ := d0
    obtain ⟨⟨n1, f1⟩, u1⟩ := d1
    simp only [] at hp ⊢
    have hp' : n0 + n1 ≤ 1000000 := hp
    have a1 : U.add .i64 0 (Int.ofNat n0) = (n0 : Int) := by rw [U.add64 (by simp only [Int.ofNat_eq_natCast]; unfold I64; omega)]; simp
    have a2 : U.add .i64 (n0 : Int) (Int.ofNat n1) = ((n0 + n1 : Nat) : Int) := by rw [U.add64 (by simp only [Int.ofNat_eq_natCast]; unfold I64; omega)]; simp
    have a3 : U.sub .i64 ((n0 + n1 : Nat) : Int) 0 = ((n0 + n1 : Nat) : Int) := by rw [U.sub64 (by unfold I64; omega)]; omega
    have b1 : U.lt (n0 : Int) 0 = false := by rw [U.lt_eq]; simp
    have b2 : U.lt ((n0 + n1 : Nat) : Int) 0 = false := by rw [U.lt_eq]; exact decide_eq_false (by omega)
    simp only [T.All, a1, a2, a3, b1, b2, cat_zero, Nat.zero_add]
    cases hg : U.gt ((n0 + n1 : Nat) : Int) 0
    · simp
      omega
    · have hg' : (0 : Int) < ((n0 + n1 : Nat) : Int) := Eq.mp U.gt_t hg
      simp
      exact ⟨by omega, by omega, by omega, congrArg (fun g => U.cat n0 g f1) (cat_zero (ss := [.int .i64]) _ f0)⟩
  · exact h.elim
end Go.RX.Span
