/- Ranges: what the law of orders returns. -/
import Derived.Test.YtfcafajfllegaaaSPv
set_option linter.unusedVariables false
set_option linter.unusedSimpArgs false
set_option maxRecDepth 100000
namespace Go.RX.Span
open Go Go.RX

set_option maxRecDepth 100000 in
theorem t_O (n0 : Nat) (a b c : Int) (n n1 : Nat) (f f1 : Nat → Els [.int .i64]) (len i : Int) : (sx E10 [] n0 (loopOf P 4 7) (mkS 121 [1, 3, 25, 26, 27] [.ptr 0 0, .row [.int .i64] n f, .row [.int .i64] n1 f1, .lit (.int .i64 len), .lit (.int .i64 i)], [(0, some (.cells [.lit (.int .i64 a), .lit (.int .i64 b), .lit (.int .i64 c)] 23))])).bind (proj 121 [1, 3, 25, 26, 27]) =
    T.br (U.lt i len)
    (T.ask ((0 : Int) ≤ i ∧ i < ↑n1)
      (T.ask (I64 a ∧ I64 b ∧ I64 c)
        (T.ask (I64 a ∧ I64 b ∧ I64 c)
          (T.br (U.ne (lk nthE a b c i) (0 : Int))
            (T.ret
              (Ex.ret,
                [SV.ptr (nat_lit 0) (nat_lit 0), SV.row [Sh.int IntKind.i64] n f, SV.row [Sh.int IntKind.i64] n1 f1,
                  SV.lit (Value.int IntKind.i64 len), SV.lit (Value.int IntKind.i64 i)],
                [(nat_lit 0,
                    some
                      (Blk.cells
                        [SV.lit (Value.int IntKind.i64 a), SV.lit (Value.int IntKind.i64 b),
                          SV.lit (Value.int IntKind.i64 c)]
                        (nat_lit 23)))]))
            (T.br (U.ne (lk nth a b c i) (f1 (U.toNat i)).1)
              (T.ret
                (Ex.ret,
                  [SV.ptr (nat_lit 0) (nat_lit 0), SV.row [Sh.int IntKind.i64] n f, SV.row [Sh.int IntKind.i64] n1 f1,
                    SV.lit (Value.int IntKind.i64 len), SV.lit (Value.int IntKind.i64 i)],
                  [(nat_lit 0,
                      some
                        (Blk.cells
                          [SV.lit (Value.int IntKind.i64 a), SV.lit (Value.int IntKind.i64 b),
                            SV.lit (Value.int IntKind.i64 c)]
                          (nat_lit 23)))]))
              (T.br (U.not (lk has a b c (f1 (U.toNat i)).1))
                (T.ret
                  (Ex.ret,
                    [SV.ptr (nat_lit 0) (nat_lit 0), SV.row [Sh.int IntKind.i64] n f, SV.row [Sh.int IntKind.i64] n1 f1,
                      SV.lit (Value.int IntKind.i64 len), SV.lit (Value.int IntKind.i64 i)],
                    [(nat_lit 0,
                        some
                          (Blk.cells
                            [SV.lit (Value.int IntKind.i64 a), SV.lit (Value.int IntKind.i64 b),
                              SV.lit (Value.int IntKind.i64 c)]
                            (nat_lit 23)))]))
                (T.br (U.ne (lk pos a b c (f1 (U.toNat i)).1) i)
                  (T.ret
                    (Ex.ret,
                      [SV.ptr (nat_lit 0) (nat_lit 0), SV.row [Sh.int IntKind.i64] n f,
                        SV.row [Sh.int IntKind.i64] n1 f1, SV.lit (Value.int IntKind.i64 len),
                        SV.lit (Value.int IntKind.i64 i)],
                      [(nat_lit 0,
                          some
                            (Blk.cells
                              [SV.lit (Value.int IntKind.i64 a), SV.lit (Value.int IntKind.i64 b),
                                SV.lit (Value.int IntKind.i64 c)]
                              (nat_lit 23)))]))
                  (T.ask (I64 a ∧ I64 b ∧ I64 c)
                    (T.br (U.not (lk has a b c (f1 (U.toNat i)).1))
                      (T.ret
                        (Ex.ret,
                          [SV.ptr (nat_lit 0) (nat_lit 0), SV.row [Sh.int IntKind.i64] n f,
                            SV.row [Sh.int IntKind.i64] n1 f1, SV.lit (Value.int IntKind.i64 len),
                            SV.lit (Value.int IntKind.i64 i)],
                          [(nat_lit 0,
                              some
                                (Blk.cells
                                  [SV.lit (Value.int IntKind.i64 a), SV.lit (Value.int IntKind.i64 b),
                                    SV.lit (Value.int IntKind.i64 c)]
                                  (nat_lit 23)))]))
                      (T.br (U.gt i (0 : Int))
                        (T.ask ((0 : Int) ≤ U.sub IntKind.i64 i (1 : Int) ∧ U.sub IntKind.i64 i (1 : Int) < ↑n)
                          (T.br
                            (U.ne (U.sub IntKind.i64 (f1 (U.toNat i)).1 (f (U.toNat (U.sub IntKind.i64 i (1 : Int)))).1)
                              c)
                            (T.ret
                              (Ex.ret,
                                [SV.ptr (nat_lit 0) (nat_lit 0), SV.row [Sh.int IntKind.i64] n f,
                                  SV.row [Sh.int IntKind.i64] n1 f1, SV.lit (Value.int IntKind.i64 len),
                                  SV.lit (Value.int IntKind.i64 i)],
                                [(nat_lit 0,
                                    some
                                      (Blk.cells
                                        [SV.lit (Value.int IntKind.i64 a), SV.lit (Value.int IntKind.i64 b),
                                          SV.lit (Value.int IntKind.i64 c)]
                                        (nat_lit 23)))]))
                            (T.ret
                              (Ex.normal,
                                [SV.ptr (nat_lit 0) (nat_lit 0), SV.row [Sh.int IntKind.i64] n f,
                                  SV.row [Sh.int IntKind.i64] n1 f1, SV.lit (Value.int IntKind.i64 len),
                                  SV.lit (Value.int IntKind.i64 (U.add IntKind.i64 i (1 : Int)))],
                                [(nat_lit 0,
                                    some
                                      (Blk.cells
                                        [SV.lit (Value.int IntKind.i64 a), SV.lit (Value.int IntKind.i64 b),
                                          SV.lit (Value.int IntKind.i64 c)]
                                        (nat_lit 23)))]))))
                        (T.ret
                          (Ex.normal,
                            [SV.ptr (nat_lit 0) (nat_lit 0), SV.row [Sh.int IntKind.i64] n f,
                              SV.row [Sh.int IntKind.i64] n1 f1, SV.lit (Value.int IntKind.i64 len),
                              SV.lit (Value.int IntKind.i64 (U.add IntKind.i64 i (1 : Int)))],
                            [(nat_lit 0,
                                some
                                  (Blk.cells
                                    [SV.lit (Value.int IntKind.i64 a), SV.lit (Value.int IntKind.i64 b),
                                      SV.lit (Value.int IntKind.i64 c)]
                                    (nat_lit 23)))]))))))))))))
    (T.ret
      (Ex.exit (nat_lit 0),
        [SV.ptr (nat_lit 0) (nat_lit 0), SV.row [Sh.int IntKind.i64] n f, SV.row [Sh.int IntKind.i64] n1 f1,
          SV.lit (Value.int IntKind.i64 len), SV.lit (Value.int IntKind.i64 i)],
        [(nat_lit 0,
            some
              (Blk.cells
                [SV.lit (Value.int IntKind.i64 a), SV.lit (Value.int IntKind.i64 b), SV.lit (Value.int IntKind.i64 c)]
                (nat_lit 23)))])) := by kernel_rfl
theorem roundO (n0 : Nat) (x : XO) (hx : PhiO n0 x) : ((sx E10 [] n0 (loopOf P 4 7) (mkS 121 [1, 3, 25, 26, 27] (VO x).1, (VO x).2)).bind (proj 121 [1, 3, 25, 26, 27])).All fun r => match r.1 with
      | .normal => ∃ x', PhiO n0 x' ∧ x'.n - x'.k < x.n - x.k ∧ Wk 121 [1, 3, 25, 26, 27] n0 r.2 (VO x') ∧ ∀ o, o = OO x' → o = OO x
      | e => ∃ s, (e, s) = OO x ∧ Wk 121 [1, 3, 25, 26, 27] n0 r.2 s := by
  obtain ⟨a, b, c, n, n1, f, f1, len, k⟩ := x
  unfold VO
  dsimp only
  refine T.all_of_eq (t_O n0 a b c n n1 f f1 len k) ?_
  obtain ⟨⟨h0, ha, hb, hc, hr, e1, e2, e3, e4, e5⟩, hk⟩ := hx
  simp only [] at h0 ha hb hc hr e1 e2 e3 e4 e5 hk
  have hend : Wk 121 [1, 3, 25, 26, 27] n0 ([.ptr 0 0, .row [.int .i64] n f, .row [.int .i64] n1 f1, .lit (.int .i64 len), .lit (.int .i64 k)], [(0, some (.cells [.lit (.int .i64 a), .lit (.int .i64 b), .lit (.int .i64 c)] 23))]) ([.ptr 0 0, .row [.int .i64] n f, .any, .any, .any], [(0, some (.cells [.lit (.int .i64 a), .lit (.int .i64 b), .lit (.int .i64 c)] 23))]) :=
    wk_of (idR 1) rfl h0 (fun b hb => idR_of (by omega)) ⟨⟨rfl, rfl⟩, ⟨rfl, sameRow_refl _ _⟩, trivial, trivial, trivial, trivial⟩ ⟨⟨rfl, ⟨rfl, rfl, rfl, trivial⟩⟩, trivial⟩
  have hnext : U.add .i64 k 1 = ((k + 1 : Nat) : Int) → k < n → ∃ x' : XO, PhiO n0 x' ∧ x'.n - x'.k < n - k ∧ Wk 121 [1, 3, 25, 26, 27] n0 ([.ptr 0 0, .row [.int .i64] n f, .row [.int .i64] n1 f1, .lit (.int .i64 len), .lit (.int .i64 (U.add .i64 k 1))], [(0, some (.cells [.lit (.int .i64 a), .lit (.int .i64 b), .lit (.int .i64 c)] 23))]) (VO x') ∧ ∀ o, o = OO x' → o = OO ⟨a, b, c, n, n1, f, f1, len, k⟩ := fun he hlt =>
    ⟨⟨a, b, c, n, n1, f, f1, len, k + 1⟩, ⟨⟨h0, ha, hb, hc, hr, e1, e2, e3, e4, e5⟩, hlt⟩, by simp only []; omega,
      wk_of (idR 1) rfl h0 (fun b hb => idR_of (by omega)) ⟨⟨rfl, rfl⟩, ⟨rfl, sameRow_refl _ _⟩, ⟨rfl, sameRow_refl _ _⟩, rfl, by rw [he]; rfl, trivial⟩ ⟨⟨rfl, ⟨rfl, rfl, rfl, trivial⟩⟩, trivial⟩, fun o ho => ho⟩
  by_cases hlt : k < n
  · have hab : a ≤ b := by
      by_cases hab : a ≤ b
      · exact hab
      · have := empty_of (c := c) hab; omega
    have hk' : (k : Int) < ofC a b c := by omega
    have hbnd := ofC_bnd hr
    have hadd : U.add .i64 (k : Int) 1 = ((k + 1 : Nat) : Int) := by rw [U.add64 (by unfold I64; omega)]; omega
    have f0 : nthE a b c k = 0 := (num_nth hr hk').1
    have f1' : nth a b c k = num a b c k := (num_nth hr hk').2
    have f2 := num_has hr hab hk'
    have f3 := num_pos hr hab hk'
    have g0 : (f1 (U.toNat (k : Int))).1 = num a b c k := by rw [U.toNat_eq]; exact e5 k hlt
    have b1 := num_between hr hab hk'
    simp only [T.All, U.le_t, U.le_f, U.lt_t, U.lt_f, U.gt_t, U.gt_f, U.ge_t, U.ge_f, U.eq_t, U.eq_f, U.ne_t, U.ne_f, U.not_t, U.not_f, U.andb_t, U.andb_f, SV.lit.injEq, SV.agg.injEq, SV.tup.injEq, List.cons.injEq, Value.int.injEq, Value.bool.injEq, true_and, and_true, lk_eq, g0, f0, f1', f2, f3, ha, hb, hc, and_self, true_and]
    have hsub : 0 < k → U.sub .i64 (k : Int) 1 = ((k - 1 : Nat) : Int) := fun h => by rw [U.sub64 (by unfold I64; omega)]; omega
    have hstep : 0 < k → U.sub .i64 (num a b c k) (f (U.toNat (U.sub .i64 (k : Int) 1))).1 = c := fun h => by
      rw [hsub h, U.toNat_eq]
      have hl := hr.1
      have hk1 : ((k - 1 : Nat) : Int) < ofC a b c := by omega
      have b2 := num_between hr hab hk1
      have e : (f ((((k - 1 : Nat) : Int)).toNat)).1 = num a b c (k - 1) := by rw [Int.toNat_natCast]; exact e4 (k - 1) (by omega)
      rw [e, U.sub64 (by unfold I64; omega)]
      have := num_step (k := k - 1) hr hab
      rwa [show k - 1 + 1 = k by omega] at this
    refine ⟨fun _ => ⟨⟨by omega, by omega⟩, fun h => absurd rfl h, fun _ => ⟨fun h => absurd rfl h, fun _ => ⟨(fun h => by cases h), fun _ => ⟨fun h => absurd rfl h, fun _ => ⟨(fun h => by cases h), fun _ => ⟨fun hgt => ⟨?_, fun h => absurd (hstep (by omega)) h, fun _ => hnext hadd hlt⟩, fun hle => hnext hadd hlt⟩⟩⟩⟩⟩⟩, fun h => absurd h (by omega)⟩
    rw [hsub (by omega)]; omega
  · have : (k : Int) = n := by omega
    simp only [T.All, U.le_t, U.le_f, U.lt_t, U.lt_f, U.gt_t, U.gt_f, U.ge_t, U.ge_f, U.eq_t, U.eq_f, U.ne_t, U.ne_f, U.not_t, U.not_f, U.andb_t, U.andb_f, SV.lit.injEq, SV.agg.injEq, SV.tup.injEq, List.cons.injEq, Value.int.injEq, Value.bool.injEq, true_and, and_true, lk_eq]
    exact ⟨fun h => absurd h (by omega), fun _ => ⟨_, rfl, hend⟩⟩

theorem loopO : LoopOK P (loopOf P 4 7) (few 121 [1, 3, 25, 26, 27] gO) :=
  loop_few (E := E10) mixed E10_ok loopsOK_none 121 [1, 3, 25, 26, 27] (X := XO) gO (fun _ x => VO x) PhiO (fun x => x.n - x.k) (fun _ x o => o = OO x)
    (fun n0 s r h => by
      unfold gO at h
      split at h
      · rename_i n0 n f n1 f1 len a b c
        obtain ⟨h0, ha, hb, hc, hr, e1, e2, e3, e4, e5⟩ := (T.is_ask h).1
        obtain rfl := T.is_ret (T.is_ask h).2
        refine ⟨⟨a, b, c, n, n1, f, f1, len, 0⟩, ⟨⟨h0, ha, hb, hc, hr, e1, e2, e3, e4, e5⟩, Nat.zero_le _⟩, ?_, fun o ho => ho⟩
        refine wk_of (idR 1) rfl h0 (fun b hb => idR_of (by omega)) ?_ ?_
        · exact ⟨⟨rfl, rfl⟩, ⟨rfl, sameRow_refl _ _⟩, ⟨rfl, sameRow_refl _ _⟩, rfl, rfl, trivial⟩
        · exact ⟨⟨rfl, ⟨rfl, rfl, rfl, trivial⟩⟩, trivial⟩
      · exact h.elim)
    roundO

noncomputable abbrev l4 : List (Nat × Loops) := [(4, [(7, .sum (few 121 [1, 3, 25, 26, 27] gO))])] --%K
theorem l4_ok : ∀ p ∈ l4, LoopsOK P p.2 (bodyOf P p.1) := by
  intro p hp
  simp only [l4, List.mem_singleton] at hp
  subst hp
  refine loopsOK_of (by kernel_rfl) fun k g hk => ?_
  simp only [List.mem_singleton, Prod.mk.injEq, LoopC.sum.injEq] at hk
  obtain ⟨rfl, rfl⟩ := hk
  exact loopO

noncomputable def c_SpanOrders : Con := fun args => match args with
  | [.agg [.lit (.int .i64 a), .lit (.int .i64 b), .lit (.int .i64 c)]] => .ask (I64 a ∧ I64 b ∧ I64 c) (.ret (.lit (.bool true)))
  | _ => .stuck 1
set_option maxRecDepth 100000 in
theorem t_SpanOrders (a b c : Int) : conB Go.Proofs.Try.prog (conOf k10) (loopsOf l4) 10 4 [.agg [.lit (.int .i64 a), .lit (.int .i64 b), .lit (.int .i64 c)]] =
    T.ask (I64 a ∧ I64 b ∧ I64 c)
    (T.br (U.not (lk smallB a b c)) (T.ret (SV.lit (Value.bool true)))
      (T.ask (I64 a ∧ I64 b ∧ I64 c ∧ (0 : Int) ≤ (401 : Int) ∧ (401 : Int) ≤ (1000000 : Int))
        (T.ask (I64 a ∧ I64 b ∧ I64 c)
          (T.br (U.ne (Int.ofNat (lk numsN a b c (401 : Int))) (lk size a b c)) (T.ret (SV.lit (Value.bool false)))
            (T.ask
              (PreO (nat_lit 0) a b c (lk numsN a b c (401 : Int)) (lk numsN a b c (401 : Int))
                (fun k => (lk num a b c k, ())) (fun k => (lk num a b c k, ())) ↑(lk numsN a b c (401 : Int)))
              (T.ask (I64 a ∧ I64 b ∧ I64 c)
                (T.br (U.ne (lk nthE a b c (Int.ofNat (lk numsN a b c (401 : Int)))) (4 : Int))
                  (T.ret (SV.lit (Value.bool false)))
                  (T.br (U.lt c (-1000000 : Int)) (T.ret (SV.lit (Value.bool true)))
                    (T.br (U.gt c (1000000 : Int)) (T.ret (SV.lit (Value.bool true)))
                      (T.br (U.eq (lk ofErr a b c) (0 : Int))
                        (T.br
                          (U.andb (U.eq (lk ofLow a b c) a)
                            (U.andb (U.eq (lk ofHigh a b c) b) (U.eq (lk ofStr a b c) c)))
                          (T.ret (SV.lit (Value.bool true))) (T.ret (SV.lit (Value.bool false))))
                        (T.ret (SV.lit (Value.bool false))))))))))))) := by kernel_rfl
theorem SpanOrders_ok : ConOK P 4 c_SpanOrders := con_of (allOKL mixed k10_ok l4_ok) 10 4 fun args r h => by
  unfold c_SpanOrders at h
  split at h
  · rename_i a b c
    have hp := (T.is_ask h).1
    have h := (T.is_ask h).2
    obtain rfl := T.is_ret h
    rw [t_SpanOrders]
    obtain ⟨ha, hb, hc⟩ := hp
    cases hs : smallB a b c
    · simp only [T.All, U.le_t, U.le_f, U.lt_t, U.lt_f, U.gt_t, U.gt_f, U.ge_t, U.ge_f, U.eq_t, U.eq_f, U.ne_t, U.ne_f, U.not_t, U.not_f, U.andb_t, U.andb_f, SV.lit.injEq, SV.agg.injEq, SV.tup.injEq, List.cons.injEq, Value.int.injEq, Value.bool.injEq, true_and, and_true, lk_eq, hs, ha, hb, hc, and_self]
      simp
    · have hs' := of_decide_eq_true hs
      have hr := chk_zero.1 hs'.1
      have hsz := size_eq' hr
      have h400 : ofC a b c ≤ 400 := by rw [← hsz]; exact hs'.2
      have hbnd := ofC_bnd hr
      have hn : ((numsN a b c 401 : Nat) : Int) = ofC a b c := by unfold numsN; rw [hsz]; omega
      have hpre : PreO 0 a b c (numsN a b c 401) (numsN a b c 401) (fun k => (num a b c k, ())) (fun k => (num a b c k, ())) ((numsN a b c 401 : Nat) : Int) :=
        ⟨by omega, ha, hb, hc, hr, hn, hn, hn, fun _ _ => rfl, fun _ _ => rfl⟩
      rw [hn] at hpre
      have hnE : nthE a b c (ofC a b c) = 4 := by
        unfold nthE; rw [if_neg (by rw [chk_zero.2 hr]; simp), if_pos (by omega)]
      simp only [T.All, U.le_t, U.le_f, U.lt_t, U.lt_f, U.gt_t, U.gt_f, U.ge_t, U.ge_f, U.eq_t, U.eq_f, U.ne_t, U.ne_f, U.not_t, U.not_f, U.andb_t, U.andb_f, SV.lit.injEq, SV.agg.injEq, SV.tup.injEq, List.cons.injEq, Value.int.injEq, Value.bool.injEq, true_and, and_true, lk_eq, Int.ofNat_eq_natCast, hs, hpre, hn, hsz, hnE, ha, hb, hc, and_self]
      by_cases h1 : c < -1000000
      · simp [h1, hpre]
        omega
      · by_cases h2 : c > 1000000
        · simp [h1, h2, hpre]
          omega
        · obtain ⟨q1, q2, q3, q4⟩ := of_self hr (by omega) (by omega)
          rw [q1, q2, q3, q4]
          simp [h1, h2, hpre]
  · exact h.elim

theorem SpanOrders_walk (a b c : Int) (ha : I64 a) (hb : I64 b) (hc : I64 c) (w : World) :
    Calls P 4 #[.agg #[.int .i64 a, .int .i64 b, .int .i64 c]] w fun e w' => e = .returned (.bool true) ∧ Go.RowKit.Below w.heap.size w w' :=
  (SpanOrders_ok [.agg [.lit (.int .i64 a), .lit (.int .i64 b), .lit (.int .i64 c)]] (.lit (.bool true)) ⟨⟨ha, hb, hc⟩, rfl⟩ (fun _ => False) w
    [.agg #[.int .i64 a, .int .i64 b, .int .i64 c]] (fun _ h => h.elim) ⟨_, _, rfl, ⟨[_, _, _], rfl, _, _, rfl, rfl, _, _, rfl, rfl, _, _, rfl, rfl, rfl⟩, rfl⟩).mono
    fun e w' ⟨v, h1, h2, h3⟩ => ⟨by rw [h1, show v = .bool true from h3], h2⟩
end Go.RX.Span
