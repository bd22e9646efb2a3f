/- The law's list of all indices: the walk. -/
import Derived.Test.YtoncmmlgpecklaaPGe
import Derived.Test.YtoncmmlgpecklaaPGd
set_option linter.unusedVariables false
set_option linter.unusedSimpArgs false
set_option maxRecDepth 100000
namespace Go.RX.Span
open Go Go.RX
attribute [local irreducible] sx conB

set_option maxRecDepth 100000 in
theorem t_L (n : Nat) (f : Nat → R3) (k s h : Int) (u : Bool) (i : Nat) (L : Nat → R2) (p x y : Int) : (sxR El [] 5 #[13, 14] asL bdL [.int .i64 p, .agg #[.int .i64 x, .int .i64 y]] (mkS 28 [1,2,3,4] slL, memL n f k s h u i L)).bind (fun r => .ret (r.1, r.2.2)) =
    T.br (U.ne p (Int.ofNat i)) (.ret (Ex.ret, [(nat_lit 0, some (Blk.cells [.row [.int .i64, .int .i64, .int .i64] n f, .lit (.int .i64 k), .lit (.int .i64 s), .lit (.int .i64 h)]
      (nat_lit 49))), (nat_lit 1, some (Blk.cells [.lit (.slice none (nat_lit 0) (nat_lit 0))] (nat_lit 99))), (nat_lit 1, some (Blk.cells [SV.kb false] (nat_lit 4))), (nat_lit 0, some
      (Blk.cells [SV.own u (nat_lit 4) i] (nat_lit 99))), (nat_lit 0, some (Blk.row u i [.int .i64, .int .i64] L (nat_lit 103))), (nat_lit 1, some (Blk.cells [.lit (.int .i64 x), .lit
      (.int .i64 y)] (nat_lit 103)))])) (.br (U.gt p (500 : Int)) (.ret (Ex.ret, [(nat_lit 0, some (Blk.cells [.row [.int .i64, .int .i64, .int .i64] n f, .lit (.int .i64 k), .lit (.int
      .i64 s), .lit (.int .i64 h)] (nat_lit 49))), (nat_lit 1, some (Blk.cells [.lit (.slice none (nat_lit 0) (nat_lit 0))] (nat_lit 99))), (nat_lit 1, some (Blk.cells [SV.kb false]
      (nat_lit 4))), (nat_lit 0, some (Blk.cells [SV.own u (nat_lit 4) i] (nat_lit 99))), (nat_lit 0, some (Blk.row u i [.int .i64, .int .i64] L (nat_lit 103))), (nat_lit 1, some
      (Blk.cells [.lit (.int .i64 x), .lit (.int .i64 y)] (nat_lit 103)))])) (.ask ((i + (1 : Nat)) * nat_lit 16 ≤ nat_lit 140737488351232) (.ret (Ex.normal, [(nat_lit 0, some (Blk.cells
      [.row [.int .i64, .int .i64, .int .i64] n f, .lit (.int .i64 k), .lit (.int .i64 s), .lit (.int .i64 h)] (nat_lit 49))), (nat_lit 0, some (Blk.cells [.lit (.slice none (nat_lit 0)
      (nat_lit 0))] (nat_lit 99))), (nat_lit 0, some (Blk.cells [.lit (.bool false)] (nat_lit 4))), (nat_lit 1, some (Blk.cells [SV.own false (nat_lit 7) (i.add (nat_lit 1))] (nat_lit
      99))), (nat_lit 1, none), (nat_lit 1, some (Blk.cells [.lit (.int .i64 x), .lit (.int .i64 y)] (nat_lit 103))), (nat_lit 0, some (Blk.cells [.lit (.int .i64 x), .lit (.int .i64 y)]
      (nat_lit 103))), (nat_lit 0, some (Blk.row false (i.add (nat_lit 1)) [.int .i64, .int .i64] (U.cat i L fun x_1 => (x, y, PUnit.unit)) (nat_lit 103)))])))) := by kernel_rfl
set_option maxRecDepth 100000 in
theorem t_DLAll (n : Nat) (f : Nat → R3) (k s h : Int) : conB Go.Proofs.Try.prog (conOf kL) (loopsOf lL) 10 99 [.agg [.row [.int .i64, .int .i64, .int .i64] n f, .lit (.int .i64 k), .lit (.int .i64 s), .lit (.int .i64 h)]] =
    T.ask (Row64 n ((fun x => ((n, f), k, s, h, ())) (0 : Nat)).fst.snd) (.ask (PreL (nat_lit 0) n f (lk szDn n f k s h) (lk szDn n f k s h, lk elD n ((fun x => ((n, f), k, s, h, ()))
      (0 : Nat)).fst.snd).snd ∧ (49 : Nat) = (49 : TypeId) ∧ (99 : Nat) = (99 : TypeId) ∧ (4 : Nat) = (4 : TypeId) ∧ (99 : Nat) = (99 : TypeId)) (.ret (.tup [.row [.int .i64, .int .i64]
      (lk szDn n f k s h) (lk idF n f), .lit (.bool true)]))) := by kernel_rfl
theorem ren5 {k : Nat} {z : Option Nat} (hk : k ≤ 3) : ∀ b, b < k → Ren.of [some 0, some 1, some 2, some 3, z] b = some b := fun b hb => by
  rcases (show b = 0 ∨ b = 1 ∨ b = 2 by omega) with rfl | rfl | rfl <;> rfl
theorem row2S {n : Nat} {f g : Nat → R2} (h : ∀ i, i < n → f i = g i) : sameRow n f g := ⟨eqShs_refl _, fun i hi => h i hi⟩
theorem rangeL : RangeC P cdL (rfew 28 [1,2,3,4] gL) := by
  refine range_few (E := El) (L := []) mixed (envOK (allOK mixed none_ok) 10) (g0 := .tmp 12) (ps := #[13, 14]) (assign := asL) (body := bdL) (by kernel_rfl) loopsOK_none loopsOK_none 28 [1,2,3,4] (by decide) (X := XL) gL
    (fun _ _ => slL) (fun _ q i => memL q.n q.f q.k q.s q.h (uL i) i (idF q.n q.f)) (fun q => q.c) (fun q => q.el) (fun n0 q => PreL n0 q.n q.f q.c q.el)
    (fun _ _ _ => True) (fun _ q o => o = (.normal, (slL, memL q.n q.f q.k q.s q.h (uL q.c) q.c (idF q.n q.f))))
    (fun _ _ => rfl) ?_ ?_ ?_ ?_ ?_
  · intro m0 c0 el0 st r h
    unfold gL at h
    split at h
    · rename_i e0 n f k s h' t0 e1 t1 e2 t2 e3 t3
      obtain ⟨hp, rfl, rfl, rfl, rfl⟩ := (T.is_ask h).1
      obtain rfl := T.is_ret (T.is_ask h).2
      have h0 := hp.1
      refine ⟨⟨n, f, k, s, h', c0, el0⟩, hp, rfl, rfl, wk_of [some 0, some 1, some 2, some 3, none] rfl (Nat.le_trans h0 (show 3 ≤ 5 by omega)) (ren5 h0) ⟨⟨rfl, rfl⟩, ⟨rfl, rfl⟩, ⟨rfl, rfl⟩, ⟨rfl, rfl⟩, trivial⟩ ⟨⟨rfl, ⟨rfl, sameR fun _ _ => rfl⟩, rfl, rfl, rfl, trivial⟩, ⟨rfl, rfl, trivial⟩, ⟨rfl, rfl, trivial⟩, ⟨rfl, ⟨rfl, rfl, rfl⟩, trivial⟩, ⟨rfl, rfl⟩, trivial⟩, trivial, fun o ho => by rw [ho]; simp only [lk_eq]⟩
    · exact h.elim
  · intro n0 q i hq hi
    show (q.el i).length = 2
    rw [hq.2.2]; rfl
  · intro n0 q i hq
    exact Nat.le_trans hq.1 (show 3 ≤ 5 by omega)
  · intro n0 q i hq hi _
    obtain ⟨n, f, k, s, h, c, el⟩ := q
    obtain ⟨h0, hc, hel⟩ := hq
    simp only [] at h0 hc hel hi
    subst hel
    have ex : elD n f i = [.int .i64 (i : Int), .agg #[.int .i64 (idX n f i), .int .i64 (idY n f i)]] := by unfold elD; rw [ixD_eq]; rfl
    show ((sxR El [] 5 #[13, 14] asL bdL (elD n f i) (mkS 28 [1,2,3,4] slL, memL n f k s h (uL i) i (idF n f))).bind (fun r => .ret (r.1, r.2.2))).All _
    rw [ex, t_L]
    refine ⟨fun h => absurd rfl (U.ne_t.mp h), fun _ => ⟨fun h => absurd (U.gt_t.mp h) (by omega), fun _ => ⟨(by show (i + 1) * 16 ≤ 140737488351232; omega), trivial, ?_⟩⟩⟩
    have eu : uL (i + 1) = false := rfl
    rw [eu]
    refine wk_of [some 0, some 1, some 2, some 3, some 7] rfl (Nat.le_trans h0 (show 3 ≤ 5 by omega)) (ren5 h0) ⟨⟨rfl, rfl⟩, ⟨rfl, rfl⟩, ⟨rfl, rfl⟩, ⟨rfl, rfl⟩, trivial⟩ ⟨⟨rfl, ⟨rfl, sameR fun _ _ => rfl⟩, rfl, rfl, rfl, trivial⟩, ⟨rfl, rfl, trivial⟩, ⟨rfl, rfl, trivial⟩, ⟨rfl, ⟨rfl, rfl, rfl⟩, trivial⟩, ⟨rfl, rfl, rfl, row2S fun j hj => ?_⟩, trivial⟩
    by_cases hj' : j < i
    · exact (U.cat_eq _ _ _ _).trans (if_pos hj')
    · have hj : j < i + 1 := hj
      obtain rfl : j = i := by omega
      exact (U.cat_eq _ _ _ _).trans (if_neg hj')
  · intro n0 q hq _
    obtain ⟨n, f, k, s, h, c, el⟩ := q
    have h0 := hq.1
    exact ⟨_, rfl, wk_of [some 0, some 1, some 2, some 3, some 4] rfl (Nat.le_trans h0 (show 3 ≤ 5 by omega)) (ren5 h0) ⟨⟨rfl, rfl⟩, ⟨rfl, rfl⟩, ⟨rfl, rfl⟩, ⟨rfl, rfl⟩, trivial⟩ ⟨⟨rfl, ⟨rfl, sameR fun _ _ => rfl⟩, rfl, rfl, rfl, trivial⟩, ⟨rfl, rfl, trivial⟩, ⟨rfl, rfl, trivial⟩, ⟨rfl, ⟨rfl, rfl, rfl⟩, trivial⟩, ⟨rfl, rfl, rfl, row2S fun j hj => rfl⟩, trivial⟩⟩
theorem lL_ok : ∀ p ∈ lL, LoopsOK P p.2 (bodyOf P p.1) := by
  intro p hp
  simp only [lL, List.mem_singleton] at hp
  subst hp
  refine loopsOK_ofR (by kernel_rfl) (by kernel_rfl) (fun k g hk => by simp at hk) fun k gf sc g hk => ?_
  simp only [List.mem_singleton, Prod.mk.injEq, LoopC.rng.injEq] at hk
  obtain ⟨rfl, rfl, rfl, rfl⟩ := hk
  exact ⟨sc209_ok, rangeL⟩
theorem DLAll_ok : ConOK P 99 c_DLAll := con_of (allOKL mixed kL_ok lL_ok) 10 99 fun args r h => by
  unfold c_DLAll at h
  split at h
  · rename_i n f k s h'
    obtain ⟨hp, hc⟩ := (T.is_ask h).1
    rw [lk_eq] at hc
    obtain rfl := T.is_ret (T.is_ask h).2
    rw [t_DLAll]
    simp only [lk_eq]
    exact ⟨hp, ⟨⟨by omega, hc, rfl⟩, trivial, trivial, trivial, trivial⟩, rfl⟩
  · exact h.elim
end Go.RX.Span

/- Indices compared, sorted: contracts. -/
set_option linter.unusedVariables false
set_option linter.unusedSimpArgs false
set_option maxRecDepth 100000
namespace Go.RX.Span
open Go Go.RX
attribute [local irreducible] sx conB

def cmpI (x y : Int) : Int := if x < y then -1 else if x > y then 1 else 0
noncomputable def c_cmp : Con := fun args => match args with
  | [.lit (.int .i64 x), .lit (.int .i64 y)] => .ret (.lit (.int .i64 (lk cmpI x y)))
  | _ => .stuck 1
def cmp2 (x y : R2) : Int := if cmpI x.1 y.1 ≠ 0 then cmpI x.1 y.1 else cmpI x.2.1 y.2.1
def two1 (f : Nat → R1) : R2 := ((f 0).1, (f 1).1, ())
noncomputable def c_Compare2 : Con := fun args => match args with
  | [.row [.int .i64] n f, .row [.int .i64] m g] => .ask (n = 2 ∧ m = 2) (.ret (.lit (.int .i64 (lk cmp2 (lk two1 f) (lk two1 g)))))
  | _ => .stuck 1
noncomputable def c_DO1 : Con := fun args => match args with
  | [.agg [.lit (.int .i64 a), .lit (.int .i64 b)], .agg [.lit (.int .i64 x), .lit (.int .i64 y)]] => .ret (.lit (.int .i64 (lk cmp2 (a, b, ()) (x, y, ()))))
  | _ => .stuck 1
noncomputable abbrev lCp : List (Nat × Loops) := [(102, [(2, .un 3)])]
noncomputable abbrev kC1 : List (Nat × Con) := [(173, c_cmp)]
noncomputable abbrev kC2 : List (Nat × Con) := (102, c_Compare2) :: kC1
noncomputable abbrev kC3 : List (Nat × Con) := (101, c_DO1) :: kC2
end Go.RX.Span

/- Indices compared: the walks. -/
set_option linter.unusedVariables false
set_option linter.unusedSimpArgs false
set_option maxRecDepth 100000
namespace Go.RX.Span
open Go Go.RX
attribute [local irreducible] sx conB

--%R ↑\((\d+)\s+:\s+Nat\) => ((\1 : Nat) : Int)
--%R ofList\s+\[\((\S+),\s+\(\)\) => ofList (ss := [.int .i64]) [(\1, ())
set_option maxRecDepth 100000 in
theorem t_cmp (x y : Int) : conB Go.Proofs.Try.prog (conOf []) noLoops 10 173 [.lit (.int .i64 x), .lit (.int .i64 y)] =
    T.br (U.ne x x) (.br (U.ne y y) (.ret (.lit (.int .i64 0))) (.ret (.lit (.int .i64 (-1 : Int))))) (.br (U.ne y y) (.ret (.lit (.int .i64 1))) (.br (U.lt x y) (.ret (.lit (.int .i64
      (-1 : Int)))) (.br (U.gt x y) (.ret (.lit (.int .i64 1))) (.ret (.lit (.int .i64 0)))))) := by kernel_rfl
set_option maxRecDepth 100000 in
theorem t_Compare (n : Nat) (f : Nat → R1) (m : Nat) (g : Nat → R1) : conB Go.Proofs.Try.prog (conOf kC1) (loopsOf lCp) 10 102 [.row [.int .i64] n f, .row [.int .i64] m g] =
    T.br (U.lt (0 : Int) (Int.ofNat n)) (.ask ((0 : Int) ≤ (0 : Int) ∧ (0 : Int) < ↑n) (.br (U.ge (0 : Int) (Int.ofNat m)) (.ret (.lit (.int .i64 1))) (.ask ((0 : Int) ≤ (0 : Int) ∧ (0
      : Int) < ↑m) (.br (U.ne (lk cmpI (f (U.toNat (Int.ofNat 0))).1 (g (U.toNat (Int.ofNat 0))).1) (0 : Int)) (.ret (.lit (.int .i64 (lk cmpI (f (U.toNat (Int.ofNat 0))).1 (g (U.toNat
      (Int.ofNat 0))).1)))) (.br (U.lt (1 : Int) (Int.ofNat n)) (.ask ((0 : Int) ≤ (1 : Int) ∧ (1 : Int) < ↑n) (.br (U.ge (1 : Int) (Int.ofNat m)) (.ret (.lit (.int .i64 1))) (.ask ((0 :
      Int) ≤ (1 : Int) ∧ (1 : Int) < ↑m) (.br (U.ne (lk cmpI (f (U.toNat (Int.ofNat 1))).1 (g (U.toNat (Int.ofNat 1))).1) (0 : Int)) (.ret (.lit (.int .i64 (lk cmpI (f (U.toNat (Int.ofNat
      1))).1 (g (U.toNat (Int.ofNat 1))).1)))) (.br (U.lt (2 : Int) (Int.ofNat n)) (.ask ((0 : Int) ≤ (2 : Int) ∧ (2 : Int) < ↑n) (.br (U.ge (2 : Int) (Int.ofNat m)) (.ret (.lit (.int
      .i64 1))) (.ask ((0 : Int) ≤ (2 : Int) ∧ (2 : Int) < ↑m) (.br (U.ne (lk cmpI (f (U.toNat (Int.ofNat 2))).1 (g (U.toNat (Int.ofNat 2))).1) (0 : Int)) (.ret (.lit (.int .i64 (lk cmpI
      (f (U.toNat (Int.ofNat 2))).1 (g (U.toNat (Int.ofNat 2))).1)))) (.stuck (nat_lit 105)))))) (.br (U.lt (Int.ofNat n) (Int.ofNat m)) (.ret (.lit (.int .i64 (-1 : Int)))) (.ret (.lit
      (.int .i64 0))))))))) (.br (U.lt (Int.ofNat n) (Int.ofNat m)) (.ret (.lit (.int .i64 (-1 : Int)))) (.ret (.lit (.int .i64 0))))))))) (.br (U.lt (Int.ofNat n) (Int.ofNat m)) (.ret
      (.lit (.int .i64 (-1 : Int)))) (.ret (.lit (.int .i64 0)))) := by kernel_rfl
set_option maxRecDepth 100000 in
theorem t_DO1 (a b x y : Int) : conB Go.Proofs.Try.prog (conOf kC2) noLoops 10 101 [.agg [.lit (.int .i64 a), .lit (.int .i64 b)], .agg [.lit (.int .i64 x), .lit (.int .i64 y)]] =
    T.ask ((0 : Int) ≤ ((2 : Nat) : Int) ∧ ((2 : Nat) : Int) ≤ ((2 : Nat) : Int)) (.ask ((0 : Int) ≤ ((2 : Nat) : Int) ∧ ((2 : Nat) : Int) ≤ ((2 : Nat) : Int)) (.ask (U.toNat (2 : Int)
      = (2 : Nat) ∧ U.toNat (2 : Int) = (2 : Nat)) (.ret (.lit (.int .i64 (lk cmp2 (lk two1 (ofList (ss := [.int .i64]) [(b, ()), (a, ())].reverse)) (lk two1 (ofList (ss := [.int .i64])
      [(y, ()), (x, ())].reverse)))))))) := by kernel_rfl
theorem cmp_ok : ConOK P 173 c_cmp := con_of (allOK mixed none_ok) 10 173 fun args r h => by
  unfold c_cmp at h
  split at h
  · rename_i x y
    obtain rfl := T.is_ret h
    rw [t_cmp]
    simp only [lk_eq]
    unfold cmpI
    refine ⟨fun h => absurd rfl (U.ne_t.mp h), fun _ => ⟨fun h => absurd rfl (U.ne_t.mp h), fun _ => ⟨fun h1 => ?_, fun h1 => ⟨fun h2 => ?_, fun h2 => ?_⟩⟩⟩⟩
    · rw [if_pos (U.lt_t.mp h1)]
      exact rfl
    · have h1 := U.lt_f.mp h1
      rw [if_neg (by omega), if_pos (U.gt_t.mp h2)]
      exact rfl
    · have h1 := U.lt_f.mp h1
      have h2 := U.gt_f.mp h2
      rw [if_neg (by omega), if_neg (by omega)]
      exact rfl
  · exact h.elim
theorem kC1_ok : ∀ p ∈ kC1, ConOK P p.1 p.2 := by
  intro p hp
  simp only [kC1, List.mem_singleton] at hp
  subst hp
  exact cmp_ok
theorem lCp_ok : ∀ p ∈ lCp, LoopsOK P p.2 (bodyOf P p.1) := by
  intro p hp
  simp only [lCp, List.mem_singleton] at hp
  subst hp
  exact loopsOK_un fun q hq => by simp only [List.mem_singleton] at hq; subst hq; exact ⟨3, rfl⟩
theorem Compare2_ok : ConOK P 102 c_Compare2 := con_of (allOKL mixed kC1_ok lCp_ok) 10 102 fun args r h => by
  unfold c_Compare2 at h
  split at h
  · rename_i n f m g
    obtain ⟨rfl, rfl⟩ := (T.is_ask h).1
    obtain rfl := T.is_ret (T.is_ask h).2
    rw [t_Compare]
    simp only [tn, lk_eq]
    have e : cmp2 (two1 f) (two1 g) = if cmpI (f 0).1 (g 0).1 ≠ 0 then cmpI (f 0).1 (g 0).1 else cmpI (f 1).1 (g 1).1 := rfl
    rw [e]
    refine ⟨fun _ => ⟨by omega, fun h => absurd (U.ge_t.mp h) (by decide), fun _ => ⟨by omega, fun h0 => ?_, fun h0 => ⟨fun _ => ⟨by omega, fun h => absurd (U.ge_t.mp h) (by decide), fun _ => ⟨by omega, fun h1 => ?_, fun h1 => ⟨fun h => absurd (U.lt_t.mp h) (by decide), fun _ => ⟨fun h => absurd (U.lt_t.mp h) (by decide), fun _ => ?_⟩⟩⟩⟩, fun h => absurd (U.lt_f.mp h) (by decide)⟩⟩⟩, fun h => absurd (U.lt_f.mp h) (by decide)⟩
    · rw [if_pos (U.ne_t.mp h0)]
      exact rfl
    · have h0 := U.ne_f.mp h0
      rw [if_neg (fun h => h h0)]
      exact rfl
    · have h0 := U.ne_f.mp h0
      have h1 := U.ne_f.mp h1
      rw [if_neg (fun h => h h0), h1]
      exact rfl
  · exact h.elim
theorem kC2_ok : ∀ p ∈ kC2, ConOK P p.1 p.2 := by
  intro p hp
  rcases List.mem_cons.1 hp with rfl | hp
  · exact Compare2_ok
  · exact kC1_ok p hp
theorem DO1_ok : ConOK P 101 c_DO1 := con_of (allOK mixed kC2_ok) 10 101 fun args r h => by
  unfold c_DO1 at h
  split at h
  · rename_i a b x y
    obtain rfl := T.is_ret h
    rw [t_DO1]
    simp only [lk_eq, U.toNat_eq]
    exact ⟨by omega, by omega, ⟨rfl, rfl⟩, rfl⟩
  · exact h.elim
end Go.RX.Span

/- A list of indices is sorted: the states. -/
set_option linter.unusedVariables false
set_option linter.unusedSimpArgs false
set_option maxRecDepth 100000
namespace Go.RX.Span
open Go Go.RX
attribute [local irreducible] sx conB

def Srt (n : Nat) (F : Nat → R2) : Prop := n ≤ 100000 ∧ ∀ i, i + 1 < n → 0 ≤ cmp2 (F (i + 1)) (F i)
noncomputable def c_IsSorted : Con := fun args => match args with
  | [.row [.int .i64, .int .i64] n F, .fn (.func 101) [] []] => .ask (Srt n F) (.ret (.lit (.bool true)))
  | _ => .stuck 1
structure XS2 where
  (n : Nat) (F : Nat → R2) (i : Int)
noncomputable abbrev slS2 (n : Nat) (F : Nat → R2) (i : Int) : List SV := [.row [.int .i64, .int .i64] n F, .fn (.func 101) [] [], .lit (.int .i64 i)]
noncomputable def VS2 (q : XS2) : Few := (slS2 q.n q.F q.i, [])
def PhiS2 (n0 : Nat) (q : XS2) : Prop := n0 = 0 ∧ Srt q.n q.F ∧ -1 ≤ q.i ∧ q.i < q.n
noncomputable def gS2 : Nat → Few → T (Ex × Few)
  | n0, ([.row [.int .i64, .int .i64] n F, .fn (.func 101) [] [], .lit (.int .i64 i)], []) => .ask (n0 = 0 ∧ Srt n F ∧ -1 ≤ i ∧ i < (n : Int)) (.ret (.exit 0, ([.any, .any, .any], [])))
  | _, _ => .stuck 1
noncomputable abbrev lS2 : List (Nat × Loops) := [(100, [(2, .sum (few 25 [0,1,5] gS2))])]
theorem kC3_ok : ∀ p ∈ kC3, ConOK P p.1 p.2 := by
  intro p hp
  rcases List.mem_cons.1 hp with rfl | hp
  · exact DO1_ok
  · exact kC2_ok p hp
noncomputable abbrev Es2 : Env := ⟨P, conOf kC3, scall P (conOf kC3) noLoops 10⟩
theorem Es2_ok : EnvOK Es2 := envOK (allOK mixed kC3_ok) 10
end Go.RX.Span

/- A list of indices is sorted: the walk. -/
set_option linter.unusedVariables false
set_option linter.unusedSimpArgs false
set_option maxRecDepth 100000
namespace Go.RX.Span
open Go Go.RX
attribute [local irreducible] sx conB

set_option maxRecDepth 100000 in
theorem t_S2 (n0 n : Nat) (F : Nat → R2) (i : Int) : (sx Es2 [] n0 (loopOf P 100 2) (mkS 25 [0,1,5] (slS2 n F i), [])).bind (proj 25 [0,1,5]) =
    T.br (U.gt i (0 : Int)) (.ask ((0 : Int) ≤ i ∧ i < ↑n) (.ask ((0 : Int) ≤ U.sub .i64 i (1 : Int) ∧ U.sub .i64 i (1 : Int) < ↑n) (.br (U.lt (lk cmp2 ((F (U.toNat i)).1, (F (U.toNat
      i)).2.1, PUnit.unit) ((F (U.toNat (U.sub .i64 i (1 : Int)))).1, (F (U.toNat (U.sub .i64 i (1 : Int)))).2.1, PUnit.unit)) (0 : Int)) (.ret (Ex.ret, [.row [.int .i64, .int .i64] n F,
      SV.fn (Fn.func (nat_lit 101)) [] [], .lit (.int .i64 i)], [])) (.ret (Ex.normal, [.row [.int .i64, .int .i64] n F, SV.fn (Fn.func (nat_lit 101)) [] [], .lit (.int .i64 (U.sub .i64 i
      (1 : Int)))], []))))) (.ret (Ex.exit (nat_lit 0), [.row [.int .i64, .int .i64] n F, SV.fn (Fn.func (nat_lit 101)) [] [], .lit (.int .i64 i)], [])) := by kernel_rfl
set_option maxRecDepth 100000 in
theorem t_IsSorted (n : Nat) (F : Nat → R2) : conB Go.Proofs.Try.prog (conOf kC3) (loopsOf lS2) 10 100 [.row [.int .i64, .int .i64] n F, .fn (.func 101) [] []] =
    T.ask (nat_lit 0 = (0 : Nat) ∧ Srt n F ∧ (-1 : Int) ≤ U.sub .i64 (Int.ofNat n) (1 : Int) ∧ U.sub .i64 (Int.ofNat n) (1 : Int) < ↑n) (.ret (.lit (.bool true))) := by kernel_rfl
theorem roundS2 (n0 : Nat) (q : XS2) (hq : PhiS2 n0 q) : ((sx Es2 [] n0 (loopOf P 100 2) (mkS 25 [0,1,5] (VS2 q).1, (VS2 q).2)).bind (proj 25 [0,1,5])).All fun r => match r.1 with
      | .normal => ∃ q', PhiS2 n0 q' ∧ q'.i.toNat < q.i.toNat ∧ Wk 25 [0,1,5] n0 r.2 (VS2 q') ∧ ∀ o, o = ((.exit 0, ([.any, .any, .any], [])) : Ex × Few) → o = ((.exit 0, ([.any, .any, .any], [])) : Ex × Few)
      | e => ∃ s, ((e, s) : Ex × Few) = (.exit 0, ([.any, .any, .any], [])) ∧ Wk 25 [0,1,5] n0 r.2 s := by
  obtain ⟨n, F, i⟩ := q
  obtain ⟨h0, ⟨hn, hs⟩, h1, h2⟩ := hq
  simp only [] at h0 hn hs h1 h2
  subst h0
  show ((sx Es2 [] 0 (loopOf P 100 2) (mkS 25 [0,1,5] (slS2 n F i), [])).bind (proj 25 [0,1,5])).All _
  rw [t_S2]
  by_cases hp : 0 < i
  · have e1 : U.sub .i64 i 1 = i - 1 := U.sub64 (by unfold I64; omega)
    obtain ⟨j, rfl⟩ : ∃ j : Nat, i = ((j + 1 : Nat) : Int) := ⟨(i - 1).toNat, by omega⟩
    have e2 : ((j + 1 : Nat) : Int) - 1 = (j : Int) := by omega
    rw [e1, e2]
    have tj : ∀ a : Nat, U.toNat (a : Int) = a := fun a => tn a
    simp only [tj, lk_eq]
    have hsj := hs j (by omega)
    refine ⟨fun _ => ⟨⟨by omega, by omega⟩, ⟨by omega, by omega⟩, fun hh => ?_, fun _ => ?_⟩, fun h => absurd (U.gt_f.mp h) (by omega)⟩
    · exact absurd (U.lt_t.mp hh) (Int.not_lt.2 hsj)
    · refine ⟨⟨n, F, (j : Int)⟩, ⟨rfl, ⟨hn, hs⟩, by simp only []; omega, by simp only []; omega⟩, by simp only []; omega, ?_, fun o ho => ho⟩
      exact wk_of [] rfl (Nat.zero_le _) (fun b hb => by omega) ⟨⟨rfl, row2S fun _ _ => rfl⟩, ⟨rfl, trivial, trivial⟩, rfl, trivial⟩ trivial
  · refine ⟨fun h => absurd (U.gt_t.mp h) hp, fun _ => ⟨_, rfl, ?_⟩⟩
    exact wk_of [] rfl (Nat.zero_le _) (fun b hb => by omega) ⟨trivial, trivial, trivial, trivial⟩ trivial
theorem loopS2 : LoopOK P (loopOf P 100 2) (few 25 [0,1,5] gS2) :=
  loop_few (E := Es2) mixed Es2_ok loopsOK_none 25 [0,1,5] (X := XS2) gS2 (fun _ x => VS2 x) PhiS2 (fun q => q.i.toNat) (fun _ x o => o = (.exit 0, ([.any, .any, .any], [])))
    (fun n0 st r h => by
      unfold gS2 at h
      split at h
      · rename_i n0 n F i
        obtain ⟨h0, hs, h1, h2⟩ := (T.is_ask h).1
        obtain rfl := T.is_ret (T.is_ask h).2
        subst h0
        refine ⟨⟨n, F, i⟩, ⟨rfl, hs, h1, h2⟩, ?_, fun o ho => ho⟩
        exact wk_of [] rfl (Nat.zero_le _) (fun b hb => by omega) ⟨⟨rfl, row2S fun _ _ => rfl⟩, ⟨rfl, trivial, trivial⟩, rfl, trivial⟩ trivial
      · exact h.elim)
    roundS2
theorem lS2_ok : ∀ p ∈ lS2, LoopsOK P p.2 (bodyOf P p.1) := by
  intro p hp
  simp only [lS2, List.mem_singleton] at hp
  subst hp
  refine loopsOK_of (by kernel_rfl) fun k g hk => ?_
  simp only [List.mem_singleton, Prod.mk.injEq, LoopC.sum.injEq] at hk
  obtain ⟨rfl, rfl⟩ := hk
  exact loopS2
theorem IsSorted_ok : ConOK P 100 c_IsSorted := con_of (allOKL mixed kC3_ok lS2_ok) 10 100 fun args r h => by
  unfold c_IsSorted at h
  split at h
  · rename_i n F
    have hs := (T.is_ask h).1
    obtain rfl := T.is_ret (T.is_ask h).2
    rw [t_IsSorted]
    have hn := hs.1
    have e1 : U.sub .i64 (Int.ofNat n) 1 = (n : Int) - 1 := U.sub64 (by simp only [Int.ofNat_eq_natCast]; unfold I64; omega)
    rw [e1]
    exact ⟨⟨rfl, hs, by omega, by omega⟩, rfl⟩
  · exact h.elim
end Go.RX.Span

/- The law's small domains, and its indices as slices. -/
set_option linter.unusedVariables false
set_option linter.unusedSimpArgs false
set_option maxRecDepth 100000
namespace Go.RX.Span
open Go Go.RX
attribute [local irreducible] sx conB

def smD (n : Nat) (f : Nat → R3) (k s h : Int) : Bool := decide (chD n f k s h = 0 ∧ szD n f k s h ≤ 500)
noncomputable def c_Dsmall : Con := fun args => match args with
  | [.agg [.row [.int .i64, .int .i64, .int .i64] n f, .lit (.int .i64 k), .lit (.int .i64 s), .lit (.int .i64 h)]] => .ask (Row64 n f) (.ret (.lit (.bool (lk smD n f k s h))))
  | _ => .stuck 1
noncomputable def ixF (x y : Int) : Nat → R1 := ofList (ss := [.int .i64]) [(x, ()), (y, ())]
noncomputable def c_index : Con := fun args => match args with
  | [.agg [.row [.int .i64, .int .i64, .int .i64] n f, .lit (.int .i64 k), .lit (.int .i64 s), .lit (.int .i64 h)], .agg [.lit (.int .i64 x), .lit (.int .i64 y)]] => .ask (n ≤ 2) (.ret (.row [.int .i64] n (lk ixF x y)))
  | _ => .stuck 1
--%R ofList\s+\[\((\S+),\s+\(\)\) => ofList (ss := [.int .i64]) [(\1, ())
set_option maxRecDepth 100000 in
theorem t_Dsmall (n : Nat) (f : Nat → R3) (k s h : Int) : conB Go.Proofs.Try.prog (conOf d3) noLoops 10 98 [.agg [.row [.int .i64, .int .i64, .int .i64] n f, .lit (.int .i64 k), .lit (.int .i64 s), .lit (.int .i64 h)]] =
    T.ask (Row64 n f) (.br (U.eq (lk chD n f k s h) (0 : Int)) (.ask (Row64 n f) (.ret (.lit (.bool (U.le (lk szD n f k s h) (500 : Int)))))) (.ret (.lit (.bool false)))) := by kernel_rfl
set_option maxRecDepth 100000 in
theorem t_index (n : Nat) (f : Nat → R3) (k s h x y : Int) : conB Go.Proofs.Try.prog (conOf []) noLoops 10 103 [.agg [.row [.int .i64, .int .i64, .int .i64] n f, .lit (.int .i64 k), .lit (.int .i64 s), .lit (.int .i64 h)], .agg [.lit (.int .i64 x), .lit (.int .i64 y)]] =
    T.ask ((0 : Int) ≤ Int.ofNat n ∧ Int.ofNat n ≤ ↑(2 : Nat)) (.ret (.row [.int .i64] (U.toNat (Int.ofNat n)) (ofList (ss := [.int .i64]) [(y, ()), (x, ())].reverse))) := by kernel_rfl
theorem Dsmall_ok : ConOK P 98 c_Dsmall := con_of (allOK mixed d3_ok) 10 98 fun args r h => by
  unfold c_Dsmall at h
  split at h
  · rename_i n f k s h'
    have hp := (T.is_ask h).1
    obtain rfl := T.is_ret (T.is_ask h).2
    rw [t_Dsmall]
    simp only [lk_eq]
    unfold smD
    by_cases hc : chD n f k s h' = 0
    · by_cases hz : szD n f k s h' ≤ 500
      · simp [T.All, hp, hc, hz, U.eq_eq, U.le_eq]
      · simp [T.All, hp, hc, hz, U.eq_eq, U.le_eq]
    · simp [T.All, hp, hc, U.eq_eq]
  · exact h.elim
theorem index_ok : ConOK P 103 c_index := con_of (allOK mixed none_ok) 10 103 fun args r h => by
  unfold c_index at h
  split at h
  · rename_i n f k s h' x y
    have hn := (T.is_ask h).1
    obtain rfl := T.is_ret (T.is_ask h).2
    rw [t_index]
    simp only [tn, lk_eq]
    simp only [T.All, Int.ofNat_eq_natCast]
    first
      | exact ⟨⟨by omega, by omega⟩, rfl⟩
      | exact ⟨by omega, by omega, rfl⟩
  · exact h.elim
end Go.RX.Span

/- The order of a domain's indices, in plain Lean. -/
set_option linter.unusedVariables false
set_option linter.unusedSimpArgs false
namespace Go.RX.Span
open Go Go.RX

/-- In a right range with a stride from 1 on numbers grow. -/
theorem num_lt {a b c : Int} {i j : Nat} (hr : Right a b c) (hab : a ≤ b) (hc : 0 < c) (h : i < j) : num a b c i < num a b c j := by
  rw [num_eq hr hab, num_eq hr hab]
  have := Int.mul_lt_mul_of_pos_left (show (i : Int) < (j : Int) by omega) hc
  omega
theorem cmpI_lt {x y : Int} (h : x < y) : cmpI y x = 1 := by
  unfold cmpI; rw [if_neg (by omega), if_pos (by omega)]
theorem cmpI_self (x : Int) : cmpI x x = 0 := by
  unfold cmpI; rw [if_neg (by omega), if_neg (by omega)]
theorem cmp2_lt1 {x y x' y' : Int} (h : x < x') : cmp2 (x', y', ()) (x, y, ()) = 1 := by
  show (if cmpI x' x ≠ 0 then cmpI x' x else cmpI y' y) = 1
  rw [cmpI_lt h]; rfl
theorem cmp2_lt2 {x y y' : Int} (h : y < y') : cmp2 (x, y', ()) (x, y, ()) = 1 := by
  show (if cmpI x x ≠ 0 then cmpI x x else cmpI y' y) = 1
  rw [cmpI_self, cmpI_lt h]; rfl
/-- What is known of a right range that has numbers. -/
theorem szN_pos {r : R3} (h : RR r) (hp : 0 < szN r.1 r.2.1 r.2.2.1) : ∃ a b c : Int, a = r.1 ∧ b = r.2.1 ∧ c = r.2.2.1 ∧ Right a b c ∧ a ≤ b ∧ 0 < c ∧ ((szN a b c : Nat) : Int) = ofC a b c := by
  obtain ⟨a, ha⟩ : ∃ a : Int, a = r.1 := ⟨_, rfl⟩
  obtain ⟨b, hb⟩ : ∃ b : Int, b = r.2.1 := ⟨_, rfl⟩
  obtain ⟨c, hc⟩ : ∃ c : Int, c = r.2.2.1 := ⟨_, rfl⟩
  have hR : Right a b c := by rw [ha, hb, hc]; exact h.1
  have hC : 0 < c := by rw [hc]; exact h.2
  rw [← ha, ← hb, ← hc] at hp
  have e := (rr_size h).1
  have e' : szR r = size a b c := by rw [ha, hb, hc]; rfl
  have e'' : ofC (rA r) (rB r) (rC r) = ofC a b c := by rw [ha, hb, hc]; rfl
  rw [e', e''] at e
  have hs : 0 < size a b c := by unfold szN at hp; omega
  refine ⟨a, b, c, ha, hb, hc, hR, ?_, hC, by unfold szN; omega⟩
  by_cases hab : a ≤ b
  · exact hab
  · have := (empty_of (c := c) hab).2.2
    omega
theorem srt_idF {n : Nat} {f : Nat → R3} {k s h : Int} (hc : chD n f k s h = 0) (hN : szDn n f k s h ≤ 500) : Srt (szDn n f k s h) (idF n f) := by
  obtain ⟨d1, _⟩ := chD_zero.1 hc
  have hn := d1.1
  refine ⟨by omega, fun i hi => ?_⟩
  rw [szDn_right hc] at hi
  have hp0 : 0 < szN (f 0).1 (f 0).2.1 (f 0).2.2.1 := Nat.pos_of_ne_zero fun h0 => by rw [h0, Nat.zero_mul] at hi; omega
  obtain ⟨a, b, c, ha, hb, hcc, hr, hab, h0c, _⟩ := szN_pos (d1.2 0 (by omega)) hp0
  unfold idF idX idY
  rw [← ha, ← hb, ← hcc]
  rcases hn with rfl | rfl
  · simp only [if_true]
    have e := cmp2_lt1 (y := 0) (y' := 0) (num_lt (i := i) (j := i + 1) hr hab h0c (by omega))
    rw [e]; decide
  · rw [if_neg (show ¬ (2 : Nat) = 1 by omega)] at hi
    simp only [if_neg (show ¬ (2 : Nat) = 1 by omega)]
    have hp1 : 0 < szN (f 1).1 (f 1).2.1 (f 1).2.2.1 := Nat.pos_of_ne_zero fun h0 => by rw [h0, Nat.mul_zero] at hi; omega
    obtain ⟨x, y, z, hx, hy, hz, hr', hab', h0z, _⟩ := szN_pos (d1.2 1 (by omega)) hp1
    rw [← hx, ← hy, ← hz] at hp1 ⊢
    obtain ⟨q, hq⟩ : ∃ q, q = szN x y z := ⟨_, rfl⟩
    rw [← hq] at hp1 ⊢
    have hle : i / q ≤ (i + 1) / q := Nat.div_le_div_right (by omega)
    rcases Nat.lt_or_eq_of_le hle with hlt | heq
    · rw [cmp2_lt1 (num_lt hr hab h0c hlt)]; decide
    · rw [← heq]
      have h1 := Nat.div_add_mod i q
      have h2 := Nat.div_add_mod (i + 1) q
      rw [← heq] at h2
      rw [cmp2_lt2 (num_lt (i := i % q) (j := (i + 1) % q) hr' hab' h0z (by omega))]; decide
end Go.RX.Span

/- A domain's i-th index: Nth has it, Position finds it, in plain Lean. -/
set_option linter.unusedVariables false
set_option linter.unusedSimpArgs false
namespace Go.RX.Span
open Go Go.RX

theorem ixF0 (x y : Int) : ixF x y 0 = (x, ()) := rfl
theorem ixF1 (x y : Int) : ixF x y 1 = (y, ()) := rfl
/-- The k-th number of a right range that has so many. -/
theorem num_all {r : R3} (h : RR r) {k : Nat} (hk : k < szN r.1 r.2.1 r.2.2.1) : nth (rA r) (rB r) (rC r) k = num r.1 r.2.1 r.2.2.1 k ∧ hasR r (num r.1 r.2.1 r.2.2.1 k) = true ∧ posR r (num r.1 r.2.1 r.2.2.1 k) = k := by
  obtain ⟨a, b, c, ha, hb, hc, hr, hab, h0, hN⟩ := szN_pos h (Nat.lt_of_le_of_lt (Nat.zero_le _) hk)
  show nth r.1 r.2.1 r.2.2.1 k = _ ∧ has r.1 r.2.1 r.2.2.1 _ = true ∧ pos r.1 r.2.1 r.2.2.1 _ = k
  rw [← ha, ← hb, ← hc] at hk ⊢
  have hk' : (k : Int) < ofC a b c := by omega
  exact ⟨(num_nth hr hk').2, num_has hr hab hk', num_pos hr hab hk'⟩
theorem dn_zero {n : Nat} {f : Nat → R3} {k s h : Int} {i : Nat} (hc : chD n f k s h = 0) (hi : i < szDn n f k s h) : dnE n f k s h i = 0 ∧ dnN n f k s h i = n := by
  have e : dnE n f k s h i = 0 := by
    unfold dnE
    rw [if_neg (by simp [hc]), if_neg (by unfold szDn at hi; omega)]
  exact ⟨e, by unfold dnN; rw [if_neg (by simp [e])]⟩
theorem dn_end {n : Nat} {f : Nat → R3} {k s h : Int} (hc : chD n f k s h = 0) : dnE n f k s h (szDn n f k s h) = 4 := by
  unfold dnE
  have := (dr_prod (chD_zero.1 hc).1).1
  rw [if_neg (by simp [hc]), if_pos (.inr (by unfold szDn; rw [szD_right hc]; omega))]
theorem ix_all {n : Nat} {f : Nat → R3} {k s h : Int} {i : Nat} (hc : chD n f k s h = 0) (hi : i < szDn n f k s h) :
    (∀ j, j < n → dnF n f i j = ixF (idX n f i) (idY n f i) j) ∧ hasD n f k s h n (ixF (idX n f i) (idY n f i)) = true ∧ posD n f k s h n (ixF (idX n f i) (idY n f i)) = i := by
  obtain ⟨d1, _⟩ := chD_zero.1 hc
  have hn := d1.1
  rw [szDn_right hc] at hi
  rcases hn with rfl | rfl
  · rw [if_pos rfl, Nat.mul_one] at hi
    obtain ⟨e1, e2, e3⟩ := num_all (d1.2 0 (by omega)) hi
    have eX : idX 1 f i = num (f 0).1 (f 0).2.1 (f 0).2.2.1 i := by unfold idX; rw [if_pos rfl]
    obtain ⟨h1, h2⟩ := hasD_t (k := k) (s := s) (h := h) (n := 1) (f := f) (m := 1) (e := ixF (idX 1 f i) (idY 1 f i)) ⟨hc, rfl, by rw [ixF0, eX]; exact e2, fun h => by omega⟩
    refine ⟨fun j hj => ?_, h1, ?_⟩
    · obtain rfl : j = 0 := by omega
      rw [ixF0, eX]
      unfold dnF colD
      rw [if_pos rfl, if_pos rfl, Int.tdiv_one, e1]; rfl
    · rw [h2, if_pos rfl, ixF0, eX]; exact e3
  · rw [if_neg (by omega)] at hi
    have hq : 0 < szN (f 1).1 (f 1).2.1 (f 1).2.2.1 := Nat.pos_of_ne_zero fun h0 => by rw [h0, Nat.mul_zero] at hi; omega
    have hd : i / szN (f 1).1 (f 1).2.1 (f 1).2.2.1 < szN (f 0).1 (f 0).2.1 (f 0).2.2.1 := Nat.div_lt_of_lt_mul (by rw [Nat.mul_comm]; exact hi)
    have hm := Nat.mod_lt i hq
    obtain ⟨e1, e2, e3⟩ := num_all (d1.2 0 (by omega)) hd
    obtain ⟨g1, g2, g3⟩ := num_all (d1.2 1 (by omega)) hm
    have eX : idX 2 f i = num (f 0).1 (f 0).2.1 (f 0).2.2.1 (i / szN (f 1).1 (f 1).2.1 (f 1).2.2.1) := by unfold idX; rw [if_neg (by omega)]
    have eY : idY 2 f i = num (f 1).1 (f 1).2.1 (f 1).2.2.1 (i % szN (f 1).1 (f 1).2.1 (f 1).2.2.1) := by unfold idY; rw [if_neg (by omega)]
    have ec : colD 2 f = ((szN (f 1).1 (f 1).2.1 (f 1).2.2.1 : Nat) : Int) := by unfold colD; rw [if_neg (by omega)]; exact (szN_R (d1.2 1 (by omega))).symm
    obtain ⟨h1, h2⟩ := hasD_t (k := k) (s := s) (h := h) (n := 2) (f := f) (m := 2) (e := ixF (idX 2 f i) (idY 2 f i)) ⟨hc, rfl, by rw [ixF0, eX]; exact e2, fun _ => by rw [ixF1, eY]; exact g2⟩
    refine ⟨fun j hj => ?_, h1, ?_⟩
    · rcases (show j = 0 ∨ j = 1 by omega) with rfl | rfl
      · rw [ixF0, eX]
        unfold dnF
        rw [if_pos rfl, ec, ← Int.ofNat_tdiv, e1]; rfl
      · rw [ixF1, eY]
        unfold dnF
        rw [if_neg (by omega), ec, ← Int.ofNat_tmod, g1]; rfl
    · rw [h2, if_neg (by omega), ixF0, ixF1, eX, eY]
      show posR (f 0) _ * szR (f 1) + posR (f 1) _ = _
      rw [e3, g3, ← szN_R (d1.2 1 (by omega)), ← Int.natCast_mul, ← Int.natCast_add, Nat.mul_comm, Nat.div_add_mod]
end Go.RX.Span

/- The law of the order: the loop's states. -/
set_option linter.unusedVariables false
set_option linter.unusedSimpArgs false
set_option maxRecDepth 100000
namespace Go.RX.Span
open Go Go.RX
attribute [local irreducible] sx conB

noncomputable abbrev d17 : List (Nat × Con) := (99, c_DLAll) :: (98, c_Dsmall) :: (100, c_IsSorted) :: (103, c_index) :: d11
theorem d17_ok : ∀ p ∈ d17, ConOK P p.1 p.2 := by
  intro p hp
  simp only [d17, List.mem_cons] at hp
  rcases hp with rfl | rfl | rfl | rfl | hp
  · exact DLAll_ok
  · exact Dsmall_ok
  · exact IsSorted_ok
  · exact index_ok
  · exact d11_ok p (by simpa [d11] using hp)
noncomputable abbrev E17 : Env := ⟨P, conOf d17, scall P (conOf d17) noLoops 10⟩
theorem E17_ok : EnvOK E17 := envOK (allOK mixed d17_ok) 10
noncomputable abbrev slDO (N : Nat) (F : Nat → R2) (i : Int) : List SV := [.ptr 0 0, .row [.int .i64, .int .i64] N F, .row [.int .i64, .int .i64] N F, .lit (.int .i64 (N : Int)), .lit (.int .i64 i)]
noncomputable abbrev memDO (n : Nat) (f : Nat → R3) (k s h : Int) : Mem := [dBl n f k s h]
end Go.RX.Span

/- The law of the order: the walk. -/
set_option linter.unusedVariables false
set_option linter.unusedSimpArgs false
set_option maxRecDepth 100000
namespace Go.RX.Span
open Go Go.RX
attribute [local irreducible] sx conB

set_option maxRecDepth 100000 in
theorem t_DOr (n0 : Nat) (n : Nat) (f : Nat → R3) (k s h : Int) (N : Nat) (F : Nat → R2) (i : Int) : (sx E17 [] n0 (loopOf P 17 7) (mkS 108 [1,3,36,37,38] (slDO N F i), memDO n f k s h)).bind (proj 108 [1,3,36,37,38]) =
    T.br (U.lt i (Int.ofNat N)) (.ask ((0 : Int) ≤ i ∧ i < ↑N) (.ask (Row64 n f ∧ I64 i) (.ask (n ≤ (2 : Nat)) (.ask (Row64 n f) (.br (U.ne (lk dnE n f k s h i) (0 : Int)) (.ret
      (Ex.ret, [SV.ptr (nat_lit 0) (nat_lit 0), .row [.int .i64, .int .i64] N F, .row [.int .i64, .int .i64] N F, .lit (.int .i64 (Int.ofNat N)), .lit (.int .i64 i)], [(nat_lit 0, some
      (Blk.cells [.row [.int .i64, .int .i64, .int .i64] n f, .lit (.int .i64 k), .lit (.int .i64 s), .lit (.int .i64 h)] (nat_lit 49))), (nat_lit 1, some (Blk.cells [.lit (.int .i64 (F
      (U.toNat i)).1), .lit (.int .i64 (F (U.toNat i)).2.1)] (nat_lit 103)))])) (.ask (n ≤ (2 : Nat)) (.ask (lk dnN n f k s h i ≤ nat_lit 9223372036854775807) (.br (U.not (lk eqR (lk dnN
      n f k s h i) (lk dnF n f i) n (lk ixF (F (U.toNat i)).1 (F (U.toNat i)).2.1))) (.ret (Ex.ret, [SV.ptr (nat_lit 0) (nat_lit 0), .row [.int .i64, .int .i64] N F, .row [.int .i64, .int
      .i64] N F, .lit (.int .i64 (Int.ofNat N)), .lit (.int .i64 i)], [(nat_lit 0, some (Blk.cells [.row [.int .i64, .int .i64, .int .i64] n f, .lit (.int .i64 k), .lit (.int .i64 s),
      .lit (.int .i64 h)] (nat_lit 49))), (nat_lit 1, some (Blk.cells [.lit (.int .i64 (F (U.toNat i)).1), .lit (.int .i64 (F (U.toNat i)).2.1)] (nat_lit 103)))])) (.br (U.not (lk hasD n
      f k s h n (lk ixF (F (U.toNat i)).1 (F (U.toNat i)).2.1))) (.ret (Ex.ret, [SV.ptr (nat_lit 0) (nat_lit 0), .row [.int .i64, .int .i64] N F, .row [.int .i64, .int .i64] N F, .lit
      (.int .i64 (Int.ofNat N)), .lit (.int .i64 i)], [(nat_lit 0, some (Blk.cells [.row [.int .i64, .int .i64, .int .i64] n f, .lit (.int .i64 k), .lit (.int .i64 s), .lit (.int .i64 h)]
      (nat_lit 49))), (nat_lit 1, some (Blk.cells [.lit (.int .i64 (F (U.toNat i)).1), .lit (.int .i64 (F (U.toNat i)).2.1)] (nat_lit 103)))])) (.br (U.ne (lk posD n f k s h n (lk ixF (F
      (U.toNat i)).1 (F (U.toNat i)).2.1)) i) (.ret (Ex.ret, [SV.ptr (nat_lit 0) (nat_lit 0), .row [.int .i64, .int .i64] N F, .row [.int .i64, .int .i64] N F, .lit (.int .i64 (Int.ofNat
      N)), .lit (.int .i64 i)], [(nat_lit 0, some (Blk.cells [.row [.int .i64, .int .i64, .int .i64] n f, .lit (.int .i64 k), .lit (.int .i64 s), .lit (.int .i64 h)] (nat_lit 49))),
      (nat_lit 1, some (Blk.cells [.lit (.int .i64 (F (U.toNat i)).1), .lit (.int .i64 (F (U.toNat i)).2.1)] (nat_lit 103)))])) (.ask (Row64 n f) (.br (U.not (lk hasD n f k s h (lk dnN n
      f k s h i) (lk dnF n f i))) (.ret (Ex.ret, [SV.ptr (nat_lit 0) (nat_lit 0), .row [.int .i64, .int .i64] N F, .row [.int .i64, .int .i64] N F, .lit (.int .i64 (Int.ofNat N)), .lit
      (.int .i64 i)], [(nat_lit 0, some (Blk.cells [.row [.int .i64, .int .i64, .int .i64] n f, .lit (.int .i64 k), .lit (.int .i64 s), .lit (.int .i64 h)] (nat_lit 49))), (nat_lit 1,
      some (Blk.cells [.lit (.int .i64 (F (U.toNat i)).1), .lit (.int .i64 (F (U.toNat i)).2.1)] (nat_lit 103)))])) (.br (U.gt i (0 : Int)) (.ask ((0 : Int) ≤ U.sub .i64 i (1 : Int) ∧
      U.sub .i64 i (1 : Int) < ↑N) (.br (U.andb (U.eq (F (U.toNat (U.sub .i64 i (1 : Int)))).1 (F (U.toNat i)).1) (U.eq (F (U.toNat (U.sub .i64 i (1 : Int)))).2.1 (F (U.toNat i)).2.1))
      (.ret (Ex.ret, [SV.ptr (nat_lit 0) (nat_lit 0), .row [.int .i64, .int .i64] N F, .row [.int .i64, .int .i64] N F, .lit (.int .i64 (Int.ofNat N)), .lit (.int .i64 i)], [(nat_lit 0,
      some (Blk.cells [.row [.int .i64, .int .i64, .int .i64] n f, .lit (.int .i64 k), .lit (.int .i64 s), .lit (.int .i64 h)] (nat_lit 49))), (nat_lit 1, some (Blk.cells [.lit (.int .i64
      (F (U.toNat i)).1), .lit (.int .i64 (F (U.toNat i)).2.1)] (nat_lit 103)))])) (.ret (Ex.normal, [SV.ptr (nat_lit 0) (nat_lit 0), .row [.int .i64, .int .i64] N F, .row [.int .i64,
      .int .i64] N F, .lit (.int .i64 (Int.ofNat N)), .lit (.int .i64 (U.add .i64 i (1 : Int)))], [(nat_lit 0, some (Blk.cells [.row [.int .i64, .int .i64, .int .i64] n f, .lit (.int .i64
      k), .lit (.int .i64 s), .lit (.int .i64 h)] (nat_lit 49))), (nat_lit 1, some (Blk.cells [.lit (.int .i64 (F (U.toNat i)).1), .lit (.int .i64 (F (U.toNat i)).2.1)] (nat_lit
      103)))])))) (.ret (Ex.normal, [SV.ptr (nat_lit 0) (nat_lit 0), .row [.int .i64, .int .i64] N F, .row [.int .i64, .int .i64] N F, .lit (.int .i64 (Int.ofNat N)), .lit (.int .i64
      (U.add .i64 i (1 : Int)))], [(nat_lit 0, some (Blk.cells [.row [.int .i64, .int .i64, .int .i64] n f, .lit (.int .i64 k), .lit (.int .i64 s), .lit (.int .i64 h)] (nat_lit 49))),
      (nat_lit 1, some (Blk.cells [.lit (.int .i64 (F (U.toNat i)).1), .lit (.int .i64 (F (U.toNat i)).2.1)] (nat_lit 103)))]))))))))))))))) (.ret (Ex.exit (nat_lit 0), [SV.ptr (nat_lit
      0) (nat_lit 0), .row [.int .i64, .int .i64] N F, .row [.int .i64, .int .i64] N F, .lit (.int .i64 (Int.ofNat N)), .lit (.int .i64 i)], [(nat_lit 0, some (Blk.cells [.row [.int .i64,
      .int .i64, .int .i64] n f, .lit (.int .i64 k), .lit (.int .i64 s), .lit (.int .i64 h)] (nat_lit 49)))])) := by kernel_rfl
end Go.RX.Span

/- The law of the order: the loop, and the law's function. -/
set_option linter.unusedVariables false
set_option linter.unusedSimpArgs false
set_option maxRecDepth 100000
namespace Go.RX.Span
open Go Go.RX
attribute [local irreducible] sx conB

structure XOr where
  (n : Nat) (f : Nat → R3) (k s h : Int) (N : Nat) (F : Nat → R2) (j : Nat)
noncomputable def VOr (q : XOr) : Few := (slDO q.N q.F (q.j : Int), memDO q.n q.f q.k q.s q.h)
def PreOr (n0 n : Nat) (f : Nat → R3) (k s h : Int) (N : Nat) (F : Nat → R2) : Prop := n0 ≤ 1 ∧ chD n f k s h = 0 ∧ N = szDn n f k s h ∧ N ≤ 500 ∧ Row64 n f ∧ F = idF n f
def PhiOr (n0 : Nat) (q : XOr) : Prop := PreOr n0 q.n q.f q.k q.s q.h q.N q.F ∧ q.j ≤ q.N
noncomputable def OOr (q : XOr) : Ex × Few := (.exit 0, ([.ptr 0 0, .row [.int .i64, .int .i64] q.N q.F, .any, .any, .any], memDO q.n q.f q.k q.s q.h))
noncomputable def gOr : Nat → Few → T (Ex × Few)
  | n0, ([.ptr 0 0, .row [.int .i64, .int .i64] N F, .row [.int .i64, .int .i64] N' F', .lit (.int .i64 l), .ki .i64 (.ofNat 0)], [(_, some (.cells [.row [.int .i64, .int .i64, .int .i64] n f, .lit (.int .i64 k), .lit (.int .i64 s), .lit (.int .i64 h)] t0))]) =>
    .ask (PreOr n0 n f k s h N F ∧ t0 = 49 ∧ N' = N ∧ F' = F ∧ l = Int.ofNat N) (.ret (.exit 0, ([.ptr 0 0, .row [.int .i64, .int .i64] N F, .any, .any, .any], memDO n f k s h)))
  | _, _ => .stuck 1
theorem roundOr (n0 : Nat) (q : XOr) (hq : PhiOr n0 q) : ((sx E17 [] n0 (loopOf P 17 7) (mkS 108 [1,3,36,37,38] (VOr q).1, (VOr q).2)).bind (proj 108 [1,3,36,37,38])).All fun r => match r.1 with
      | .normal => ∃ q', PhiOr n0 q' ∧ q'.N - q'.j < q.N - q.j ∧ Wk 108 [1,3,36,37,38] n0 r.2 (VOr q') ∧ ∀ o, o = OOr q' → o = OOr q
      | e => ∃ s, (e, s) = OOr q ∧ Wk 108 [1,3,36,37,38] n0 r.2 s := by
  obtain ⟨n, f, k, s, h, N, F, j⟩ := q
  obtain ⟨⟨h0, hc, hN, hN5, h64, hF⟩, hj⟩ := hq
  simp only [] at h0 hc hN hN5 h64 hF hj
  show ((sx E17 [] n0 (loopOf P 17 7) (mkS 108 [1,3,36,37,38] (slDO N F (j : Int)), memDO n f k s h)).bind (proj 108 [1,3,36,37,38])).All _
  rw [t_DOr]
  have hn := (chD_zero.1 hc).1.1
  have e2 : U.add .i64 (j : Int) 1 = ((j + 1 : Nat) : Int) := by rw [U.add64 (by unfold I64; omega)]; omega
  have tnj : U.toNat (j : Int) = j := tn j
  simp only [e2, tnj, lk_eq]
  by_cases hlt : j < N
  · have hi : j < szDn n f k s h := by omega
    obtain ⟨z1, z2⟩ := dn_zero hc hi
    obtain ⟨i1, i2, i3⟩ := ix_all hc hi
    have eF : ixF (F j).1 (F j).2.1 = ixF (idX n f j) (idY n f j) := by rw [hF]; rfl
    have g1 : eqR n (dnF n f j) n (ixF (F j).1 (F j).2.1) = true := by rw [eF]; exact eqR_t.2 ⟨rfl, fun i hi => by rw [i1 i hi]⟩
    have g2 : hasD n f k s h n (ixF (F j).1 (F j).2.1) = true := by rw [eF]; exact i2
    have g3 : posD n f k s h n (ixF (F j).1 (F j).2.1) = j := by rw [eF]; exact i3
    have g4 : hasD n f k s h n (dnF n f j) = true := by
      by_cases hcc : chD n f k s h = 0 ∧ n = n ∧ hasR (f 0) (dnF n f j 0).1 = true ∧ (n = 2 → hasR (f 1) (dnF n f j 1).1 = true)
      · exact (hasD_t hcc).1
      · rw [(hasD_f (m := n) (e := ixF (idX n f j) (idY n f j)) (by
          rintro ⟨a1, a2, a3, a4⟩
          refine hcc ⟨a1, a2, ?_, fun h2 => ?_⟩
          · rw [i1 0 (by omega)]; exact a3
          · rw [i1 1 (by omega)]; exact a4 h2)).1] at i2
        cases i2
    have goOn : ∀ m : Mem, RlM [some 0] m 0 (memDO n f k s h) → ∃ q' : XOr, PhiOr n0 q' ∧ q'.N - q'.j < N - j ∧ Wk 108 [1,3,36,37,38] n0 (slDO N F ((j + 1 : Nat) : Int), m) (VOr q') ∧ ∀ o, o = OOr q' → o = OOr ⟨n, f, k, s, h, N, F, j⟩ := fun m hm =>
      ⟨⟨n, f, k, s, h, N, F, j + 1⟩, ⟨⟨h0, hc, hN, hN5, h64, hF⟩, by simp only []; omega⟩, by simp only []; omega,
        wk_of [some 0] rfl h0 (fun b hb => by obtain rfl : b = 0 := by omega
                                              rfl) ⟨⟨rfl, rfl⟩, ⟨rfl, row2S fun _ _ => rfl⟩, ⟨rfl, row2S fun _ _ => rfl⟩, rfl, rfl, trivial⟩ hm, fun o ho => ho⟩
    simp only [z1, z2, g1, g2, g3, g4]
    refine ⟨fun _ => ⟨⟨by omega, by omega⟩, ⟨h64, by unfold I64; omega⟩, by omega, h64, fun hh => absurd rfl (U.ne_t.mp hh), fun _ => ⟨by omega, by omega, fun hh => absurd (U.not_t.mp hh) (by decide), fun _ => ⟨fun hh => absurd (U.not_t.mp hh) (by decide), fun _ => ⟨fun hh => absurd rfl (U.ne_t.mp hh), fun _ => ⟨h64, fun hh => absurd (U.not_t.mp hh) (by decide), fun _ => ⟨fun hg => ⟨?_, fun hh => ?_, fun _ => ?_⟩, fun _ => ?_⟩⟩⟩⟩⟩⟩, fun h => absurd (U.lt_f.mp h) (by simp only [Int.ofNat_eq_natCast]; omega)⟩
    · have hg := U.gt_t.mp hg
      rw [U.sub64 (by unfold I64; omega)]; omega
    · have hg := U.gt_t.mp hg
      have e3 : U.sub .i64 (j : Int) 1 = ((j - 1 : Nat) : Int) := by rw [U.sub64 (by unfold I64; omega)]; omega
      rw [e3] at hh
      have tn' : U.toNat ((j - 1 : Nat) : Int) = j - 1 := tn (j - 1)
      rw [tn'] at hh
      obtain ⟨h1, h2⟩ := U.andb_t.mp hh
      have h1 := U.eq_t.mp h1
      have h2 := U.eq_t.mp h2
      rw [hF] at h1 h2
      obtain ⟨_, _, p3⟩ := ix_all (n := n) (f := f) (k := k) (s := s) (h := h) (i := j - 1) hc (by omega)
      have h1 : idX n f (j - 1) = idX n f j := h1
      have h2 : idY n f (j - 1) = idY n f j := h2
      rw [h1, h2, i3] at p3
      omega
    · exact goOn _ ⟨⟨rfl, ⟨rfl, sameR fun _ _ => rfl⟩, rfl, rfl, rfl, trivial⟩, trivial⟩
    · exact goOn _ ⟨⟨rfl, ⟨rfl, sameR fun _ _ => rfl⟩, rfl, rfl, rfl, trivial⟩, trivial⟩
  · obtain rfl : j = N := by omega
    refine ⟨fun h => absurd (U.lt_t.mp h) (by simp only [Int.ofNat_eq_natCast]; omega), fun _ => ⟨_, rfl, ?_⟩⟩
    exact wk_of [some 0] rfl h0 (fun b hb => by
      obtain rfl : b = 0 := by omega
      rfl) ⟨⟨rfl, rfl⟩, ⟨rfl, row2S fun _ _ => rfl⟩, trivial, trivial, trivial, trivial⟩ ⟨⟨rfl, ⟨rfl, sameR fun _ _ => rfl⟩, rfl, rfl, rfl, trivial⟩, trivial⟩
theorem loopOr : LoopOK P (loopOf P 17 7) (few 108 [1,3,36,37,38] gOr) :=
  loop_few (E := E17) mixed E17_ok loopsOK_none 108 [1,3,36,37,38] (X := XOr) gOr (fun _ x => VOr x) PhiOr (fun q => q.N - q.j) (fun _ x o => o = OOr x)
    (fun n0 st r h => by
      unfold gOr at h
      split at h
      · rename_i n0 N F N' F' l g0 n f k s h' t0
        obtain ⟨hp, rfl, rfl, rfl, rfl⟩ := (T.is_ask h).1
        obtain rfl := T.is_ret (T.is_ask h).2
        have h0 := hp.1
        refine ⟨⟨n, f, k, s, h', N', F', 0⟩, ⟨hp, Nat.zero_le _⟩, ?_, fun o ho => ho⟩
        exact wk_of [some 0] rfl h0 (fun b hb => by
          obtain rfl : b = 0 := by omega
          rfl) ⟨⟨rfl, rfl⟩, ⟨rfl, row2S fun _ _ => rfl⟩, ⟨rfl, row2S fun _ _ => rfl⟩, rfl, rfl, trivial⟩ ⟨⟨rfl, ⟨rfl, sameR fun _ _ => rfl⟩, rfl, rfl, rfl, trivial⟩, trivial⟩
      · exact h.elim)
    roundOr
noncomputable abbrev l17 : List (Nat × Loops) := [(17, [(7, .sum (few 108 [1,3,36,37,38] gOr))])]
theorem l17_ok : ∀ p ∈ l17, LoopsOK P p.2 (bodyOf P p.1) := by
  intro p hp
  simp only [l17, List.mem_singleton] at hp
  subst hp
  refine loopsOK_of (by kernel_rfl) fun k g hk => ?_
  simp only [List.mem_singleton, Prod.mk.injEq, LoopC.sum.injEq] at hk
  obtain ⟨rfl, rfl⟩ := hk
  exact loopOr
end Go.RX.Span

/- The law of the order: what it returns. -/
set_option linter.unusedVariables false
set_option linter.unusedSimpArgs false
set_option maxRecDepth 100000
namespace Go.RX.Span
open Go Go.RX
attribute [local irreducible] sx conB

noncomputable def c_DomainOrder : Con := fun args => match args with
  | [.agg [.row [.int .i64, .int .i64, .int .i64] n f, .lit (.int .i64 k), .lit (.int .i64 s), .lit (.int .i64 h)]] => .ask (Row64 n f) (.ret (.lit (.bool true)))
  | _ => .stuck 1
--%R ↑\(lk szDn n f k s h\) => ((lk szDn n f k s h : Nat) : Int)
set_option maxRecDepth 100000 in
theorem t_DomainOrder (n : Nat) (f : Nat → R3) (k s h : Int) : conB Go.Proofs.Try.prog (conOf d17) (loopsOf l17) 10 17 [.agg [.row [.int .i64, .int .i64, .int .i64] n f, .lit (.int .i64 k), .lit (.int .i64 s), .lit (.int .i64 h)]] =
    T.ask (Row64 n f) (.br (U.not (lk smD n f k s h)) (.ret (.lit (.bool true))) (.ask (Row64 n f ∧ lk szDn n f k s h ≤ (500 : Nat)) (.br (U.not true) (.ret (.lit (.bool false))) (.ask
      (Row64 n f) (.br (U.ne (Int.ofNat (lk szDn n f k s h)) (lk szD n f k s h)) (.ret (.lit (.bool false))) (.ask (Srt (lk szDn n f k s h) (lk idF n f)) (.br (U.not true) (.ret (.lit
      (.bool false))) (.ask (PreOr (nat_lit 0) n f k s h (lk szDn n f k s h) (lk idF n f) ∧ (49 : Nat) = (49 : TypeId) ∧ lk szDn n f k s h = lk szDn n f k s h ∧ lk idF n f = lk idF n f ∧
      ((lk szDn n f k s h : Nat) : Int) = Int.ofNat (lk szDn n f k s h)) (.ask (Row64 n f ∧ I64 ((lk szDn n f k s h : Nat) : Int)) (.br (U.eq (lk dnE n f k s h (Int.ofNat (lk szDn n f k s
      h))) (4 : Int)) (.ret (.lit (.bool true))) (.ret (.lit (.bool false))))))))))))) := by kernel_rfl
theorem DomainOrder_ok : ConOK P 17 c_DomainOrder := con_of (allOKL mixed d17_ok l17_ok) 10 17 fun args r h => by
  unfold c_DomainOrder at h
  split at h
  · rename_i n f k s h'
    have hp := (T.is_ask h).1
    obtain rfl := T.is_ret (T.is_ask h).2
    rw [t_DomainOrder]
    simp only [lk_eq]
    refine ⟨hp, fun _ => rfl, fun hh => ?_⟩
    have hs := U.not_f.mp hh
    unfold smD at hs
    obtain ⟨hc, hz⟩ := of_decide_eq_true hs
    have d1 := (chD_zero.1 hc).1
    have hz0 : 0 ≤ szD n f k s h' := by rw [szD_right hc]; exact (dr_prod d1).1
    have hN : ((szDn n f k s h' : Nat) : Int) = szD n f k s h' := by unfold szDn; omega
    have h5 : szDn n f k s h' ≤ 500 := by omega
    refine ⟨⟨hp, h5⟩, fun hh => absurd (U.not_t.mp hh) (by decide), fun _ => ⟨hp, fun hh => absurd hN (U.ne_t.mp hh), fun _ => ⟨srt_idF hc h5, fun hh => absurd (U.not_t.mp hh) (by decide), fun _ => ⟨⟨⟨by omega, hc, rfl, h5, hp, rfl⟩, by simp⟩, ⟨hp, by unfold I64; omega⟩, fun _ => rfl, fun hh => ?_⟩⟩⟩⟩
    exact absurd (dn_end hc) (U.eq_f.mp hh)
  · exact h.elim
end Go.RX.Span

