/- Sparse domains: Indices, Position: the states. -/
import Derived.Test.YtdmocmiidcfhlaaGreatPPh
import Derived.Test.YtdmocmiidcfhlaaGreatPPc
set_option linter.unusedVariables false
set_option linter.unusedSimpArgs false
set_option maxRecDepth 100000
namespace Go.RX.Span
open Go Go.RX
attribute [local irreducible] sx conB

section
variable (n : Nat) (f : Nat → R3) (k s h : Int) (m : Nat) (e : Nat → R1)
/-- The indices of a sparse domain. -/
def ixF (i : Nat) : RL := ((dnN n f k s h (nv e i), dnF n f (nv e i)), ())
end
def PreIn (n0 : Nat) (n : Nat) (f : Nat → R3) (m : Nat) (e : Nat → R1) : Prop := n0 = 0 ∧ Row64 n f ∧ m ≤ 5000 ∧ ∀ i, i < m → I64 (nv e i)
noncomputable abbrev bxIn (n : Nat) (f : Nat → R3) (k s h : Int) (m : Nat) (e : Nat → R1) (t : TypeId) : Blk := .cells [.row [.int .i64, .int .i64, .int .i64] n f, .lit (.int .i64 k), .lit (.int .i64 s), .lit (.int .i64 h), .row [.int .i64] m e] t
noncomputable abbrev slI2 (b N : Nat) (i : Int) : List SV := [.ptr 0 0, .own false b N, .any, .any, .lit (.int .i64 i)]
noncomputable abbrev memI2 (n : Nat) (f : Nat → R3) (k s h : Int) (m : Nat) (e : Nat → R1) (N : Nat) (G : Nat → RL) : Mem := [(0, some (bxIn n f k s h m e 29)), (0, some (.row false N [.sl [.int .i64]] G 27))]
noncomputable def gI2 : Nat → Few → T (Ex × Few)
  | n0, ([.ptr p q, .own false b 0, _, _, .ki .i64 z], [(_, some (.cells [.row [.int .i64, .int .i64, .int .i64] n f, .lit (.int .i64 k), .lit (.int .i64 s), .lit (.int .i64 h), .row [.int .i64] m e] t)), (_, some (.row false 0 [.sl [.int .i64]] G t'))]) =>
    .ask (lk PreIn n0 n f m e ∧ p = 0 ∧ q = 0 ∧ b = 1 ∧ z = 0 ∧ t = 29 ∧ t' = 27)
      (.ret (.exit 0, ([.ptr 0 0, .own false 1 m, .any, .any, .any], memI2 n f k s h m e m (lk ixF n f k s h e))))
  | _, _ => .stuck 1
noncomputable abbrev lIn : List (Nat × Loops) := [(30, [(6, .sum (few 38 [1,5,7,8,6] gI2))])] --%K
noncomputable abbrev kIn : List (Nat × Con) := [(24, c_SpCheck), (33, c_SpCheck), (28, c_DNth), (61, c_DNth), (29, c_DPosition), (34, c_DPosition)] --%K
theorem kIn_ok : ∀ p ∈ kIn, ConOK P p.1 p.2 := by
  intro p hp
  simp only [kIn, List.mem_cons, List.not_mem_nil, or_false] at hp
  rcases hp with rfl | rfl | rfl | rfl | rfl | rfl
  · exact SpCheck_ok
  · exact SpQCheck_ok
  · exact DNth_ok
  · exact qNth_ok
  · exact DPosition_ok
  · exact qPos_ok
noncomputable abbrev EIn : Env := ⟨P, conOf kIn, scall P (conOf kIn) noLoops 10⟩
theorem EIn_ok : EnvOK EIn := envOK (allOK mixed kIn_ok) 10
noncomputable def c_Indices : Con := fun args => match args with
  | [.agg [.row [.int .i64, .int .i64, .int .i64] n f, .lit (.int .i64 k), .lit (.int .i64 s), .lit (.int .i64 h), .row [.int .i64] m e]] => .ask (Row64 n f)
    (.ret (.tup [.row [.sl [.int .i64]] (lk zn (lk spE n f k s h m e) m) (lk ixF n f k s h e), .lit (.int .i64 (lk spE n f k s h m e))]))
  | _ => .stuck 1
/-! Position. -/
/-! Long indices. -/
open Classical in
/-! Lists of lists compared. -/
end Go.RX.Span

/- Sparse domains: Indices, Position: the walks. -/
set_option linter.unusedVariables false
set_option linter.unusedSimpArgs false
set_option maxRecDepth 100000
namespace Go.RX.Span
open Go Go.RX
attribute [local irreducible] sx conB

--%R < ↑(\w+)\b => < ((\1 : Nat) : Int)
--%R ↑(\w+) (=|≤) => ((\1 : Nat) : Int) \2
set_option maxRecDepth 100000 in
theorem t_I2 (n : Nat) (f : Nat → R3) (k s h : Int) (m : Nat) (e : Nat → R1) (N : Nat) (G : Nat → RL) (i : Int) : (sx EIn [] 0 (loopOf P 30 6) (mkS 38 [1,5,7,8,6] (slI2 1 N i), memI2 n f k s h m e N G)).bind (proj 38 [1,5,7,8,6]) =
    T.br (U.lt i (Int.ofNat m)) (.ask ((0 : Int) ≤ i ∧ i < ((m : Nat) : Int)) (.ask (Row64 n f ∧ I64 (e (U.toNat i)).1) (.ask ((N + (1 : Nat)) * nat_lit 24 ≤ nat_lit 140737488351232)
      (.ret (Ex.normal, [SV.ptr (nat_lit 0) (nat_lit 0), SV.own false (nat_lit 3) (N.add (nat_lit 1)), .row [.int .i64] (lk dnN n f k s h (e (U.toNat i)).1) (lk dnF n f (e (U.toNat
      i)).1), .lit (.int .i64 (lk dnE n f k s h (e (U.toNat i)).1)), .lit (.int .i64 (U.add .i64 i (1 : Int)))], [(nat_lit 0, some (Blk.cells [.row [.int .i64, .int .i64, .int .i64] n f,
      .lit (.int .i64 k), .lit (.int .i64 s), .lit (.int .i64 h), .row [.int .i64] m e] (nat_lit 29))), (nat_lit 1, none), (nat_lit 0, some (Blk.cells [.row [.int .i64] (lk dnN n f k s h
      (e (U.toNat i)).1) (lk dnF n f (e (U.toNat i)).1)] (nat_lit 27))), (nat_lit 0, some (Blk.row false (N.add (nat_lit 1)) [.sl [.int .i64]] (U.cat N G fun x => ((lk dnN n f k s h (e
      (U.toNat i)).1, lk dnF n f (e (U.toNat i)).1), PUnit.unit)) (nat_lit 27)))]))))) (.ret (Ex.exit (nat_lit 0), [SV.ptr (nat_lit 0) (nat_lit 0), SV.own false (nat_lit 1) N, SV.any,
      SV.any, .lit (.int .i64 i)], [(nat_lit 0, some (Blk.cells [.row [.int .i64, .int .i64, .int .i64] n f, .lit (.int .i64 k), .lit (.int .i64 s), .lit (.int .i64 h), .row [.int .i64] m
      e] (nat_lit 29))), (nat_lit 0, some (Blk.row false N [.sl [.int .i64]] G (nat_lit 27)))])) := by kernel_rfl
set_option maxRecDepth 100000 in
theorem t_QInd (n : Nat) (f : Nat → R3) (k s h : Int) (m : Nat) (e : Nat → R1) : conB Go.Proofs.Tryz.prog (conOf kIn) (loopsOf lIn) 10 30 [.agg [.row [.int .i64, .int .i64, .int .i64] n f, .lit (.int .i64 k), .lit (.int .i64 s), .lit (.int .i64 h), .row [.int .i64] m e]] =
    T.ask (Row64 n f) (.br (U.ne (lk spE n f k s h m e) (0 : Int)) (.ret (.tup [.lit (.slice none (nat_lit 0) (nat_lit 0)), .lit (.int .i64 (lk spE n f k s h m e))])) (.ask (lk PreIn
      (nat_lit 0) n f m e ∧ (0 : Nat) = (0 : Nat) ∧ (0 : Nat) = (0 : Nat) ∧ (1 : Nat) = (1 : Nat) ∧ (0 : Int) = (0 : Int) ∧ (29 : Nat) = (29 : TypeId) ∧ (27 : Nat) = (27 : TypeId)) (.ret
      (.tup [.row [.sl [.int .i64]] m (lk ixF n f k s h e), .lit (.int .i64 0)])))) := by kernel_rfl
end Go.RX.Span

/- Sparse domains: Indices, Position. -/
set_option linter.unusedVariables false
set_option linter.unusedSimpArgs false
set_option maxRecDepth 100000
namespace Go.RX.Span
open Go Go.RX
attribute [local irreducible] sx conB

theorem ix_cat {n : Nat} {f : Nat → R3} {k s h : Int} {e : Nat → R1} {i j : Nat} (hj : j < i + 1) :
    U.cat i (ixF n f k s h e) (fun _ => (((dnN n f k s h (e i).1, dnF n f (e i).1), ()) : RL)) j = ixF n f k s h e j := by
  refine (U.cat_eq _ _ _ _).trans ?_
  by_cases h1 : j < i
  · exact if_pos h1
  · obtain rfl : j = i := by omega
    exact if_neg h1
structure XI2 where
  (n : Nat) (f : Nat → R3) (k s h : Int) (m : Nat) (e : Nat → R1) (i : Nat)
noncomputable abbrev VI2 (q : XI2) : Few := (slI2 1 q.i q.i, memI2 q.n q.f q.k q.s q.h q.m q.e q.i (ixF q.n q.f q.k q.s q.h q.e))
noncomputable def OI2 (q : XI2) : Ex × Few := (.exit 0, ([.ptr 0 0, .own false 1 q.m, .any, .any, .any], memI2 q.n q.f q.k q.s q.h q.m q.e q.m (ixF q.n q.f q.k q.s q.h q.e)))
def PhiI2 (n0 : Nat) (q : XI2) : Prop := PreIn n0 q.n q.f q.m q.e ∧ q.i ≤ q.m
theorem roundI2 (n0 : Nat) (q : XI2) (hq : PhiI2 n0 q) : ((sx EIn [] n0 (loopOf P 30 6) (mkS 38 [1,5,7,8,6] (VI2 q).1, (VI2 q).2)).bind (proj 38 [1,5,7,8,6])).All fun r => match r.1 with
      | .normal => ∃ q', PhiI2 n0 q' ∧ q'.m - q'.i < q.m - q.i ∧ Wk 38 [1,5,7,8,6] n0 r.2 (VI2 q') ∧ ∀ o, o = OI2 q' → o = OI2 q
      | e => ∃ s, (e, s) = OI2 q ∧ Wk 38 [1,5,7,8,6] n0 r.2 s := by
  obtain ⟨n, f, k, s, h, m, e, i⟩ := q
  obtain ⟨hp, hi⟩ := hq
  have hp : PreIn n0 n f m e := hp
  have hi : i ≤ m := hi
  have hp' := hp
  obtain ⟨h0, hr, hm, hv⟩ := hp'
  subst h0
  refine T.all_of_eq (t_I2 n f k s h m e i (ixF n f k s h e) (i : Int)) ?_
  by_cases hlt : i < m
  · rw [add1p (j := i) (by omega), tnH]
    simp only [lk_eq]
    refine ⟨fun _ => ⟨⟨by omega, by omega⟩, ⟨hr, hv i hlt⟩, by show (i + 1) * 24 ≤ 140737488351232; omega, ⟨n, f, k, s, h, m, e, i + 1⟩, ⟨hp, hlt⟩, (show m - (i + 1) < m - i by omega), ?_, fun o ho => ho⟩, fun g => absurd (U.lt_f.mp g) (by simp only [Int.ofNat_eq_natCast]; omega)⟩
    exact wk_of [some 0, some 3] rfl (Nat.zero_le _) (ren1z _) ⟨⟨rfl, rfl⟩, ⟨rfl, rfl, rfl⟩, rl_any _, rl_any _, rfl, trivial⟩ ⟨⟨rfl, bx_rl⟩, ⟨rfl, rfl, rfl, rowRL fun j hj => ix_cat hj⟩, trivial⟩
  · obtain rfl : i = m := by omega
    refine ⟨fun g => absurd (U.lt_t.mp g) (by simp only [Int.ofNat_eq_natCast]; omega), fun _ => ⟨_, rfl, ?_⟩⟩
    exact wk_of [some 0, some 1] rfl (Nat.zero_le _) (ren1z _) ⟨⟨rfl, rfl⟩, ⟨rfl, rfl, rfl⟩, rl_any _, rl_any _, rl_any _, trivial⟩ ⟨⟨rfl, bx_rl⟩, ⟨rfl, rfl, rfl, rowRL fun _ _ => rfl⟩, trivial⟩
theorem loopI2 : LoopOK P (loopOf P 30 6) (few 38 [1,5,7,8,6] gI2) :=
  loop_few (E := EIn) mixed EIn_ok loopsOK_none 38 [1,5,7,8,6] (X := XI2) gI2 (fun _ x => VI2 x) PhiI2 (fun q => q.m - q.i) (fun _ x o => o = OI2 x)
    (fun n0 st r hh => by
      unfold gI2 at hh
      split at hh
      · rename_i n0 p q b s1 s2 z w0 n f k s h m e t w1 G t'
        obtain ⟨hp, rfl, rfl, rfl, rfl, rfl, rfl⟩ := (T.is_ask hh).1
        obtain rfl := T.is_ret (T.is_ask hh).2
        rw [lk_eq] at hp
        have h0 := hp.1
        subst h0
        refine ⟨⟨n, f, k, s, h, m, e, 0⟩, ⟨hp, Nat.zero_le _⟩, ?_, fun o ho => ?_⟩
        · exact wk_of [some 0, some 1] rfl (Nat.zero_le _) (ren1z _) ⟨⟨rfl, rfl⟩, ⟨rfl, rfl, rfl⟩, rl_any _, rl_any _, rfl, trivial⟩ ⟨⟨rfl, bx_rl⟩, ⟨rfl, rfl, rfl, rowRL fun j hj => absurd hj (Nat.not_lt_zero j)⟩, trivial⟩
        · rw [ho]; simp only [lk_eq]; rfl
      · exact hh.elim)
    roundI2
theorem lIn_ok : ∀ p ∈ lIn, LoopsOK P p.2 (bodyOf P p.1) := by
  intro p hp
  simp only [lIn, List.mem_singleton] at hp
  subst hp
  refine loopsOK_of (by kernel_rfl) fun k g hk => ?_
  simp only [List.mem_singleton, Prod.mk.injEq, LoopC.sum.injEq] at hk
  obtain ⟨rfl, rfl⟩ := hk
  exact loopI2
theorem sp_i64 {n : Nat} {f : Nat → R3} {k s h : Int} {m : Nat} {e : Nat → R1} (g : spE n f k s h m e = 0) : m ≤ 5000 ∧ ∀ i, i < m → I64 (nv e i) := by
  obtain ⟨_, h1, _, h2, h3⟩ := sp_bs g
  refine ⟨h1, fun i hi => ?_⟩
  have := h3 i hi
  unfold I64; omega
theorem cl_errL {E E' : Int} (hE : E = E') (h0 : E ≠ 0) {N : Nat} {G : Nat → RL} :
    Cl (SV.tup [.lit (.slice none 0 0), .lit (.int .i64 E)]) (.tup [.row [.sl [.int .i64]] (zn E' N) G, .lit (.int .i64 E')]) := by
  subst hE
  rw [zn_e h0]
  exact ⟨cl_nil, .inl rfl, rfl⟩
theorem QIndices_ok : ConOK P 30 c_Indices := con_cl (allOKL mixed kIn_ok lIn_ok) 10 30 fun args r hh => by
  unfold c_Indices at hh
  split at hh
  · rename_i n f k s h m e
    have hp := (T.is_ask hh).1
    obtain rfl := T.is_ret (T.is_ask hh).2
    refine T.all_of_eq (t_QInd n f k s h m e) ?_
    simp only [lk_eq]
    refine ⟨hp, fun g => cl_errL rfl (U.ne_t.mp g), fun g => ?_⟩
    have g := U.ne_f.mp g
    obtain ⟨h1, h2⟩ := sp_i64 g
    refine ⟨⟨⟨rfl, hp, h1, h2⟩, trivial, trivial, trivial, trivial, trivial, trivial⟩, ?_⟩
    rw [g]
    exact ⟨⟨rfl, sameRow_refl _ _⟩, .inl rfl, rfl⟩
  · exact hh.elim
/-! Position. -/
theorem bsB_t {m : Nat} {e : Nat → R1} {p : Int} : bsB m e p = true ↔ ∃ i, i < m ∧ nv e i = p := by unfold bsB; exact decide_eq_true_iff
theorem bsB_f {m : Nat} {e : Nat → R1} {p : Int} : bsB m e p = false ↔ ¬ ∃ i, i < m ∧ nv e i = p := by unfold bsB; exact decide_eq_false_iff_not
/-! Long indices. -/
/-! Lists of lists compared. -/
end Go.RX.Span

/- Sparse domains: ascending lists merged: plain; the states. -/
set_option linter.unusedVariables false
set_option linter.unusedSimpArgs false
set_option maxRecDepth 100000
namespace Go.RX.Span
open Go Go.RX
attribute [local irreducible] sx conB

theorem force_all {α : Type} {K : α → Prop} : ∀ (t : T α) (l : List Bool), (t.force l).All K → t.All K
  | .ret a, _, h => h
  | .stuck n, _, h => h
  | .ask p t, l, h => ⟨h.1, force_all t l h.2⟩
  | .br c x y, [], h => h
  | .br c x y, true :: l, h => ⟨fun _ => force_all x l h.2, fun g => absurd (h.1.symm.trans g) (by decide)⟩
  | .br c x y, false :: l, h => ⟨fun g => absurd (g.symm.trans h.1) (by decide), fun _ => force_all y l h.2⟩
/-- The numbers of two lists that are taken. -/
def mgL (tk : Bool → Bool → Bool) (a b : List Int) : List Int := (ofL (a ++ b)).filter fun x => tk (decide (x ∈ a)) (decide (x ∈ b))
/-- Which are taken: by the function's number. -/
def tkG (g : Nat) (x y : Bool) : Bool := if g = 37 then true else if g = 39 then x && y else !y
section
variable (g n : Nat) (a : Nat → R1) (m : Nat) (b : Nat → R1)
def mgN : Nat := (mgL (tkG g) (nl n a) (nl m b)).length
def mgF : Nat → R1 := lF (mgL (tkG g) (nl n a) (nl m b))
def PreMg : Prop := BsAsk n a ∧ BsAsk m b
end
noncomputable abbrev slMg (p : Nat) (a : Nat → R1) (q : Nat) (b : Nat → R1) (g : Nat) (u : Bool) (N : Nat) : List SV := [.row [.int .i64] p a, .row [.int .i64] q b, .fn (.func g) [] [], .own u 0 N, .any, .any, .any]
noncomputable abbrev memMg (u : Bool) (N : Nat) (G : Nat → R1) : Mem := [(0, some (.row u N [.int .i64] G 3))]
noncomputable def gMg : Nat → Few → T (Ex × Few)
  | n0, ([.row [.int .i64] p a, .row [.int .i64] q b, .fn (.func g) [] [], .lit (.slice none 0 0), _, _, _], []) =>
    .ask (n0 = 0 ∧ lk PreMg p a q b ∧ (g = 37 ∨ g = 39 ∨ g = 40))
      (.ret (.exit 0, ([.any, .any, .any, .own (U.isz (lk mgN g p a q b)) 0 (lk mgN g p a q b), .any, .any, .any], memMg (U.isz (lk mgN g p a q b)) (lk mgN g p a q b) (lk mgF g p a q b))))
  | _, _ => .stuck 1
noncomputable abbrev lMg : List (Nat × Loops) := [(69, [(2, .sum (few 74 [0,1,2,7,8,9,10] gMg))])] --%K
noncomputable def c_merged : Con := fun args => match args with
  | [.row [.int .i64] p a, .row [.int .i64] q b, .fn (.func g) [] []] => .ask (lk PreMg p a q b ∧ (g = 37 ∨ g = 39 ∨ g = 40)) (.ret (.row [.int .i64] (lk mgN g p a q b) (lk mgF g p a q b)))
  | _ => .stuck 1
end Go.RX.Span

/- Sparse domains: ascending lists merged: the walks. -/
set_option linter.unusedVariables false
set_option linter.unusedSimpArgs false
set_option maxRecDepth 100000
namespace Go.RX.Span
open Go Go.RX
attribute [local irreducible] sx conB

--%R < ↑(\w+)\b => < ((\1 : Nat) : Int)
--%R ↑(\w+) (=|≤) => ((\1 : Nat) : Int) \2
--%R ≤ ↑(\w+)\b => ≤ ((\1 : Nat) : Int)
set_option maxRecDepth 100000 in
theorem t_M82A (p : Nat) (a : Nat → R1) (q : Nat) (b : Nat → R1) (u : Bool) (N : Nat) (G : Nat → R1) : ((sx E0 [] 0 (loopOf P 69 2) (mkS 74 [0,1,2,7,8,9,10] (slMg p a q b 37 u N), memMg u N G)).bind (proj 74 [0,1,2,7,8,9,10])).force [true, true, true, false] =
    T.ask (U.gt (Int.ofNat p) (0 : Int) = true) (.ask (U.gt (Int.ofNat p) (0 : Int) = true) (.ask (U.eq (Int.ofNat q) (0 : Int) = true) (.ask (U.gt (Int.ofNat q) (0 : Int) = false)
      (.ask ((0 : Int) ≤ (0 : Int) ∧ (0 : Int) < ((p : Nat) : Int)) (.ask ((0 : Int) ≤ (1 : Int) ∧ (1 : Int) ≤ ((p : Nat) : Int) ∧ ((p : Nat) : Int) ≤ ((p : Nat) : Int)) (.ask ((N + (1 :
      Nat)) * nat_lit 8 ≤ nat_lit 140737488351232) (.ret (Ex.normal, [.row [.int .i64] (U.nsub p (U.toNat (1 : Int))) fun i => a (i + U.toNat (1 : Int)), .row [.int .i64] q b, SV.fn
      (Fn.func (nat_lit 37)) [] [], SV.own false (nat_lit 2) (N.add (nat_lit 1)), SV.kb true, SV.kb false, .lit (.int .i64 (a (U.toNat (0 : Int))).1)], [(nat_lit 1, none), (nat_lit 0,
      some (Blk.cells [.lit (.int .i64 (a (U.toNat (0 : Int))).1)] (nat_lit 3))), (nat_lit 0, some (Blk.row false (N.add (nat_lit 1)) [.int .i64] (U.cat N G fun x => ((a (U.toNat (0 :
      Int))).1, PUnit.unit)) (nat_lit 3)))])))))))) := by kernel_rfl
set_option maxRecDepth 100000 in
theorem t_M82B (p : Nat) (a : Nat → R1) (q : Nat) (b : Nat → R1) (u : Bool) (N : Nat) (G : Nat → R1) : ((sx E0 [] 0 (loopOf P 69 2) (mkS 74 [0,1,2,7,8,9,10] (slMg p a q b 37 u N), memMg u N G)).bind (proj 74 [0,1,2,7,8,9,10])).force [false, true, false, true, true] =
    T.ask (U.gt (Int.ofNat p) (0 : Int) = false) (.ask (U.gt (Int.ofNat q) (0 : Int) = true) (.ask (U.gt (Int.ofNat p) (0 : Int) = false) (.ask (U.gt (Int.ofNat q) (0 : Int) = true)
      (.ask (U.eq (Int.ofNat p) (0 : Int) = true) (.ask ((0 : Int) ≤ (0 : Int) ∧ (0 : Int) < ((q : Nat) : Int)) (.ask ((0 : Int) ≤ (1 : Int) ∧ (1 : Int) ≤ ((q : Nat) : Int) ∧ ((q : Nat) :
      Int) ≤ ((q : Nat) : Int)) (.ask ((N + (1 : Nat)) * nat_lit 8 ≤ nat_lit 140737488351232) (.ret (Ex.normal, [.row [.int .i64] p a, .row [.int .i64] (U.nsub q (U.toNat (1 : Int))) fun
      i => b (i + U.toNat (1 : Int)), SV.fn (Fn.func (nat_lit 37)) [] [], SV.own false (nat_lit 2) (N.add (nat_lit 1)), SV.kb false, SV.kb true, .lit (.int .i64 (b (U.toNat (0 :
      Int))).1)], [(nat_lit 1, none), (nat_lit 0, some (Blk.cells [.lit (.int .i64 (b (U.toNat (0 : Int))).1)] (nat_lit 3))), (nat_lit 0, some (Blk.row false (N.add (nat_lit 1)) [.int
      .i64] (U.cat N G fun x => ((b (U.toNat (0 : Int))).1, PUnit.unit)) (nat_lit 3)))]))))))))) := by kernel_rfl
set_option maxRecDepth 100000 in
theorem t_M82C (p : Nat) (a : Nat → R1) (q : Nat) (b : Nat → R1) (u : Bool) (N : Nat) (G : Nat → R1) : ((sx E0 [] 0 (loopOf P 69 2) (mkS 74 [0,1,2,7,8,9,10] (slMg p a q b 37 u N), memMg u N G)).bind (proj 74 [0,1,2,7,8,9,10])).force [true, true, false, true, false, true, false] =
    T.ask (U.gt (Int.ofNat p) (0 : Int) = true) (.ask (U.gt (Int.ofNat p) (0 : Int) = true) (.ask (U.eq (Int.ofNat q) (0 : Int) = false) (.ask ((0 : Int) ≤ (0 : Int) ∧ (0 : Int) < ((p :
      Nat) : Int)) (.ask ((0 : Int) ≤ (0 : Int) ∧ (0 : Int) < ((q : Nat) : Int)) (.ask (U.gt (Int.ofNat q) (0 : Int) = true) (.ask (U.eq (Int.ofNat p) (0 : Int) = false) (.ask ((0 : Int)
      ≤ (0 : Int) ∧ (0 : Int) < ((q : Nat) : Int)) (.ask ((0 : Int) ≤ (0 : Int) ∧ (0 : Int) < ((p : Nat) : Int)) (.ask (U.le (a (U.toNat (0 : Int))).1 (b (U.toNat (0 : Int))).1 = true)
      (.ask ((0 : Int) ≤ (0 : Int) ∧ (0 : Int) < ((p : Nat) : Int)) (.ask ((0 : Int) ≤ (1 : Int) ∧ (1 : Int) ≤ ((p : Nat) : Int) ∧ ((p : Nat) : Int) ≤ ((p : Nat) : Int)) (.ask (U.le (b
      (U.toNat (0 : Int))).1 (a (U.toNat (0 : Int))).1 = false) (.ask ((N + (1 : Nat)) * nat_lit 8 ≤ nat_lit 140737488351232) (.ret (Ex.normal, [.row [.int .i64] (U.nsub p (U.toNat (1 :
      Int))) fun i => a (i + U.toNat (1 : Int)), .row [.int .i64] q b, SV.fn (Fn.func (nat_lit 37)) [] [], SV.own false (nat_lit 2) (N.add (nat_lit 1)), .lit (.bool (U.le (a (U.toNat (0 :
      Int))).1 (b (U.toNat (0 : Int))).1)), .lit (.bool (U.le (b (U.toNat (0 : Int))).1 (a (U.toNat (0 : Int))).1)), .lit (.int .i64 (a (U.toNat (0 : Int))).1)], [(nat_lit 1, none),
      (nat_lit 0, some (Blk.cells [.lit (.int .i64 (a (U.toNat (0 : Int))).1)] (nat_lit 3))), (nat_lit 0, some (Blk.row false (N.add (nat_lit 1)) [.int .i64] (U.cat N G fun x => ((a
      (U.toNat (0 : Int))).1, PUnit.unit)) (nat_lit 3)))]))))))))))))))) := by kernel_rfl
set_option maxRecDepth 100000 in
theorem t_M82D (p : Nat) (a : Nat → R1) (q : Nat) (b : Nat → R1) (u : Bool) (N : Nat) (G : Nat → R1) : ((sx E0 [] 0 (loopOf P 69 2) (mkS 74 [0,1,2,7,8,9,10] (slMg p a q b 37 u N), memMg u N G)).bind (proj 74 [0,1,2,7,8,9,10])).force [true, true, false, true, false, false, true] =
    T.ask (U.gt (Int.ofNat p) (0 : Int) = true) (.ask (U.gt (Int.ofNat p) (0 : Int) = true) (.ask (U.eq (Int.ofNat q) (0 : Int) = false) (.ask ((0 : Int) ≤ (0 : Int) ∧ (0 : Int) < ((p :
      Nat) : Int)) (.ask ((0 : Int) ≤ (0 : Int) ∧ (0 : Int) < ((q : Nat) : Int)) (.ask (U.gt (Int.ofNat q) (0 : Int) = true) (.ask (U.eq (Int.ofNat p) (0 : Int) = false) (.ask ((0 : Int)
      ≤ (0 : Int) ∧ (0 : Int) < ((q : Nat) : Int)) (.ask ((0 : Int) ≤ (0 : Int) ∧ (0 : Int) < ((p : Nat) : Int)) (.ask (U.le (a (U.toNat (0 : Int))).1 (b (U.toNat (0 : Int))).1 = false)
      (.ask (U.le (b (U.toNat (0 : Int))).1 (a (U.toNat (0 : Int))).1 = true) (.ask ((0 : Int) ≤ (0 : Int) ∧ (0 : Int) < ((q : Nat) : Int)) (.ask ((0 : Int) ≤ (1 : Int) ∧ (1 : Int) ≤ ((q
      : Nat) : Int) ∧ ((q : Nat) : Int) ≤ ((q : Nat) : Int)) (.ask ((N + (1 : Nat)) * nat_lit 8 ≤ nat_lit 140737488351232) (.ret (Ex.normal, [.row [.int .i64] p a, .row [.int .i64]
      (U.nsub q (U.toNat (1 : Int))) fun i => b (i + U.toNat (1 : Int)), SV.fn (Fn.func (nat_lit 37)) [] [], SV.own false (nat_lit 2) (N.add (nat_lit 1)), .lit (.bool (U.le (a (U.toNat (0
      : Int))).1 (b (U.toNat (0 : Int))).1)), .lit (.bool (U.le (b (U.toNat (0 : Int))).1 (a (U.toNat (0 : Int))).1)), .lit (.int .i64 (b (U.toNat (0 : Int))).1)], [(nat_lit 1, none),
      (nat_lit 0, some (Blk.cells [.lit (.int .i64 (b (U.toNat (0 : Int))).1)] (nat_lit 3))), (nat_lit 0, some (Blk.row false (N.add (nat_lit 1)) [.int .i64] (U.cat N G fun x => ((b
      (U.toNat (0 : Int))).1, PUnit.unit)) (nat_lit 3)))]))))))))))))))) := by kernel_rfl
set_option maxRecDepth 100000 in
theorem t_M82E (p : Nat) (a : Nat → R1) (q : Nat) (b : Nat → R1) (u : Bool) (N : Nat) (G : Nat → R1) : ((sx E0 [] 0 (loopOf P 69 2) (mkS 74 [0,1,2,7,8,9,10] (slMg p a q b 37 u N), memMg u N G)).bind (proj 74 [0,1,2,7,8,9,10])).force [true, true, false, true, false, true, true] =
    T.ask (U.gt (Int.ofNat p) (0 : Int) = true) (.ask (U.gt (Int.ofNat p) (0 : Int) = true) (.ask (U.eq (Int.ofNat q) (0 : Int) = false) (.ask ((0 : Int) ≤ (0 : Int) ∧ (0 : Int) < ((p :
      Nat) : Int)) (.ask ((0 : Int) ≤ (0 : Int) ∧ (0 : Int) < ((q : Nat) : Int)) (.ask (U.gt (Int.ofNat q) (0 : Int) = true) (.ask (U.eq (Int.ofNat p) (0 : Int) = false) (.ask ((0 : Int)
      ≤ (0 : Int) ∧ (0 : Int) < ((q : Nat) : Int)) (.ask ((0 : Int) ≤ (0 : Int) ∧ (0 : Int) < ((p : Nat) : Int)) (.ask (U.le (a (U.toNat (0 : Int))).1 (b (U.toNat (0 : Int))).1 = true)
      (.ask ((0 : Int) ≤ (0 : Int) ∧ (0 : Int) < ((p : Nat) : Int)) (.ask ((0 : Int) ≤ (1 : Int) ∧ (1 : Int) ≤ ((p : Nat) : Int) ∧ ((p : Nat) : Int) ≤ ((p : Nat) : Int)) (.ask (U.le (b
      (U.toNat (0 : Int))).1 (a (U.toNat (0 : Int))).1 = true) (.ask ((0 : Int) ≤ (0 : Int) ∧ (0 : Int) < ((q : Nat) : Int)) (.ask ((0 : Int) ≤ (1 : Int) ∧ (1 : Int) ≤ ((q : Nat) : Int) ∧
      ((q : Nat) : Int) ≤ ((q : Nat) : Int)) (.ask ((N + (1 : Nat)) * nat_lit 8 ≤ nat_lit 140737488351232) (.ret (Ex.normal, [.row [.int .i64] (U.nsub p (U.toNat (1 : Int))) fun i => a (i
      + U.toNat (1 : Int)), .row [.int .i64] (U.nsub q (U.toNat (1 : Int))) fun i => b (i + U.toNat (1 : Int)), SV.fn (Fn.func (nat_lit 37)) [] [], SV.own false (nat_lit 2) (N.add
      (nat_lit 1)), .lit (.bool (U.le (a (U.toNat (0 : Int))).1 (b (U.toNat (0 : Int))).1)), .lit (.bool (U.le (b (U.toNat (0 : Int))).1 (a (U.toNat (0 : Int))).1)), .lit (.int .i64 (b
      (U.toNat (0 : Int))).1)], [(nat_lit 1, none), (nat_lit 0, some (Blk.cells [.lit (.int .i64 (b (U.toNat (0 : Int))).1)] (nat_lit 3))), (nat_lit 0, some (Blk.row false (N.add (nat_lit
      1)) [.int .i64] (U.cat N G fun x => ((b (U.toNat (0 : Int))).1, PUnit.unit)) (nat_lit 3)))]))))))))))))))))) := by kernel_rfl
set_option maxRecDepth 100000 in
theorem t_M83A (p : Nat) (a : Nat → R1) (q : Nat) (b : Nat → R1) (u : Bool) (N : Nat) (G : Nat → R1) : ((sx E0 [] 0 (loopOf P 69 2) (mkS 74 [0,1,2,7,8,9,10] (slMg p a q b 39 u N), memMg u N G)).bind (proj 74 [0,1,2,7,8,9,10])).force [true, true, true, false] =
    T.ask (U.gt (Int.ofNat p) (0 : Int) = true) (.ask (U.gt (Int.ofNat p) (0 : Int) = true) (.ask (U.eq (Int.ofNat q) (0 : Int) = true) (.ask (U.gt (Int.ofNat q) (0 : Int) = false)
      (.ask ((0 : Int) ≤ (0 : Int) ∧ (0 : Int) < ((p : Nat) : Int)) (.ask ((0 : Int) ≤ (1 : Int) ∧ (1 : Int) ≤ ((p : Nat) : Int) ∧ ((p : Nat) : Int) ≤ ((p : Nat) : Int)) (.ret (Ex.normal,
      [.row [.int .i64] (U.nsub p (U.toNat (1 : Int))) fun i => a (i + U.toNat (1 : Int)), .row [.int .i64] q b, SV.fn (Fn.func (nat_lit 39)) [] [], SV.own u (nat_lit 0) N, SV.kb true,
      SV.kb false, .lit (.int .i64 (a (U.toNat (0 : Int))).1)], [(nat_lit 0, some (Blk.row u N [.int .i64] G (nat_lit 3)))]))))))) := by kernel_rfl
set_option maxRecDepth 100000 in
theorem t_M83B (p : Nat) (a : Nat → R1) (q : Nat) (b : Nat → R1) (u : Bool) (N : Nat) (G : Nat → R1) : ((sx E0 [] 0 (loopOf P 69 2) (mkS 74 [0,1,2,7,8,9,10] (slMg p a q b 39 u N), memMg u N G)).bind (proj 74 [0,1,2,7,8,9,10])).force [false, true, false, true, true] =
    T.ask (U.gt (Int.ofNat p) (0 : Int) = false) (.ask (U.gt (Int.ofNat q) (0 : Int) = true) (.ask (U.gt (Int.ofNat p) (0 : Int) = false) (.ask (U.gt (Int.ofNat q) (0 : Int) = true)
      (.ask (U.eq (Int.ofNat p) (0 : Int) = true) (.ask ((0 : Int) ≤ (0 : Int) ∧ (0 : Int) < ((q : Nat) : Int)) (.ask ((0 : Int) ≤ (1 : Int) ∧ (1 : Int) ≤ ((q : Nat) : Int) ∧ ((q : Nat) :
      Int) ≤ ((q : Nat) : Int)) (.ret (Ex.normal, [.row [.int .i64] p a, .row [.int .i64] (U.nsub q (U.toNat (1 : Int))) fun i => b (i + U.toNat (1 : Int)), SV.fn (Fn.func (nat_lit 39))
      [] [], SV.own u (nat_lit 0) N, SV.kb false, SV.kb true, .lit (.int .i64 (b (U.toNat (0 : Int))).1)], [(nat_lit 0, some (Blk.row u N [.int .i64] G (nat_lit 3)))])))))))) := by kernel_rfl
set_option maxRecDepth 100000 in
theorem t_M83C (p : Nat) (a : Nat → R1) (q : Nat) (b : Nat → R1) (u : Bool) (N : Nat) (G : Nat → R1) : ((sx E0 [] 0 (loopOf P 69 2) (mkS 74 [0,1,2,7,8,9,10] (slMg p a q b 39 u N), memMg u N G)).bind (proj 74 [0,1,2,7,8,9,10])).force [true, true, false, true, false, true, false, true, false] =
    T.ask (U.gt (Int.ofNat p) (0 : Int) = true) (.ask (U.gt (Int.ofNat p) (0 : Int) = true) (.ask (U.eq (Int.ofNat q) (0 : Int) = false) (.ask ((0 : Int) ≤ (0 : Int) ∧ (0 : Int) < ((p :
      Nat) : Int)) (.ask ((0 : Int) ≤ (0 : Int) ∧ (0 : Int) < ((q : Nat) : Int)) (.ask (U.gt (Int.ofNat q) (0 : Int) = true) (.ask (U.eq (Int.ofNat p) (0 : Int) = false) (.ask ((0 : Int)
      ≤ (0 : Int) ∧ (0 : Int) < ((q : Nat) : Int)) (.ask ((0 : Int) ≤ (0 : Int) ∧ (0 : Int) < ((p : Nat) : Int)) (.ask (U.le (a (U.toNat (0 : Int))).1 (b (U.toNat (0 : Int))).1 = true)
      (.ask ((0 : Int) ≤ (0 : Int) ∧ (0 : Int) < ((p : Nat) : Int)) (.ask ((0 : Int) ≤ (1 : Int) ∧ (1 : Int) ≤ ((p : Nat) : Int) ∧ ((p : Nat) : Int) ≤ ((p : Nat) : Int)) (.ask (U.le (b
      (U.toNat (0 : Int))).1 (a (U.toNat (0 : Int))).1 = false) (.ask (U.le (a (U.toNat (0 : Int))).1 (b (U.toNat (0 : Int))).1 = true) (.ask (U.le (b (U.toNat (0 : Int))).1 (a (U.toNat
      (0 : Int))).1 = false) (.ret (Ex.normal, [.row [.int .i64] (U.nsub p (U.toNat (1 : Int))) fun i => a (i + U.toNat (1 : Int)), .row [.int .i64] q b, SV.fn (Fn.func (nat_lit 39)) []
      [], SV.own u (nat_lit 0) N, .lit (.bool (U.le (a (U.toNat (0 : Int))).1 (b (U.toNat (0 : Int))).1)), .lit (.bool (U.le (b (U.toNat (0 : Int))).1 (a (U.toNat (0 : Int))).1)), .lit
      (.int .i64 (a (U.toNat (0 : Int))).1)], [(nat_lit 0, some (Blk.row u N [.int .i64] G (nat_lit 3)))])))))))))))))))) := by kernel_rfl
set_option maxRecDepth 100000 in
theorem t_M83D (p : Nat) (a : Nat → R1) (q : Nat) (b : Nat → R1) (u : Bool) (N : Nat) (G : Nat → R1) : ((sx E0 [] 0 (loopOf P 69 2) (mkS 74 [0,1,2,7,8,9,10] (slMg p a q b 39 u N), memMg u N G)).bind (proj 74 [0,1,2,7,8,9,10])).force [true, true, false, true, false, false, true, false] =
    T.ask (U.gt (Int.ofNat p) (0 : Int) = true) (.ask (U.gt (Int.ofNat p) (0 : Int) = true) (.ask (U.eq (Int.ofNat q) (0 : Int) = false) (.ask ((0 : Int) ≤ (0 : Int) ∧ (0 : Int) < ((p :
      Nat) : Int)) (.ask ((0 : Int) ≤ (0 : Int) ∧ (0 : Int) < ((q : Nat) : Int)) (.ask (U.gt (Int.ofNat q) (0 : Int) = true) (.ask (U.eq (Int.ofNat p) (0 : Int) = false) (.ask ((0 : Int)
      ≤ (0 : Int) ∧ (0 : Int) < ((q : Nat) : Int)) (.ask ((0 : Int) ≤ (0 : Int) ∧ (0 : Int) < ((p : Nat) : Int)) (.ask (U.le (a (U.toNat (0 : Int))).1 (b (U.toNat (0 : Int))).1 = false)
      (.ask (U.le (b (U.toNat (0 : Int))).1 (a (U.toNat (0 : Int))).1 = true) (.ask ((0 : Int) ≤ (0 : Int) ∧ (0 : Int) < ((q : Nat) : Int)) (.ask ((0 : Int) ≤ (1 : Int) ∧ (1 : Int) ≤ ((q
      : Nat) : Int) ∧ ((q : Nat) : Int) ≤ ((q : Nat) : Int)) (.ask (U.le (a (U.toNat (0 : Int))).1 (b (U.toNat (0 : Int))).1 = false) (.ret (Ex.normal, [.row [.int .i64] p a, .row [.int
      .i64] (U.nsub q (U.toNat (1 : Int))) fun i => b (i + U.toNat (1 : Int)), SV.fn (Fn.func (nat_lit 39)) [] [], SV.own u (nat_lit 0) N, .lit (.bool (U.le (a (U.toNat (0 : Int))).1 (b
      (U.toNat (0 : Int))).1)), .lit (.bool (U.le (b (U.toNat (0 : Int))).1 (a (U.toNat (0 : Int))).1)), .lit (.int .i64 (b (U.toNat (0 : Int))).1)], [(nat_lit 0, some (Blk.row u N [.int
      .i64] G (nat_lit 3)))]))))))))))))))) := by kernel_rfl
set_option maxRecDepth 100000 in
theorem t_M83E (p : Nat) (a : Nat → R1) (q : Nat) (b : Nat → R1) (u : Bool) (N : Nat) (G : Nat → R1) : ((sx E0 [] 0 (loopOf P 69 2) (mkS 74 [0,1,2,7,8,9,10] (slMg p a q b 39 u N), memMg u N G)).bind (proj 74 [0,1,2,7,8,9,10])).force [true, true, false, true, false, true, true, true, true] =
    T.ask (U.gt (Int.ofNat p) (0 : Int) = true) (.ask (U.gt (Int.ofNat p) (0 : Int) = true) (.ask (U.eq (Int.ofNat q) (0 : Int) = false) (.ask ((0 : Int) ≤ (0 : Int) ∧ (0 : Int) < ((p :
      Nat) : Int)) (.ask ((0 : Int) ≤ (0 : Int) ∧ (0 : Int) < ((q : Nat) : Int)) (.ask (U.gt (Int.ofNat q) (0 : Int) = true) (.ask (U.eq (Int.ofNat p) (0 : Int) = false) (.ask ((0 : Int)
      ≤ (0 : Int) ∧ (0 : Int) < ((q : Nat) : Int)) (.ask ((0 : Int) ≤ (0 : Int) ∧ (0 : Int) < ((p : Nat) : Int)) (.ask (U.le (a (U.toNat (0 : Int))).1 (b (U.toNat (0 : Int))).1 = true)
      (.ask ((0 : Int) ≤ (0 : Int) ∧ (0 : Int) < ((p : Nat) : Int)) (.ask ((0 : Int) ≤ (1 : Int) ∧ (1 : Int) ≤ ((p : Nat) : Int) ∧ ((p : Nat) : Int) ≤ ((p : Nat) : Int)) (.ask (U.le (b
      (U.toNat (0 : Int))).1 (a (U.toNat (0 : Int))).1 = true) (.ask ((0 : Int) ≤ (0 : Int) ∧ (0 : Int) < ((q : Nat) : Int)) (.ask ((0 : Int) ≤ (1 : Int) ∧ (1 : Int) ≤ ((q : Nat) : Int) ∧
      ((q : Nat) : Int) ≤ ((q : Nat) : Int)) (.ask (U.le (a (U.toNat (0 : Int))).1 (b (U.toNat (0 : Int))).1 = true) (.ask (U.le (b (U.toNat (0 : Int))).1 (a (U.toNat (0 : Int))).1 =
      true) (.ask ((N + (1 : Nat)) * nat_lit 8 ≤ nat_lit 140737488351232) (.ret (Ex.normal, [.row [.int .i64] (U.nsub p (U.toNat (1 : Int))) fun i => a (i + U.toNat (1 : Int)), .row [.int
      .i64] (U.nsub q (U.toNat (1 : Int))) fun i => b (i + U.toNat (1 : Int)), SV.fn (Fn.func (nat_lit 39)) [] [], SV.own false (nat_lit 2) (N.add (nat_lit 1)), .lit (.bool (U.le (a
      (U.toNat (0 : Int))).1 (b (U.toNat (0 : Int))).1)), .lit (.bool (U.le (b (U.toNat (0 : Int))).1 (a (U.toNat (0 : Int))).1)), .lit (.int .i64 (b (U.toNat (0 : Int))).1)], [(nat_lit
      1, none), (nat_lit 0, some (Blk.cells [.lit (.int .i64 (b (U.toNat (0 : Int))).1)] (nat_lit 3))), (nat_lit 0, some (Blk.row false (N.add (nat_lit 1)) [.int .i64] (U.cat N G fun x =>
      ((b (U.toNat (0 : Int))).1, PUnit.unit)) (nat_lit 3)))]))))))))))))))))))) := by kernel_rfl
set_option maxRecDepth 100000 in
theorem t_M84A (p : Nat) (a : Nat → R1) (q : Nat) (b : Nat → R1) (u : Bool) (N : Nat) (G : Nat → R1) : ((sx E0 [] 0 (loopOf P 69 2) (mkS 74 [0,1,2,7,8,9,10] (slMg p a q b 40 u N), memMg u N G)).bind (proj 74 [0,1,2,7,8,9,10])).force [true, true, true, false] =
    T.ask (U.gt (Int.ofNat p) (0 : Int) = true) (.ask (U.gt (Int.ofNat p) (0 : Int) = true) (.ask (U.eq (Int.ofNat q) (0 : Int) = true) (.ask (U.gt (Int.ofNat q) (0 : Int) = false)
      (.ask ((0 : Int) ≤ (0 : Int) ∧ (0 : Int) < ((p : Nat) : Int)) (.ask ((0 : Int) ≤ (1 : Int) ∧ (1 : Int) ≤ ((p : Nat) : Int) ∧ ((p : Nat) : Int) ≤ ((p : Nat) : Int)) (.ask ((N + (1 :
      Nat)) * nat_lit 8 ≤ nat_lit 140737488351232) (.ret (Ex.normal, [.row [.int .i64] (U.nsub p (U.toNat (1 : Int))) fun i => a (i + U.toNat (1 : Int)), .row [.int .i64] q b, SV.fn
      (Fn.func (nat_lit 40)) [] [], SV.own false (nat_lit 2) (N.add (nat_lit 1)), SV.kb true, SV.kb false, .lit (.int .i64 (a (U.toNat (0 : Int))).1)], [(nat_lit 1, none), (nat_lit 0,
      some (Blk.cells [.lit (.int .i64 (a (U.toNat (0 : Int))).1)] (nat_lit 3))), (nat_lit 0, some (Blk.row false (N.add (nat_lit 1)) [.int .i64] (U.cat N G fun x => ((a (U.toNat (0 :
      Int))).1, PUnit.unit)) (nat_lit 3)))])))))))) := by kernel_rfl
set_option maxRecDepth 100000 in
theorem t_M84B (p : Nat) (a : Nat → R1) (q : Nat) (b : Nat → R1) (u : Bool) (N : Nat) (G : Nat → R1) : ((sx E0 [] 0 (loopOf P 69 2) (mkS 74 [0,1,2,7,8,9,10] (slMg p a q b 40 u N), memMg u N G)).bind (proj 74 [0,1,2,7,8,9,10])).force [false, true, false, true, true] =
    T.ask (U.gt (Int.ofNat p) (0 : Int) = false) (.ask (U.gt (Int.ofNat q) (0 : Int) = true) (.ask (U.gt (Int.ofNat p) (0 : Int) = false) (.ask (U.gt (Int.ofNat q) (0 : Int) = true)
      (.ask (U.eq (Int.ofNat p) (0 : Int) = true) (.ask ((0 : Int) ≤ (0 : Int) ∧ (0 : Int) < ((q : Nat) : Int)) (.ask ((0 : Int) ≤ (1 : Int) ∧ (1 : Int) ≤ ((q : Nat) : Int) ∧ ((q : Nat) :
      Int) ≤ ((q : Nat) : Int)) (.ret (Ex.normal, [.row [.int .i64] p a, .row [.int .i64] (U.nsub q (U.toNat (1 : Int))) fun i => b (i + U.toNat (1 : Int)), SV.fn (Fn.func (nat_lit 40))
      [] [], SV.own u (nat_lit 0) N, SV.kb false, SV.kb true, .lit (.int .i64 (b (U.toNat (0 : Int))).1)], [(nat_lit 0, some (Blk.row u N [.int .i64] G (nat_lit 3)))])))))))) := by kernel_rfl
set_option maxRecDepth 100000 in
theorem t_M84C (p : Nat) (a : Nat → R1) (q : Nat) (b : Nat → R1) (u : Bool) (N : Nat) (G : Nat → R1) : ((sx E0 [] 0 (loopOf P 69 2) (mkS 74 [0,1,2,7,8,9,10] (slMg p a q b 40 u N), memMg u N G)).bind (proj 74 [0,1,2,7,8,9,10])).force [true, true, false, true, false, true, false, true] =
    T.ask (U.gt (Int.ofNat p) (0 : Int) = true) (.ask (U.gt (Int.ofNat p) (0 : Int) = true) (.ask (U.eq (Int.ofNat q) (0 : Int) = false) (.ask ((0 : Int) ≤ (0 : Int) ∧ (0 : Int) < ((p :
      Nat) : Int)) (.ask ((0 : Int) ≤ (0 : Int) ∧ (0 : Int) < ((q : Nat) : Int)) (.ask (U.gt (Int.ofNat q) (0 : Int) = true) (.ask (U.eq (Int.ofNat p) (0 : Int) = false) (.ask ((0 : Int)
      ≤ (0 : Int) ∧ (0 : Int) < ((q : Nat) : Int)) (.ask ((0 : Int) ≤ (0 : Int) ∧ (0 : Int) < ((p : Nat) : Int)) (.ask (U.le (a (U.toNat (0 : Int))).1 (b (U.toNat (0 : Int))).1 = true)
      (.ask ((0 : Int) ≤ (0 : Int) ∧ (0 : Int) < ((p : Nat) : Int)) (.ask ((0 : Int) ≤ (1 : Int) ∧ (1 : Int) ≤ ((p : Nat) : Int) ∧ ((p : Nat) : Int) ≤ ((p : Nat) : Int)) (.ask (U.le (b
      (U.toNat (0 : Int))).1 (a (U.toNat (0 : Int))).1 = false) (.ask (U.not (U.le (b (U.toNat (0 : Int))).1 (a (U.toNat (0 : Int))).1) = true) (.ask ((N + (1 : Nat)) * nat_lit 8 ≤
      nat_lit 140737488351232) (.ret (Ex.normal, [.row [.int .i64] (U.nsub p (U.toNat (1 : Int))) fun i => a (i + U.toNat (1 : Int)), .row [.int .i64] q b, SV.fn (Fn.func (nat_lit 40)) []
      [], SV.own false (nat_lit 2) (N.add (nat_lit 1)), .lit (.bool (U.le (a (U.toNat (0 : Int))).1 (b (U.toNat (0 : Int))).1)), .lit (.bool (U.le (b (U.toNat (0 : Int))).1 (a (U.toNat (0
      : Int))).1)), .lit (.int .i64 (a (U.toNat (0 : Int))).1)], [(nat_lit 1, none), (nat_lit 0, some (Blk.cells [.lit (.int .i64 (a (U.toNat (0 : Int))).1)] (nat_lit 3))), (nat_lit 0,
      some (Blk.row false (N.add (nat_lit 1)) [.int .i64] (U.cat N G fun x => ((a (U.toNat (0 : Int))).1, PUnit.unit)) (nat_lit 3)))])))))))))))))))) := by kernel_rfl
set_option maxRecDepth 100000 in
theorem t_M84D (p : Nat) (a : Nat → R1) (q : Nat) (b : Nat → R1) (u : Bool) (N : Nat) (G : Nat → R1) : ((sx E0 [] 0 (loopOf P 69 2) (mkS 74 [0,1,2,7,8,9,10] (slMg p a q b 40 u N), memMg u N G)).bind (proj 74 [0,1,2,7,8,9,10])).force [true, true, false, true, false, false, true, false] =
    T.ask (U.gt (Int.ofNat p) (0 : Int) = true) (.ask (U.gt (Int.ofNat p) (0 : Int) = true) (.ask (U.eq (Int.ofNat q) (0 : Int) = false) (.ask ((0 : Int) ≤ (0 : Int) ∧ (0 : Int) < ((p :
      Nat) : Int)) (.ask ((0 : Int) ≤ (0 : Int) ∧ (0 : Int) < ((q : Nat) : Int)) (.ask (U.gt (Int.ofNat q) (0 : Int) = true) (.ask (U.eq (Int.ofNat p) (0 : Int) = false) (.ask ((0 : Int)
      ≤ (0 : Int) ∧ (0 : Int) < ((q : Nat) : Int)) (.ask ((0 : Int) ≤ (0 : Int) ∧ (0 : Int) < ((p : Nat) : Int)) (.ask (U.le (a (U.toNat (0 : Int))).1 (b (U.toNat (0 : Int))).1 = false)
      (.ask (U.le (b (U.toNat (0 : Int))).1 (a (U.toNat (0 : Int))).1 = true) (.ask ((0 : Int) ≤ (0 : Int) ∧ (0 : Int) < ((q : Nat) : Int)) (.ask ((0 : Int) ≤ (1 : Int) ∧ (1 : Int) ≤ ((q
      : Nat) : Int) ∧ ((q : Nat) : Int) ≤ ((q : Nat) : Int)) (.ask (U.not (U.le (b (U.toNat (0 : Int))).1 (a (U.toNat (0 : Int))).1) = false) (.ret (Ex.normal, [.row [.int .i64] p a, .row
      [.int .i64] (U.nsub q (U.toNat (1 : Int))) fun i => b (i + U.toNat (1 : Int)), SV.fn (Fn.func (nat_lit 40)) [] [], SV.own u (nat_lit 0) N, .lit (.bool (U.le (a (U.toNat (0 :
      Int))).1 (b (U.toNat (0 : Int))).1)), .lit (.bool (U.le (b (U.toNat (0 : Int))).1 (a (U.toNat (0 : Int))).1)), .lit (.int .i64 (b (U.toNat (0 : Int))).1)], [(nat_lit 0, some
      (Blk.row u N [.int .i64] G (nat_lit 3)))]))))))))))))))) := by kernel_rfl
set_option maxRecDepth 100000 in
theorem t_M84E (p : Nat) (a : Nat → R1) (q : Nat) (b : Nat → R1) (u : Bool) (N : Nat) (G : Nat → R1) : ((sx E0 [] 0 (loopOf P 69 2) (mkS 74 [0,1,2,7,8,9,10] (slMg p a q b 40 u N), memMg u N G)).bind (proj 74 [0,1,2,7,8,9,10])).force [true, true, false, true, false, true, true, false] =
    T.ask (U.gt (Int.ofNat p) (0 : Int) = true) (.ask (U.gt (Int.ofNat p) (0 : Int) = true) (.ask (U.eq (Int.ofNat q) (0 : Int) = false) (.ask ((0 : Int) ≤ (0 : Int) ∧ (0 : Int) < ((p :
      Nat) : Int)) (.ask ((0 : Int) ≤ (0 : Int) ∧ (0 : Int) < ((q : Nat) : Int)) (.ask (U.gt (Int.ofNat q) (0 : Int) = true) (.ask (U.eq (Int.ofNat p) (0 : Int) = false) (.ask ((0 : Int)
      ≤ (0 : Int) ∧ (0 : Int) < ((q : Nat) : Int)) (.ask ((0 : Int) ≤ (0 : Int) ∧ (0 : Int) < ((p : Nat) : Int)) (.ask (U.le (a (U.toNat (0 : Int))).1 (b (U.toNat (0 : Int))).1 = true)
      (.ask ((0 : Int) ≤ (0 : Int) ∧ (0 : Int) < ((p : Nat) : Int)) (.ask ((0 : Int) ≤ (1 : Int) ∧ (1 : Int) ≤ ((p : Nat) : Int) ∧ ((p : Nat) : Int) ≤ ((p : Nat) : Int)) (.ask (U.le (b
      (U.toNat (0 : Int))).1 (a (U.toNat (0 : Int))).1 = true) (.ask ((0 : Int) ≤ (0 : Int) ∧ (0 : Int) < ((q : Nat) : Int)) (.ask ((0 : Int) ≤ (1 : Int) ∧ (1 : Int) ≤ ((q : Nat) : Int) ∧
      ((q : Nat) : Int) ≤ ((q : Nat) : Int)) (.ask (U.not (U.le (b (U.toNat (0 : Int))).1 (a (U.toNat (0 : Int))).1) = false) (.ret (Ex.normal, [.row [.int .i64] (U.nsub p (U.toNat (1 :
      Int))) fun i => a (i + U.toNat (1 : Int)), .row [.int .i64] (U.nsub q (U.toNat (1 : Int))) fun i => b (i + U.toNat (1 : Int)), SV.fn (Fn.func (nat_lit 40)) [] [], SV.own u (nat_lit
      0) N, .lit (.bool (U.le (a (U.toNat (0 : Int))).1 (b (U.toNat (0 : Int))).1)), .lit (.bool (U.le (b (U.toNat (0 : Int))).1 (a (U.toNat (0 : Int))).1)), .lit (.int .i64 (b (U.toNat
      (0 : Int))).1)], [(nat_lit 0, some (Blk.row u N [.int .i64] G (nat_lit 3)))]))))))))))))))))) := by kernel_rfl
set_option maxRecDepth 100000 in
theorem t_MX (p : Nat) (a : Nat → R1) (q : Nat) (b : Nat → R1) (g : Nat) (u : Bool) (N : Nat) (G : Nat → R1) : ((sx E0 [] 0 (loopOf P 69 2) (mkS 74 [0,1,2,7,8,9,10] (slMg p a q b g u N), memMg u N G)).bind (proj 74 [0,1,2,7,8,9,10])).force [false, false] =
    T.ask (U.gt (Int.ofNat p) (0 : Int) = false) (.ask (U.gt (Int.ofNat q) (0 : Int) = false) (.ret (Ex.exit (nat_lit 0), [.row [.int .i64] p a, .row [.int .i64] q b, SV.fn (Fn.func g)
      [] [], SV.own u (nat_lit 0) N, SV.any, SV.any, SV.any], [(nat_lit 0, some (Blk.row u N [.int .i64] G (nat_lit 3)))]))) := by kernel_rfl
set_option maxRecDepth 100000 in
theorem t_merged (p : Nat) (a : Nat → R1) (q : Nat) (b : Nat → R1) (g : Nat) : conB Go.Proofs.Tryz.prog (conOf []) (loopsOf lMg) 10 69 [.row [.int .i64] p a, .row [.int .i64] q b, .fn (.func g) [] []] =
    T.ask (nat_lit 0 = (0 : Nat) ∧ lk PreMg p a q b ∧ (g = (37 : FuncId) ∨ g = (39 : FuncId) ∨ g = (40 : FuncId))) (.ret (.row [.int .i64] (lk mgN g p a q b) (lk mgF g p a q b))) := by kernel_rfl
end Go.RX.Span

/- Sparse domains: ascending lists merged, plain. -/
set_option linter.unusedVariables false
set_option linter.unusedSimpArgs false
set_option maxRecDepth 100000
namespace Go.RX.Span
open Go Go.RX
attribute [local irreducible] sx conB

theorem asc_filter {l : List Int} (p : Int → Bool) (h : Asc l) : Asc (l.filter p) := List.Pairwise.filter _ h
theorem mg_asc (tk : Bool → Bool → Bool) (a b : List Int) : Asc (mgL tk a b) := asc_filter _ (asc_ofL _)
theorem mem_mg {tk : Bool → Bool → Bool} {a b : List Int} {x : Int} : x ∈ mgL tk a b ↔ (x ∈ a ∨ x ∈ b) ∧ tk (decide (x ∈ a)) (decide (x ∈ b)) = true := by
  unfold mgL; rw [List.mem_filter, mem_ofL, List.mem_append]
theorem asc_snoc {l : List Int} {x : Int} (h : Asc l) (hx : ∀ y ∈ l, y < x) : Asc (l ++ [x]) := by
  unfold Asc
  rw [List.pairwise_append]
  exact ⟨h, List.pairwise_singleton _ _, fun a ha b hb => by rw [List.mem_singleton] at hb; subst hb; exact hx a ha⟩
def opt (p : Bool) (x : Int) : List Int := if p then [x] else []
theorem mem_opt {p : Bool} {x y : Int} : y ∈ opt p x ↔ p = true ∧ y = x := by
  unfold opt
  cases p
  · exact ⟨fun h => absurd h List.not_mem_nil, fun h => absurd h.1 (by decide)⟩
  · rw [if_pos rfl, List.mem_singleton]; exact ⟨fun h => ⟨rfl, h⟩, fun h => h.2⟩
/-- The next number of the merged ones. -/
theorem mg_step {tk : Bool → Bool → Bool} {a b : List Int} {x : Int} {p q : Bool} (ha : ∀ y ∈ a, y < x) (hb : ∀ y ∈ b, y < x) (hpq : p = true ∨ q = true) :
    mgL tk (a ++ opt p x) (b ++ opt q x) = mgL tk a b ++ opt (tk p q) x := by
  have na : x ∉ a := fun h => by have := ha x h; omega
  have nb : x ∉ b := fun h => by have := hb x h; omega
  refine asc_eq (mg_asc _ _ _) ?_ fun y => ?_
  · unfold opt
    cases tk p q
    · rw [if_neg (by decide), List.append_nil]; exact mg_asc _ _ _
    · rw [if_pos rfl]
      exact asc_snoc (mg_asc _ _ _) fun y hy => (mem_mg.1 hy).1.elim (ha y) (hb y)
  · have e1 : y ∈ a ++ opt p x ↔ y ∈ a ∨ p = true ∧ y = x := by rw [List.mem_append, mem_opt]
    have e2 : y ∈ b ++ opt q x ↔ y ∈ b ∨ q = true ∧ y = x := by rw [List.mem_append, mem_opt]
    refine mem_mg.trans (Iff.trans ?_ List.mem_append.symm)
    refine Iff.trans ?_ (or_congr mem_mg mem_opt).symm
    by_cases e : y = x
    · subst e
      have d1 : decide (y ∈ a ++ opt p y) = p := by
        cases p
        · exact decide_eq_false fun h => (e1.1 h).elim na fun g => absurd g.1 (by decide)
        · exact decide_eq_true (e1.2 (.inr ⟨rfl, rfl⟩))
      have d2 : decide (y ∈ b ++ opt q y) = q := by
        cases q
        · exact decide_eq_false fun h => (e2.1 h).elim nb fun g => absurd g.1 (by decide)
        · exact decide_eq_true (e2.2 (.inr ⟨rfl, rfl⟩))
      rw [d1, d2]
      constructor
      · exact fun h => .inr ⟨h.2, rfl⟩
      · rintro (h | h)
        · exact (h.1.elim na nb).elim
        · exact ⟨hpq.elim (fun g => .inl (e1.2 (.inr ⟨g, rfl⟩))) (fun g => .inr (e2.2 (.inr ⟨g, rfl⟩))), h.1⟩
    · have f1 : y ∈ a ++ opt p x ↔ y ∈ a := e1.trans ⟨fun h => h.elim id fun g => absurd g.2 e, .inl⟩
      have f2 : y ∈ b ++ opt q x ↔ y ∈ b := e2.trans ⟨fun h => h.elim id fun g => absurd g.2 e, .inl⟩
      have d1 : decide (y ∈ a ++ opt p x) = decide (y ∈ a) := decide_eq_decide.2 f1
      have d2 : decide (y ∈ b ++ opt q x) = decide (y ∈ b) := decide_eq_decide.2 f2
      rw [d1, d2]
      constructor
      · rintro ⟨h1, h2⟩
        exact .inl ⟨h1.elim (fun h => .inl (f1.1 h)) (fun h => .inr (f2.1 h)), h2⟩
      · rintro (h | h)
        · exact ⟨h.1.elim (fun g => .inl (f1.2 g)) (fun g => .inr (f2.2 g)), h.2⟩
        · exact absurd h.2 e
theorem mg_len (tk : Bool → Bool → Bool) (a b : List Int) : (mgL tk a b).length ≤ a.length + b.length := by
  unfold mgL
  have h1 := List.length_filter_le (fun x => tk (decide (x ∈ a)) (decide (x ∈ b))) (ofL (a ++ b))
  have h2 := ofL_le (a ++ b)
  rw [List.length_append] at h2
  omega
theorem lF_app {l : List Int} {x : Int} {j : Nat} (hj : j < l.length + 1) : lF (l ++ [x]) j = if j < l.length then lF l j else (x, ()) := by
  by_cases h : j < l.length
  · refine Eq.trans ?_ (if_pos h).symm
    unfold lF
    rw [List.getD_eq_getElem?_getD, List.getD_eq_getElem?_getD, List.getElem?_append_left h]
  · refine Eq.trans ?_ (if_neg h).symm
    obtain rfl : j = l.length := by omega
    unfold lF
    rw [List.getD_eq_getElem?_getD, List.getElem?_append_right (Nat.le_refl _), Nat.sub_self]; rfl
end Go.RX.Span

/- Sparse domains: ascending lists merged. -/
set_option linter.unusedVariables false
set_option linter.unusedSimpArgs false
set_option maxRecDepth 100000
namespace Go.RX.Span
open Go Go.RX
attribute [local irreducible] sx conB

structure XMg where
  (g n : Nat) (a : Nat → R1) (m : Nat) (b : Nat → R1) (i j : Nat)
noncomputable abbrev LMg (q : XMg) : List Int := mgL (tkG q.g) (nl q.i q.a) (nl q.j q.b)
noncomputable abbrev stMg (g n : Nat) (a : Nat → R1) (m : Nat) (b : Nat → R1) (i j : Nat) (L : List Int) : Few := (slMg (n - i) (shF i a) (m - j) (shF j b) g (U.isz L.length) L.length, memMg (U.isz L.length) L.length (lF L))
noncomputable abbrev VMg (q : XMg) : Few := stMg q.g q.n q.a q.m q.b q.i q.j (LMg q)
noncomputable def OMg (q : XMg) : Ex × Few := (.exit 0, ([.any, .any, .any, .own (U.isz (mgN q.g q.n q.a q.m q.b)) 0 (mgN q.g q.n q.a q.m q.b), .any, .any, .any], memMg (U.isz (mgN q.g q.n q.a q.m q.b)) (mgN q.g q.n q.a q.m q.b) (mgF q.g q.n q.a q.m q.b)))
def PhiMg (n0 : Nat) (q : XMg) : Prop := n0 = 0 ∧ PreMg q.n q.a q.m q.b ∧ (q.g = 37 ∨ q.g = 39 ∨ q.g = 40) ∧ (q.i ≤ q.n ∧ q.j ≤ q.m) ∧ (∀ s, s < q.i → ∀ t, q.j ≤ t → t < q.m → nv q.a s < nv q.b t) ∧ ∀ t, t < q.j → ∀ s, q.i ≤ s → s < q.n → nv q.b t < nv q.a s
/-- The least of what is left. -/
structure Nx (n : Nat) (a : Nat → R1) (m : Nat) (b : Nat → R1) (i j : Nat) (p q : Bool) (x : Int) : Prop where
  p1 : p = true → i < n ∧ nv a i = x
  q1 : q = true → j < m ∧ nv b j = x
  p0 : p = false → i < n → x < nv a i
  q0 : q = false → j < m → x < nv b j
  or : p = true ∨ q = true
def inc (i : Nat) (p : Bool) : Nat := if p then i + 1 else i
theorem nx_phi {g n : Nat} {a : Nat → R1} {m : Nat} {b : Nat → R1} {i j : Nat} {p q : Bool} {x : Int} (h : PhiMg 0 ⟨g, n, a, m, b, i, j⟩) (hx : Nx n a m b i j p q x) :
    PhiMg 0 ⟨g, n, a, m, b, inc i p, inc j q⟩ ∧ (n - inc i p) + (m - inc j q) < (n - i) + (m - j) ∧ LMg ⟨g, n, a, m, b, inc i p, inc j q⟩ = LMg ⟨g, n, a, m, b, i, j⟩ ++ opt (tkG g p q) x := by
  obtain ⟨_, hp, hg, hij, h1, h2⟩ := h
  have hp : PreMg n a m b := hp
  have hij : i ≤ n ∧ j ≤ m := hij
  have h1 : ∀ s, s < i → ∀ t, j ≤ t → t < m → nv a s < nv b t := h1
  have h2 : ∀ t, t < j → ∀ s, i ≤ s → s < n → nv b t < nv a s := h2
  have aa := hp.1.2
  have bb := hp.2.2
  have xa : ∀ s, s < i → nv a s < x := fun s hs => by
    rcases hx.or with e | e
    · obtain ⟨e1, e2⟩ := hx.p1 e; rw [← e2]; exact aa s i hs e1
    · obtain ⟨e1, e2⟩ := hx.q1 e; rw [← e2]; exact h1 s hs j (Nat.le_refl _) e1
  have xb : ∀ t, t < j → nv b t < x := fun t ht => by
    rcases hx.or with e | e
    · obtain ⟨e1, e2⟩ := hx.p1 e; rw [← e2]; exact h2 t ht i (Nat.le_refl _) e1
    · obtain ⟨e1, e2⟩ := hx.q1 e; rw [← e2]; exact bb t j ht e1
  have ra : ∀ s, inc i p ≤ s → s < n → x < nv a s := fun s hs hn => by
    unfold inc at hs
    cases p
    · have e1 := hx.p0 rfl (by simp at hs; omega)
      simp at hs
      by_cases e : i = s
      · rw [← e]; exact e1
      · have := aa i s (by omega) hn; omega
    · obtain ⟨e1, e2⟩ := hx.p1 rfl
      simp at hs
      rw [← e2]; exact aa i s (by omega) hn
  have rb : ∀ t, inc j q ≤ t → t < m → x < nv b t := fun t ht hm => by
    unfold inc at ht
    cases q
    · have e1 := hx.q0 rfl (by simp at ht; omega)
      simp at ht
      by_cases e : j = t
      · rw [← e]; exact e1
      · have := bb j t (by omega) hm; omega
    · obtain ⟨e1, e2⟩ := hx.q1 rfl
      simp at ht
      rw [← e2]; exact bb j t (by omega) hm
  have la : ∀ s, s < inc i p → nv a s ≤ x := fun s hs => by
    by_cases e : s < i
    · have := xa s e; omega
    · unfold inc at hs
      cases p
      · simp at hs; omega
      · simp at hs
        obtain ⟨e1, e2⟩ := hx.p1 rfl
        obtain rfl : s = i := by omega
        omega
  have lb : ∀ t, t < inc j q → nv b t ≤ x := fun t ht => by
    by_cases e : t < j
    · have := xb t e; omega
    · unfold inc at ht
      cases q
      · simp at ht; omega
      · simp at ht
        obtain ⟨e1, e2⟩ := hx.q1 rfl
        obtain rfl : t = j := by omega
        omega
  have ip : inc i p ≤ n := by
    unfold inc
    cases p
    · exact hij.1
    · exact (hx.p1 rfl).1
  have jp : inc j q ≤ m := by
    unfold inc
    cases q
    · exact hij.2
    · exact (hx.q1 rfl).1
  refine ⟨⟨rfl, hp, hg, ⟨ip, jp⟩, fun s hs t ht hm => ?_, fun t ht s hs hn => ?_⟩, ?_, ?_⟩
  · exact Int.lt_of_le_of_lt (la s hs) (rb t ht hm)
  · exact Int.lt_of_le_of_lt (lb t ht) (ra s hs hn)
  · rcases hx.or with e | e
    · have e1 := (hx.p1 e).1
      subst e
      have : inc i true = i + 1 := rfl
      have : j ≤ inc j q := by unfold inc; cases q <;> simp
      omega
    · have e1 := (hx.q1 e).1
      subst e
      have : inc j true = j + 1 := rfl
      have : i ≤ inc i p := by unfold inc; cases p <;> simp
      omega
  · have ea : nl (inc i p) a = nl i a ++ opt p x := by
      unfold inc
      cases p
      · simp [opt]
      · rw [← (hx.p1 rfl).2]; exact nl_s i a
    have eb : nl (inc j q) b = nl j b ++ opt q x := by
      unfold inc
      cases q
      · simp [opt]
      · rw [← (hx.q1 rfl).2]; exact nl_s j b
    show mgL (tkG g) (nl (inc i p) a) (nl (inc j q) b) = _
    rw [ea, eb]
    refine mg_step (fun y hy => ?_) (fun y hy => ?_) hx.or
    · obtain ⟨s, hs, rfl⟩ := mem_nl.1 hy; exact xa s hs
    · obtain ⟨t, ht, rfl⟩ := mem_nl.1 hy; exact xb t ht
theorem shV_0 {i : Nat} {a : Nat → R1} : (shF i a 0).1 = nv a i := by show (a (0 + i)).1 = _; rw [Nat.zero_add]; rfl
theorem rowS {ρ : Ren} {n i : Nat} {a : Nat → R1} : Rl ρ (.row [.int .i64] (U.nsub (n - i) 1) (fun t => shF i a (t + 1))) (.row [.int .i64] (n - (i + 1)) (shF (i + 1) a)) :=
  ⟨by rw [U.nsub_eq]; omega, row1H fun t _ => by show a (t + 1 + i) = a (t + (i + 1)); congr 1; omega⟩
/-- The state behind a number that is taken. -/
theorem wT {g n : Nat} {a : Nat → R1} {m : Nat} {b : Nat → R1} {i' j' : Nat} {L L' : List Int} {x : Int} {s0 s1 v8 v9 v10 : SV} {c : Blk} (hL : L' = L ++ [x]) (h0 : Rl [some 2] s0 (.row [.int .i64] (n - i') (shF i' a))) (h1 : Rl [some 2] s1 (.row [.int .i64] (m - j') (shF j' b))) :
    Wk 74 [0,1,2,7,8,9,10] 0 ([s0, s1, .fn (.func g) [] [], .own false 2 (L.length + 1), v8, v9, v10], [(1, none), (0, some c), (0, some (.row false (L.length + 1) [.int .i64] (U.cat L.length (lF L) fun _ => ((x, ()) : R1)) 3))]) (stMg g n a m b i' j' L') := by
  subst hL
  have e : (L ++ [x]).length = L.length + 1 := by simp
  unfold stMg
  rw [e]
  refine wk_of [some 2] rfl (Nat.zero_le _) (ren1z _) ⟨h0, h1, ⟨rfl, trivial, trivial⟩, ⟨(isz_s _).symm, rfl, rfl⟩, rl_any _, rl_any _, rl_any _, trivial⟩ ⟨⟨rfl, (isz_s _).symm, rfl, row1H fun t ht => ?_⟩, trivial⟩
  rw [lF_app ht]
  exact U.cat_eq _ _ _ _
/-- The state behind a number that is not taken. -/
theorem wK {g n : Nat} {a : Nat → R1} {m : Nat} {b : Nat → R1} {i' j' : Nat} {L L' : List Int} {s0 s1 v8 v9 v10 : SV} (hL : L' = L) (h0 : Rl [some 0] s0 (.row [.int .i64] (n - i') (shF i' a))) (h1 : Rl [some 0] s1 (.row [.int .i64] (m - j') (shF j' b))) :
    Wk 74 [0,1,2,7,8,9,10] 0 ([s0, s1, .fn (.func g) [] [], .own (U.isz L.length) 0 L.length, v8, v9, v10], memMg (U.isz L.length) L.length (lF L)) (stMg g n a m b i' j' L') := by
  subst hL
  exact wk_of [some 0] rfl (Nat.zero_le _) (ren1z _) ⟨h0, h1, ⟨rfl, trivial, trivial⟩, ⟨rfl, rfl, rfl⟩, rl_any _, rl_any _, rl_any _, trivial⟩ ⟨⟨rfl, rfl, rfl, row1H fun _ _ => rfl⟩, trivial⟩
theorem rowE {ρ : Ren} {n : Nat} {a : Nat → R1} : Rl ρ (.row [.int .i64] n a) (.row [.int .i64] n a) := ⟨rfl, row1H fun _ _ => rfl⟩
theorem gtp {n : Nat} (h : 0 < n) : U.gt (Int.ofNat n) 0 = true := U.gt_t.mpr (by simp only [Int.ofNat_eq_natCast]; omega)
theorem gtz {n : Nat} (h : n = 0) : U.gt (Int.ofNat n) 0 = false := U.gt_f.mpr (by simp only [Int.ofNat_eq_natCast]; omega)
theorem eqp {n : Nat} (h : 0 < n) : U.eq (Int.ofNat n) 0 = false := U.eq_f.mpr (by simp only [Int.ofNat_eq_natCast]; omega)
theorem eqz {n : Nat} (h : n = 0) : U.eq (Int.ofNat n) 0 = true := U.eq_t.mpr (by simp only [Int.ofNat_eq_natCast]; omega)
theorem roundMg (n0 : Nat) (q : XMg) (hq : PhiMg n0 q) : ((sx E0 [] n0 (loopOf P 69 2) (mkS 74 [0,1,2,7,8,9,10] (VMg q).1, (VMg q).2)).bind (proj 74 [0,1,2,7,8,9,10])).All fun r => match r.1 with
      | .normal => ∃ q', PhiMg n0 q' ∧ (q'.n - q'.i) + (q'.m - q'.j) < (q.n - q.i) + (q.m - q.j) ∧ Wk 74 [0,1,2,7,8,9,10] n0 r.2 (VMg q') ∧ ∀ o, o = OMg q' → o = OMg q
      | e => ∃ s, (e, s) = OMg q ∧ Wk 74 [0,1,2,7,8,9,10] n0 r.2 s := by
  obtain ⟨g, n, a, m, b, i, j⟩ := q
  have h0 := hq.1
  subst h0
  obtain ⟨_, hp, hg, hij, h1, h2⟩ := id hq
  have hp : PreMg n a m b := hp
  have hij : i ≤ n ∧ j ≤ m := hij
  have hg : g = 37 ∨ g = 39 ∨ g = 40 := hg
  have len : (LMg ⟨g, n, a, m, b, i, j⟩).length ≤ 200000 := by
    have := mg_len (tkG g) (nl i a) (nl j b)
    rw [nl_len, nl_len] at this
    have e1 := hp.1.1
    have e2 := hp.2.1
    show (mgL (tkG g) (nl i a) (nl j b)).length ≤ _
    omega
  generalize eL : LMg ⟨g, n, a, m, b, i, j⟩ = L at len
  have tn1' : U.toNat (1 : Int) = 1 := tn 1
  have hN : (L.length + 1) * 8 ≤ 140737488351232 := by omega
  show T.All _ ((sx E0 [] 0 (loopOf P 69 2) (mkS 74 [0,1,2,7,8,9,10] (stMg g n a m b i j (LMg ⟨g, n, a, m, b, i, j⟩)).1, (stMg g n a m b i j (LMg ⟨g, n, a, m, b, i, j⟩)).2)).bind (proj 74 [0,1,2,7,8,9,10]))
  rw [eL]
  by_cases hi : i < n
  · by_cases hj : j < m
    · have i1 : 0 < n - i := by omega
      have j1 : 0 < m - j := by omega
      rcases Int.lt_trichotomy (nv a i) (nv b j) with hc | hc | hc
      · have nx : Nx n a m b i j true false (nv a i) := ⟨fun _ => ⟨hi, rfl⟩, fun h => Bool.noConfusion h, fun h => Bool.noConfusion h, fun _ _ => hc, .inl rfl⟩
        obtain ⟨k1, k2, k3⟩ := nx_phi hq nx
        have ab : U.le (shF i a 0).1 (shF j b 0).1 = true := by rw [shV_0, shV_0]; exact U.le_t.mpr (by omega)
        have ba : U.le (shF j b 0).1 (shF i a 0).1 = false := by rw [shV_0, shV_0]; exact U.le_f.mpr (by omega)
        have bn : U.not (U.le (shF j b 0).1 (shF i a 0).1) = true := U.not_t.mpr ba
        have g1 := gtp i1
        have g2 := gtp j1
        have g3 := eqp i1
        have g4 := eqp j1
        rcases hg with rfl | rfl | rfl
        · refine force_all _ [true, true, false, true, false, true, false] ?_
          refine T.all_of_eq (t_M82C (n - i) (shF i a) (m - j) (shF j b) (U.isz L.length) L.length (lF L)) ?_
          rw [tn0, tn1']
          repeat' refine And.intro (by first | assumption | omega) ?_
          rw [shV_0 (i := i) (a := a)]
          exact ⟨⟨37, n, a, m, b, inc i true, inc j false⟩, k1, k2, wT (k3.trans (by rw [eL]; rfl)) rowS rowE, fun o ho => ho⟩
        · refine force_all _ [true, true, false, true, false, true, false, true, false] ?_
          refine T.all_of_eq (t_M83C (n - i) (shF i a) (m - j) (shF j b) (U.isz L.length) L.length (lF L)) ?_
          rw [tn0, tn1']
          repeat' refine And.intro (by first | assumption | omega) ?_
          exact ⟨⟨39, n, a, m, b, inc i true, inc j false⟩, k1, k2, wK (k3.trans (by rw [eL]; exact List.append_nil _)) rowS rowE, fun o ho => ho⟩
        · refine force_all _ [true, true, false, true, false, true, false, true] ?_
          refine T.all_of_eq (t_M84C (n - i) (shF i a) (m - j) (shF j b) (U.isz L.length) L.length (lF L)) ?_
          rw [tn0, tn1']
          repeat' refine And.intro (by first | assumption | omega) ?_
          rw [shV_0 (i := i) (a := a)]
          exact ⟨⟨40, n, a, m, b, inc i true, inc j false⟩, k1, k2, wT (k3.trans (by rw [eL]; rfl)) rowS rowE, fun o ho => ho⟩
      · have nx : Nx n a m b i j true true (nv b j) := ⟨fun _ => ⟨hi, hc⟩, fun _ => ⟨hj, rfl⟩, fun h => Bool.noConfusion h, fun h => Bool.noConfusion h, .inl rfl⟩
        obtain ⟨k1, k2, k3⟩ := nx_phi hq nx
        have ab : U.le (shF i a 0).1 (shF j b 0).1 = true := by rw [shV_0, shV_0]; exact U.le_t.mpr (by omega)
        have ba : U.le (shF j b 0).1 (shF i a 0).1 = true := by rw [shV_0, shV_0]; exact U.le_t.mpr (by omega)
        have bn : U.not (U.le (shF j b 0).1 (shF i a 0).1) = false := U.not_f.mpr ba
        have g1 := gtp i1
        have g2 := gtp j1
        have g3 := eqp i1
        have g4 := eqp j1
        rcases hg with rfl | rfl | rfl
        · refine force_all _ [true, true, false, true, false, true, true] ?_
          refine T.all_of_eq (t_M82E (n - i) (shF i a) (m - j) (shF j b) (U.isz L.length) L.length (lF L)) ?_
          rw [tn0, tn1']
          repeat' refine And.intro (by first | assumption | omega) ?_
          rw [shV_0 (i := j) (a := b)]
          exact ⟨⟨37, n, a, m, b, inc i true, inc j true⟩, k1, k2, wT (k3.trans (by rw [eL]; rfl)) rowS rowS, fun o ho => ho⟩
        · refine force_all _ [true, true, false, true, false, true, true, true, true] ?_
          refine T.all_of_eq (t_M83E (n - i) (shF i a) (m - j) (shF j b) (U.isz L.length) L.length (lF L)) ?_
          rw [tn0, tn1']
          repeat' refine And.intro (by first | assumption | omega) ?_
          rw [shV_0 (i := j) (a := b)]
          exact ⟨⟨39, n, a, m, b, inc i true, inc j true⟩, k1, k2, wT (k3.trans (by rw [eL]; rfl)) rowS rowS, fun o ho => ho⟩
        · refine force_all _ [true, true, false, true, false, true, true, false] ?_
          refine T.all_of_eq (t_M84E (n - i) (shF i a) (m - j) (shF j b) (U.isz L.length) L.length (lF L)) ?_
          rw [tn0, tn1']
          repeat' refine And.intro (by first | assumption | omega) ?_
          exact ⟨⟨40, n, a, m, b, inc i true, inc j true⟩, k1, k2, wK (k3.trans (by rw [eL]; exact List.append_nil _)) rowS rowS, fun o ho => ho⟩
      · have nx : Nx n a m b i j false true (nv b j) := ⟨fun h => Bool.noConfusion h, fun _ => ⟨hj, rfl⟩, fun _ _ => hc, fun h => Bool.noConfusion h, .inr rfl⟩
        obtain ⟨k1, k2, k3⟩ := nx_phi hq nx
        have ab : U.le (shF i a 0).1 (shF j b 0).1 = false := by rw [shV_0, shV_0]; exact U.le_f.mpr (by omega)
        have ba : U.le (shF j b 0).1 (shF i a 0).1 = true := by rw [shV_0, shV_0]; exact U.le_t.mpr (by omega)
        have bn : U.not (U.le (shF j b 0).1 (shF i a 0).1) = false := U.not_f.mpr ba
        have g1 := gtp i1
        have g2 := gtp j1
        have g3 := eqp i1
        have g4 := eqp j1
        rcases hg with rfl | rfl | rfl
        · refine force_all _ [true, true, false, true, false, false, true] ?_
          refine T.all_of_eq (t_M82D (n - i) (shF i a) (m - j) (shF j b) (U.isz L.length) L.length (lF L)) ?_
          rw [tn0, tn1']
          repeat' refine And.intro (by first | assumption | omega) ?_
          rw [shV_0 (i := j) (a := b)]
          exact ⟨⟨37, n, a, m, b, inc i false, inc j true⟩, k1, k2, wT (k3.trans (by rw [eL]; rfl)) rowE rowS, fun o ho => ho⟩
        · refine force_all _ [true, true, false, true, false, false, true, false] ?_
          refine T.all_of_eq (t_M83D (n - i) (shF i a) (m - j) (shF j b) (U.isz L.length) L.length (lF L)) ?_
          rw [tn0, tn1']
          repeat' refine And.intro (by first | assumption | omega) ?_
          exact ⟨⟨39, n, a, m, b, inc i false, inc j true⟩, k1, k2, wK (k3.trans (by rw [eL]; exact List.append_nil _)) rowE rowS, fun o ho => ho⟩
        · refine force_all _ [true, true, false, true, false, false, true, false] ?_
          refine T.all_of_eq (t_M84D (n - i) (shF i a) (m - j) (shF j b) (U.isz L.length) L.length (lF L)) ?_
          rw [tn0, tn1']
          repeat' refine And.intro (by first | assumption | omega) ?_
          exact ⟨⟨40, n, a, m, b, inc i false, inc j true⟩, k1, k2, wK (k3.trans (by rw [eL]; exact List.append_nil _)) rowE rowS, fun o ho => ho⟩
    · have ej : m - j = 0 := by omega
      have i1 : 0 < n - i := by omega
      have nx : Nx n a m b i j true false (nv a i) := ⟨fun _ => ⟨hi, rfl⟩, fun h => Bool.noConfusion h, fun h => Bool.noConfusion h, fun _ h => absurd h hj, .inl rfl⟩
      obtain ⟨k1, k2, k3⟩ := nx_phi hq nx
      have g1 := gtp i1
      have g2 := gtz ej
      have g4 := eqz ej
      have g3 := eqp i1
      rcases hg with rfl | rfl | rfl
      · refine force_all _ [true, true, true, false] ?_
        refine T.all_of_eq (t_M82A (n - i) (shF i a) (m - j) (shF j b) (U.isz L.length) L.length (lF L)) ?_
        rw [tn0, tn1']
        repeat' refine And.intro (by first | assumption | omega) ?_
        rw [shV_0 (i := i) (a := a)]
        exact ⟨⟨37, n, a, m, b, inc i true, inc j false⟩, k1, k2, wT (k3.trans (by rw [eL]; rfl)) rowS rowE, fun o ho => ho⟩
      · refine force_all _ [true, true, true, false] ?_
        refine T.all_of_eq (t_M83A (n - i) (shF i a) (m - j) (shF j b) (U.isz L.length) L.length (lF L)) ?_
        rw [tn0, tn1']
        repeat' refine And.intro (by first | assumption | omega) ?_
        exact ⟨⟨39, n, a, m, b, inc i true, inc j false⟩, k1, k2, wK (k3.trans (by rw [eL]; exact List.append_nil _)) rowS rowE, fun o ho => ho⟩
      · refine force_all _ [true, true, true, false] ?_
        refine T.all_of_eq (t_M84A (n - i) (shF i a) (m - j) (shF j b) (U.isz L.length) L.length (lF L)) ?_
        rw [tn0, tn1']
        repeat' refine And.intro (by first | assumption | omega) ?_
        rw [shV_0 (i := i) (a := a)]
        exact ⟨⟨40, n, a, m, b, inc i true, inc j false⟩, k1, k2, wT (k3.trans (by rw [eL]; rfl)) rowS rowE, fun o ho => ho⟩
  · by_cases hj : j < m
    · have ei : n - i = 0 := by omega
      have j1 : 0 < m - j := by omega
      have nx : Nx n a m b i j false true (nv b j) := ⟨fun h => Bool.noConfusion h, fun _ => ⟨hj, rfl⟩, fun _ h => absurd h hi, fun h => Bool.noConfusion h, .inr rfl⟩
      obtain ⟨k1, k2, k3⟩ := nx_phi hq nx
      have g1 := gtz ei
      have g2 := gtp j1
      have g3 := eqz ei
      have g4 := eqp j1
      rcases hg with rfl | rfl | rfl
      · refine force_all _ [false, true, false, true, true] ?_
        refine T.all_of_eq (t_M82B (n - i) (shF i a) (m - j) (shF j b) (U.isz L.length) L.length (lF L)) ?_
        rw [tn0, tn1']
        repeat' refine And.intro (by first | assumption | omega) ?_
        rw [shV_0 (i := j) (a := b)]
        exact ⟨⟨37, n, a, m, b, inc i false, inc j true⟩, k1, k2, wT (k3.trans (by rw [eL]; rfl)) rowE rowS, fun o ho => ho⟩
      · refine force_all _ [false, true, false, true, true] ?_
        refine T.all_of_eq (t_M83B (n - i) (shF i a) (m - j) (shF j b) (U.isz L.length) L.length (lF L)) ?_
        rw [tn0, tn1']
        repeat' refine And.intro (by first | assumption | omega) ?_
        exact ⟨⟨39, n, a, m, b, inc i false, inc j true⟩, k1, k2, wK (k3.trans (by rw [eL]; exact List.append_nil _)) rowE rowS, fun o ho => ho⟩
      · refine force_all _ [false, true, false, true, true] ?_
        refine T.all_of_eq (t_M84B (n - i) (shF i a) (m - j) (shF j b) (U.isz L.length) L.length (lF L)) ?_
        rw [tn0, tn1']
        repeat' refine And.intro (by first | assumption | omega) ?_
        exact ⟨⟨40, n, a, m, b, inc i false, inc j true⟩, k1, k2, wK (k3.trans (by rw [eL]; exact List.append_nil _)) rowE rowS, fun o ho => ho⟩
    · obtain rfl : i = n := by omega
      obtain rfl : j = m := by omega
      refine force_all _ [false, false] ?_
      refine T.all_of_eq (t_MX (i - i) (shF i a) (j - j) (shF j b) g (U.isz L.length) L.length (lF L)) ?_
      refine ⟨gtz (by omega), gtz (by omega), _, rfl, ?_⟩
      have eL : L = mgL (tkG g) (nl i a) (nl j b) := eL.symm
      subst eL
      exact wk_of [some 0] rfl (Nat.zero_le _) (ren1z _) ⟨rl_any _, rl_any _, rl_any _, ⟨rfl, rfl, rfl⟩, rl_any _, rl_any _, rl_any _, trivial⟩ ⟨⟨rfl, rfl, rfl, row1H fun _ _ => rfl⟩, trivial⟩
theorem loopMg : LoopOK P (loopOf P 69 2) (few 74 [0,1,2,7,8,9,10] gMg) :=
  loop_few (E := E0) mixed E0_ok loopsOK_none 74 [0,1,2,7,8,9,10] (X := XMg) gMg (fun _ x => VMg x) PhiMg (fun q => (q.n - q.i) + (q.m - q.j)) (fun _ x o => o = OMg x)
    (fun n0 st r hh => by
      unfold gMg at hh
      split at hh
      · rename_i n0 p a q b g s8 s9 s10
        obtain ⟨h0, hp, hg⟩ := (T.is_ask hh).1
        obtain rfl := T.is_ret (T.is_ask hh).2
        subst h0
        rw [lk_eq] at hp
        have zi : U.isz 0 = true := by rw [U.isz_eq]; rfl
        refine ⟨⟨g, p, a, q, b, 0, 0⟩, ⟨rfl, hp, hg, ⟨Nat.zero_le _, Nat.zero_le _⟩, fun s hs => absurd hs (Nat.not_lt_zero s), fun t ht => absurd ht (Nat.not_lt_zero t)⟩, ?_, fun o ho => by rw [ho]; simp only [lk_eq]; rfl⟩
        exact wk_of [none] rfl (Nat.zero_le _) (ren1z _) ⟨⟨rfl, row1H fun _ _ => rfl⟩, ⟨rfl, row1H fun _ _ => rfl⟩, ⟨rfl, trivial, trivial⟩, ⟨rfl, zi, rfl⟩, rl_any _, rl_any _, rl_any _, trivial⟩ ⟨⟨zi, rfl⟩, trivial⟩
      · exact hh.elim)
    roundMg
theorem lMg_ok : ∀ p ∈ lMg, LoopsOK P p.2 (bodyOf P p.1) := by
  intro p hp
  simp only [lMg, List.mem_singleton] at hp
  subst hp
  refine loopsOK_of (by kernel_rfl) fun k g hk => ?_
  simp only [List.mem_singleton, Prod.mk.injEq, LoopC.sum.injEq] at hk
  obtain ⟨rfl, rfl⟩ := hk
  exact loopMg
theorem merged_ok : ConOK P 69 c_merged := con_of (allOKL mixed none_ok lMg_ok) 10 69 fun args r hh => by
  unfold c_merged at hh
  split at hh
  · rename_i p a q b g
    obtain ⟨hp, hg⟩ := (T.is_ask hh).1
    obtain rfl := T.is_ret (T.is_ask hh).2
    rw [lk_eq] at hp
    refine T.all_of_eq (t_merged p a q b g) ?_
    simp only [lk_eq]
    exact ⟨⟨trivial, hp, hg⟩, rfl⟩
  · exact hh.elim
end Go.RX.Span

/- Sparse domains: Union, Both, Minus, Within: plain; the states. -/
set_option linter.unusedVariables false
set_option linter.unusedSimpArgs false
set_option maxRecDepth 100000
namespace Go.RX.Span
open Go Go.RX
attribute [local irreducible] sx conB

section
variable (g n : Nat) (f : Nat → R3) (k s h : Int) (m : Nat) (e : Nat → R1) (n1 : Nat) (f1 : Nat → R3) (k1 s1 h1 : Int) (m1 : Nat) (e1 : Nat → R1)
/-- Whether two domains are equal in all fields. -/
noncomputable def eqDo : Bool := eqR3 n f n1 f1 && decide (k = k1 ∧ s = s1 ∧ h = h1)
noncomputable def paE : Int := if spE n f k s h m e ≠ 0 then spE n f k s h m e else if spE n1 f1 k1 s1 h1 m1 e1 ≠ 0 then spE n1 f1 k1 s1 h1 m1 e1 else if eqDo n f k s h n1 f1 k1 s1 h1 = false then 50 else if 5000 < mgN g m e m1 e1 then 5 else 0
end
noncomputable def c_pair (g : Nat) : Con := fun args => match args with
  | [.agg [.row [.int .i64, .int .i64, .int .i64] n f, .lit (.int .i64 k), .lit (.int .i64 s), .lit (.int .i64 h), .row [.int .i64] m e], .agg [.row [.int .i64, .int .i64, .int .i64] n1 f1, .lit (.int .i64 k1), .lit (.int .i64 s1), .lit (.int .i64 h1), .row [.int .i64] m1 e1]] =>
    .ask (Row64 n f ∧ Row64 n1 f1) (.ret (.tup [.agg [.row [.int .i64, .int .i64, .int .i64] (lk zn (lk paE g n f k s h m e n1 f1 k1 s1 h1 m1 e1) n) f, .lit (.int .i64 (lk zi (lk paE g n f k s h m e n1 f1 k1 s1 h1 m1 e1) k)), .lit (.int .i64 (lk zi (lk paE g n f k s h m e n1 f1 k1 s1 h1 m1 e1) s)), .lit (.int .i64 (lk zi (lk paE g n f k s h m e n1 f1 k1 s1 h1 m1 e1) h)),
      .row [.int .i64] (lk zn (lk paE g n f k s h m e n1 f1 k1 s1 h1 m1 e1) (lk mgN g m e m1 e1)) (lk mgF g m e m1 e1)], .lit (.int .i64 (lk paE g n f k s h m e n1 f1 k1 s1 h1 m1 e1))]))
  | _ => .stuck 1
noncomputable abbrev kPa : List (Nat × Con) := [(24, c_SpCheck), (35, c_Equal3), (46, c_copied), (69, c_merged)] --%K
theorem kPa_ok : ∀ p ∈ kPa, ConOK P p.1 p.2 := by
  intro p hp
  simp only [kPa, List.mem_cons, List.not_mem_nil, or_false] at hp
  rcases hp with rfl | rfl | rfl | rfl
  · exact SpCheck_ok
  · exact Equal3_ok
  · exact copied_ok
  · exact merged_ok
/-! Within. -/
section
variable (n : Nat) (f : Nat → R3) (k s h : Int) (m : Nat) (e : Nat → R1) (N : Nat) (F : Nat → R3) (K S H : Int)
/-- Whether the i-th index is in a domain; its position there. -/
def wnH (i : Nat) : Bool := hasD N F K S H (dnN n f k s h (nv e i)) (dnF n f (nv e i))
def wnP (i : Nat) : Int := posD N F K S H (dnN n f k s h (nv e i)) (dnF n f (nv e i))
def wnL : List Int := (List.range m).filterMap fun i => if wnH n f k s h e N F K S H i then some (wnP n f k s h e N F K S H i) else none
def wnN : Nat := (wnL n f k s h m e N F K S H).length
def wnF : Nat → R1 := lF (wnL n f k s h m e N F K S H)
end
def PreWn (n0 : Nat) (n : Nat) (f : Nat → R3) (m : Nat) (e : Nat → R1) (N : Nat) (F : Nat → R3) : Prop := n0 = 0 ∧ Row64 n f ∧ Row64 N F ∧ m ≤ 5000 ∧ ∀ i, i < m → I64 (nv e i)
noncomputable abbrev slWn (m : Nat) (e : Nat → R1) (i : Int) : List SV := [.ptr 0 0, .ptr 2 0, .ptr 3 0, .ptr 4 0, .any, .any, .any, .any, .any, .row [.int .i64] m e, .lit (.int .i64 (m : Int)), .lit (.int .i64 i)]
noncomputable abbrev memWn (n : Nat) (f : Nat → R3) (k s h : Int) (m : Nat) (e : Nat → R1) (N : Nat) (F : Nat → R3) (K S H : Int) (u : Bool) (C : Nat) (G : Nat → R1) : Mem :=
  [(0, some (bxIn n f k s h m e 33)), (0, none), (0, some (.cells zeV 33)), (0, some (.cells [.row [.int .i64, .int .i64, .int .i64] N F, .lit (.int .i64 K), .lit (.int .i64 S), .lit (.int .i64 H)] 26)),
   (0, some (.cells [.row [.int .i64, .int .i64, .int .i64] N F, .lit (.int .i64 K), .lit (.int .i64 S), .lit (.int .i64 H), .own u 5 C] 33)), (0, some (.row u C [.int .i64] G 3))]
noncomputable def gWn : Nat → Few → T (Ex × Few)
  | n0, ([.ptr p0 q0, .ptr p2 q2, .ptr p3 q3, .ptr p4 q4, _, _, _, _, _, .row [.int .i64] m' e', .lit (.int .i64 M'), .ki .i64 z], [(_, some (.cells [.row [.int .i64, .int .i64, .int .i64] n f, .lit (.int .i64 k), .lit (.int .i64 s), .lit (.int .i64 h), .row [.int .i64] m e] t0)), _, (_, some (.cells zs t2)), (_, some (.cells [.row [.int .i64, .int .i64, .int .i64] N F, .lit (.int .i64 K), .lit (.int .i64 S), .lit (.int .i64 H)] t3)), (_, some (.cells [.row [.int .i64, .int .i64, .int .i64] N' F', .lit (.int .i64 K'), .lit (.int .i64 S'), .lit (.int .i64 H'), nilS] t4))]) =>
    .ask (lk PreWn n0 n f m e N F ∧ p0 = 0 ∧ q0 = 0 ∧ p2 = 2 ∧ q2 = 0 ∧ p3 = 3 ∧ q3 = 0 ∧ p4 = 4 ∧ q4 = 0 ∧ m' = m ∧ e' = e ∧ M' = (m : Int) ∧ z = 0 ∧ t0 = 33 ∧ zs = zeV ∧ t2 = 33 ∧ t3 = 26 ∧ N' = N ∧ F' = F ∧ K' = K ∧ S' = S ∧ H' = H ∧ nilS = .lit (.slice none 0 0) ∧ t4 = 33)
      (.ret (.exit 0, ([.any, .ptr 2 0, .any, .ptr 4 0, .any, .any, .any, .any, .any, .any, .any, .any], memWn n f k s h m e N F K S H (U.isz (lk wnN n f k s h m e N F K S H)) (lk wnN n f k s h m e N F K S H) (lk wnF n f k s h m e N F K S H))))
  | _, _ => .stuck 1
noncomputable abbrev lWn : List (Nat × Loops) := [(7, [(15, .sum (few 78 [2,4,8,11,13,14,15,16,17,50,51,52] gWn))])] --%K
noncomputable abbrev kWn : List (Nat × Con) := [(24, c_SpCheck), (25, c_DCheck), (26, c_DIntersect), (27, c_parented), (28, c_DNth), (29, c_DPosition)] --%K
theorem kWn_ok : ∀ p ∈ kWn, ConOK P p.1 p.2 := by
  intro p hp
  simp only [kWn, List.mem_cons, List.not_mem_nil, or_false] at hp
  rcases hp with rfl | rfl | rfl | rfl | rfl | rfl
  · exact SpCheck_ok
  · exact DCheck_ok
  · exact DIntersect_ok
  · exact parented_ok
  · exact DNth_ok
  · exact DPosition_ok
noncomputable abbrev EWn : Env := ⟨P, conOf kWn, scall P (conOf kWn) noLoops 10⟩
theorem EWn_ok : EnvOK EWn := envOK (allOK mixed kWn_ok) 10
section
variable (n : Nat) (f : Nat → R3) (k s h : Int) (m : Nat) (e : Nat → R1) (n1 : Nat) (f1 : Nat → R3) (k1 s1 h1 : Int)
noncomputable def wnE : Int := if spE n f k s h m e ≠ 0 then spE n f k s h m e else if chD n1 f1 k1 s1 h1 ≠ 0 then chD n1 f1 k1 s1 h1 else if boE n f k s h n1 f1 k1 s1 h1 ≠ 0 then boE n f k s h n1 f1 k1 s1 h1 else pdE n (diF f f1) k s h
end
noncomputable def c_SpWithin : Con := fun args => match args with
  | [.agg [.row [.int .i64, .int .i64, .int .i64] n f, .lit (.int .i64 k), .lit (.int .i64 s), .lit (.int .i64 h), .row [.int .i64] m e], .agg [.row [.int .i64, .int .i64, .int .i64] n1 f1, .lit (.int .i64 k1), .lit (.int .i64 s1), .lit (.int .i64 h1)]] =>
    .ask (Row64 n f ∧ Row64 n1 f1) (.ret (.tup [.agg [.row [.int .i64, .int .i64, .int .i64] (lk zn (lk wnE n f k s h m e n1 f1 k1 s1 h1) n) (lk diF f f1), .lit (.int .i64 (lk zi (lk wnE n f k s h m e n1 f1 k1 s1 h1) k)), .lit (.int .i64 (lk zi (lk wnE n f k s h m e n1 f1 k1 s1 h1) s)), .lit (.int .i64 (lk zi (lk wnE n f k s h m e n1 f1 k1 s1 h1) h)),
      .row [.int .i64] (lk zn (lk wnE n f k s h m e n1 f1 k1 s1 h1) (lk wnN n f k s h m e n (lk diF f f1) k s h)) (lk wnF n f k s h m e n (lk diF f f1) k s h)], .lit (.int .i64 (lk wnE n f k s h m e n1 f1 k1 s1 h1))]))
  | _ => .stuck 1
end Go.RX.Span

/- Sparse domains: Union, Both, Minus, Within: the walks. -/
set_option linter.unusedVariables false
set_option linter.unusedSimpArgs false
set_option maxRecDepth 100000
namespace Go.RX.Span
open Go Go.RX
attribute [local irreducible] sx conB

--%R < ↑(\w+)\b => < ((\1 : Nat) : Int)
--%R ↑(\w+) (=|≤) => ((\1 : Nat) : Int) \2
set_option maxRecDepth 100000 in
theorem t_Wn (n : Nat) (f : Nat → R3) (k s h : Int) (m : Nat) (e : Nat → R1) (N : Nat) (F : Nat → R3) (K S H : Int) (u : Bool) (C : Nat) (G : Nat → R1) (i : Int) : (sx EWn [] 0 (loopOf P 7 15) (mkS 78 [2,4,8,11,13,14,15,16,17,50,51,52] (slWn m e i), memWn n f k s h m e N F K S H u C G)).bind (proj 78 [2,4,8,11,13,14,15,16,17,50,51,52]) =
    T.br (U.lt i (Int.ofNat m)) (.ask ((0 : Int) ≤ i ∧ i < ((m : Nat) : Int)) (.ask (Row64 n f ∧ I64 (e (U.toNat i)).1) (.ask (Row64 N F) (.br (lk hasD N F K S H (lk dnN n f k s h (e
      (U.toNat i)).1) (lk dnF n f (e (U.toNat i)).1)) (.ask ((C + (1 : Nat)) * nat_lit 8 ≤ nat_lit 140737488351232) (.ret (Ex.normal, [SV.ptr (nat_lit 0) (nat_lit 0), SV.ptr (nat_lit 2)
      (nat_lit 0), SV.ptr (nat_lit 3) (nat_lit 0), SV.ptr (nat_lit 4) (nat_lit 0), .lit (.int .i64 (e (U.toNat i)).1), .row [.int .i64] (lk dnN n f k s h (e (U.toNat i)).1) (lk dnF n f (e
      (U.toNat i)).1), .lit (.int .i64 (lk dnE n f k s h (e (U.toNat i)).1)), .lit (.int .i64 (lk posD N F K S H (lk dnN n f k s h (e (U.toNat i)).1) (lk dnF n f (e (U.toNat i)).1))),
      .lit (.bool (lk hasD N F K S H (lk dnN n f k s h (e (U.toNat i)).1) (lk dnF n f (e (U.toNat i)).1))), .row [.int .i64] m e, .lit (.int .i64 (Int.ofNat m)), .lit (.int .i64 (U.add
      .i64 i (1 : Int)))], [(nat_lit 0, some (Blk.cells [.row [.int .i64, .int .i64, .int .i64] n f, .lit (.int .i64 k), .lit (.int .i64 s), .lit (.int .i64 h), .row [.int .i64] m e]
      (nat_lit 33))), (nat_lit 0, none), (nat_lit 0, some (Blk.cells [.lit (.slice none (nat_lit 0) (nat_lit 0)), .lit (.int .i64 0), .lit (.int .i64 0), .lit (.int .i64 0), .lit (.slice
      none (nat_lit 0) (nat_lit 0))] (nat_lit 33))), (nat_lit 0, some (Blk.cells [.row [.int .i64, .int .i64, .int .i64] N F, .lit (.int .i64 K), .lit (.int .i64 S), .lit (.int .i64 H)]
      (nat_lit 26))), (nat_lit 1, some (Blk.cells [.row [.int .i64, .int .i64, .int .i64] N F, .lit (.int .i64 K), .lit (.int .i64 S), .lit (.int .i64 H), SV.own false (nat_lit 7) (C.add
      (nat_lit 1))] (nat_lit 33))), (nat_lit 1, none), (nat_lit 0, some (Blk.cells [.lit (.int .i64 (lk posD N F K S H (lk dnN n f k s h (e (U.toNat i)).1) (lk dnF n f (e (U.toNat
      i)).1)))] (nat_lit 3))), (nat_lit 0, some (Blk.row false (C.add (nat_lit 1)) [.int .i64] (U.cat C G fun x => (lk posD N F K S H (lk dnN n f k s h (e (U.toNat i)).1) (lk dnF n f (e
      (U.toNat i)).1), PUnit.unit)) (nat_lit 3)))]))) (.ret (Ex.normal, [SV.ptr (nat_lit 0) (nat_lit 0), SV.ptr (nat_lit 2) (nat_lit 0), SV.ptr (nat_lit 3) (nat_lit 0), SV.ptr (nat_lit 4)
      (nat_lit 0), .lit (.int .i64 (e (U.toNat i)).1), .row [.int .i64] (lk dnN n f k s h (e (U.toNat i)).1) (lk dnF n f (e (U.toNat i)).1), .lit (.int .i64 (lk dnE n f k s h (e (U.toNat
      i)).1)), .lit (.int .i64 (lk posD N F K S H (lk dnN n f k s h (e (U.toNat i)).1) (lk dnF n f (e (U.toNat i)).1))), .lit (.bool (lk hasD N F K S H (lk dnN n f k s h (e (U.toNat
      i)).1) (lk dnF n f (e (U.toNat i)).1))), .row [.int .i64] m e, .lit (.int .i64 (Int.ofNat m)), .lit (.int .i64 (U.add .i64 i (1 : Int)))], [(nat_lit 0, some (Blk.cells [.row [.int
      .i64, .int .i64, .int .i64] n f, .lit (.int .i64 k), .lit (.int .i64 s), .lit (.int .i64 h), .row [.int .i64] m e] (nat_lit 33))), (nat_lit 0, none), (nat_lit 0, some (Blk.cells
      [.lit (.slice none (nat_lit 0) (nat_lit 0)), .lit (.int .i64 0), .lit (.int .i64 0), .lit (.int .i64 0), .lit (.slice none (nat_lit 0) (nat_lit 0))] (nat_lit 33))), (nat_lit 0, some
      (Blk.cells [.row [.int .i64, .int .i64, .int .i64] N F, .lit (.int .i64 K), .lit (.int .i64 S), .lit (.int .i64 H)] (nat_lit 26))), (nat_lit 0, some (Blk.cells [.row [.int .i64,
      .int .i64, .int .i64] N F, .lit (.int .i64 K), .lit (.int .i64 S), .lit (.int .i64 H), SV.own u (nat_lit 5) C] (nat_lit 33))), (nat_lit 0, some (Blk.row u C [.int .i64] G (nat_lit
      3)))])))))) (.ret (Ex.exit (nat_lit 0), [SV.ptr (nat_lit 0) (nat_lit 0), SV.ptr (nat_lit 2) (nat_lit 0), SV.ptr (nat_lit 3) (nat_lit 0), SV.ptr (nat_lit 4) (nat_lit 0), SV.any,
      SV.any, SV.any, SV.any, SV.any, .row [.int .i64] m e, .lit (.int .i64 (Int.ofNat m)), .lit (.int .i64 i)], [(nat_lit 0, some (Blk.cells [.row [.int .i64, .int .i64, .int .i64] n f,
      .lit (.int .i64 k), .lit (.int .i64 s), .lit (.int .i64 h), .row [.int .i64] m e] (nat_lit 33))), (nat_lit 0, none), (nat_lit 0, some (Blk.cells [.lit (.slice none (nat_lit 0)
      (nat_lit 0)), .lit (.int .i64 0), .lit (.int .i64 0), .lit (.int .i64 0), .lit (.slice none (nat_lit 0) (nat_lit 0))] (nat_lit 33))), (nat_lit 0, some (Blk.cells [.row [.int .i64,
      .int .i64, .int .i64] N F, .lit (.int .i64 K), .lit (.int .i64 S), .lit (.int .i64 H)] (nat_lit 26))), (nat_lit 0, some (Blk.cells [.row [.int .i64, .int .i64, .int .i64] N F, .lit
      (.int .i64 K), .lit (.int .i64 S), .lit (.int .i64 H), SV.own u (nat_lit 5) C] (nat_lit 33))), (nat_lit 0, some (Blk.row u C [.int .i64] G (nat_lit 3)))])) := by kernel_rfl
set_option maxRecDepth 100000 in
theorem t_SpW (n : Nat) (f : Nat → R3) (k s h : Int) (m : Nat) (e : Nat → R1) (n1 : Nat) (f1 : Nat → R3) (k1 s1 h1 : Int) : conB Go.Proofs.Tryz.prog (conOf kWn) (loopsOf lWn) 10 7 [.agg [.row [.int .i64, .int .i64, .int .i64] n f, .lit (.int .i64 k), .lit (.int .i64 s), .lit (.int .i64 h), .row [.int .i64] m e], .agg [.row [.int .i64, .int .i64, .int .i64] n1 f1, .lit (.int .i64 k1), .lit (.int .i64 s1), .lit (.int .i64 h1)]] =
    T.ask (Row64 n f) (.br (U.ne (lk spE n f k s h m e) (0 : Int)) (.ret (.tup [.agg [.lit (.slice none (nat_lit 0) (nat_lit 0)), .lit (.int .i64 0), .lit (.int .i64 0), .lit (.int .i64
      0), .lit (.slice none (nat_lit 0) (nat_lit 0))], .lit (.int .i64 (lk spE n f k s h m e))])) (.ask (Row64 n1 f1) (.br (U.ne (lk chD n1 f1 k1 s1 h1) (0 : Int)) (.ret (.tup [.agg [.lit
      (.slice none (nat_lit 0) (nat_lit 0)), .lit (.int .i64 0), .lit (.int .i64 0), .lit (.int .i64 0), .lit (.slice none (nat_lit 0) (nat_lit 0))], .lit (.int .i64 (lk chD n1 f1 k1 s1
      h1))])) (.ask (Row64 n f ∧ Row64 n1 f1) (.br (U.ne (lk boE n f k s h n1 f1 k1 s1 h1) (0 : Int)) (.ret (.tup [.agg [.lit (.slice none (nat_lit 0) (nat_lit 0)), .lit (.int .i64 0),
      .lit (.int .i64 0), .lit (.int .i64 0), .lit (.slice none (nat_lit 0) (nat_lit 0))], .lit (.int .i64 (lk boE n f k s h n1 f1 k1 s1 h1))])) (.ask (Row64 (lk diN n f k s h n1 f1 k1 s1
      h1) (lk diF f f1)) (.br (U.ne (lk pdE (lk diN n f k s h n1 f1 k1 s1 h1) (lk diF f f1) (lk diX n f k s h n1 f1 k1 s1 h1 k) (lk diX n f k s h n1 f1 k1 s1 h1 s) (lk diX n f k s h n1 f1
      k1 s1 h1 h)) (0 : Int)) (.ret (.tup [.agg [.lit (.slice none (nat_lit 0) (nat_lit 0)), .lit (.int .i64 0), .lit (.int .i64 0), .lit (.int .i64 0), .lit (.slice none (nat_lit 0)
      (nat_lit 0))], .lit (.int .i64 (lk pdE (lk diN n f k s h n1 f1 k1 s1 h1) (lk diF f f1) (lk diX n f k s h n1 f1 k1 s1 h1 k) (lk diX n f k s h n1 f1 k1 s1 h1 s) (lk diX n f k s h n1
      f1 k1 s1 h1 h)))])) (.ask (lk PreWn (nat_lit 0) n f m e (lk diN n f k s h n1 f1 k1 s1 h1) (lk diF f f1) ∧ (0 : Nat) = (0 : Nat) ∧ (0 : Nat) = (0 : Nat) ∧ (2 : Nat) = (2 : Nat) ∧ (0
      : Nat) = (0 : Nat) ∧ (3 : Nat) = (3 : Nat) ∧ (0 : Nat) = (0 : Nat) ∧ (4 : Nat) = (4 : Nat) ∧ (0 : Nat) = (0 : Nat) ∧ m = m ∧ e = e ∧ ((m : Nat) : Int) = ↑m ∧ (0 : Int) = (0 : Int) ∧
      (33 : Nat) = (33 : TypeId) ∧ [.lit (.slice none (0 : Nat) (0 : Nat)), .lit (.int .i64 0), .lit (.int .i64 0), .lit (.int .i64 0), .lit (.slice none (0 : Nat) (0 : Nat))] = zeV ∧ (33
      : Nat) = (33 : TypeId) ∧ (26 : Nat) = (26 : TypeId) ∧ lk diN n f k s h n1 f1 k1 s1 h1 = lk diN n f k s h n1 f1 k1 s1 h1 ∧ lk diF f f1 = lk diF f f1 ∧ lk diX n f k s h n1 f1 k1 s1 h1
      k = lk diX n f k s h n1 f1 k1 s1 h1 k ∧ lk diX n f k s h n1 f1 k1 s1 h1 s = lk diX n f k s h n1 f1 k1 s1 h1 s ∧ lk diX n f k s h n1 f1 k1 s1 h1 h = lk diX n f k s h n1 f1 k1 s1 h1 h
      ∧ SV.lit (Value.slice none (0 : Nat) (0 : Nat)) = SV.lit (Value.slice none (0 : Nat) (0 : Nat)) ∧ (33 : Nat) = (33 : TypeId)) (.ret (.tup [.agg [.row [.int .i64, .int .i64, .int
      .i64] (lk diN n f k s h n1 f1 k1 s1 h1) (lk diF f f1), .lit (.int .i64 (lk diX n f k s h n1 f1 k1 s1 h1 k)), .lit (.int .i64 (lk diX n f k s h n1 f1 k1 s1 h1 s)), .lit (.int .i64
      (lk diX n f k s h n1 f1 k1 s1 h1 h)), .row [.int .i64] (lk wnN n f k s h m e (lk diN n f k s h n1 f1 k1 s1 h1) (lk diF f f1) (lk diX n f k s h n1 f1 k1 s1 h1 k) (lk diX n f k s h n1
      f1 k1 s1 h1 s) (lk diX n f k s h n1 f1 k1 s1 h1 h)) (lk wnF n f k s h m e (lk diN n f k s h n1 f1 k1 s1 h1) (lk diF f f1) (lk diX n f k s h n1 f1 k1 s1 h1 k) (lk diX n f k s h n1 f1
      k1 s1 h1 s) (lk diX n f k s h n1 f1 k1 s1 h1 h))], .lit (.int .i64 0)])))))))))) := by kernel_rfl
set_option maxRecDepth 100000 in
theorem t_Pa82 (n : Nat) (f : Nat → R3) (k s h : Int) (m : Nat) (e : Nat → R1) (n1 : Nat) (f1 : Nat → R3) (k1 s1 h1 : Int) (m1 : Nat) (e1 : Nat → R1) : conB Go.Proofs.Tryz.prog (conOf kPa) noLoops 10 11 [.agg [.row [.int .i64, .int .i64, .int .i64] n f, .lit (.int .i64 k), .lit (.int .i64 s), .lit (.int .i64 h), .row [.int .i64] m e], .agg [.row [.int .i64, .int .i64, .int .i64] n1 f1, .lit (.int .i64 k1), .lit (.int .i64 s1), .lit (.int .i64 h1), .row [.int .i64] m1 e1]] =
    T.ask (Row64 n f) (.br (U.ne (lk spE n f k s h m e) (0 : Int)) (.ret (.tup [.agg [.lit (.slice none (nat_lit 0) (nat_lit 0)), .lit (.int .i64 0), .lit (.int .i64 0), .lit (.int .i64
      0), .lit (.slice none (nat_lit 0) (nat_lit 0))], .lit (.int .i64 (lk spE n f k s h m e))])) (.ask (Row64 n1 f1) (.br (U.ne (lk spE n1 f1 k1 s1 h1 m1 e1) (0 : Int)) (.ret (.tup [.agg
      [.lit (.slice none (nat_lit 0) (nat_lit 0)), .lit (.int .i64 0), .lit (.int .i64 0), .lit (.int .i64 0), .lit (.slice none (nat_lit 0) (nat_lit 0))], .lit (.int .i64 (lk spE n1 f1
      k1 s1 h1 m1 e1))])) (.ask (n ≤ nat_lit 9223372036854775807) (.br (lk eqR3 n f n1 f1) (.br (U.not (U.andb (U.eq k k1) (U.andb (U.eq s s1) (U.eq h h1)))) (.ret (.tup [.agg [.lit
      (.slice none (nat_lit 0) (nat_lit 0)), .lit (.int .i64 0), .lit (.int .i64 0), .lit (.int .i64 0), .lit (.slice none (nat_lit 0) (nat_lit 0))], .lit (.int .i64 50)])) (.ask ((0 :
      Nat) < n ∧ n ≤ (10000 : Nat)) (.ask (lk PreMg m e m1 e1 ∧ ((37 : Nat) = (37 : FuncId) ∨ (37 : Nat) = (39 : FuncId) ∨ (37 : Nat) = (40 : FuncId))) (.br (U.gt (Int.ofNat (lk mgN
      (nat_lit 37) m e m1 e1)) (5000 : Int)) (.ret (.tup [.agg [.lit (.slice none (nat_lit 0) (nat_lit 0)), .lit (.int .i64 0), .lit (.int .i64 0), .lit (.int .i64 0), .lit (.slice none
      (nat_lit 0) (nat_lit 0))], .lit (.int .i64 5)])) (.ret (.tup [.agg [.row [.int .i64, .int .i64, .int .i64] n f, .lit (.int .i64 k), .lit (.int .i64 s), .lit (.int .i64 h), .row
      [.int .i64] (lk mgN (nat_lit 37) m e m1 e1) (lk mgF (nat_lit 37) m e m1 e1)], .lit (.int .i64 0)])))))) (.ret (.tup [.agg [.lit (.slice none (nat_lit 0) (nat_lit 0)), .lit (.int
      .i64 0), .lit (.int .i64 0), .lit (.int .i64 0), .lit (.slice none (nat_lit 0) (nat_lit 0))], .lit (.int .i64 50)]))))))) := by kernel_rfl
set_option maxRecDepth 100000 in
theorem t_Pa83 (n : Nat) (f : Nat → R3) (k s h : Int) (m : Nat) (e : Nat → R1) (n1 : Nat) (f1 : Nat → R3) (k1 s1 h1 : Int) (m1 : Nat) (e1 : Nat → R1) : conB Go.Proofs.Tryz.prog (conOf kPa) noLoops 10 13 [.agg [.row [.int .i64, .int .i64, .int .i64] n f, .lit (.int .i64 k), .lit (.int .i64 s), .lit (.int .i64 h), .row [.int .i64] m e], .agg [.row [.int .i64, .int .i64, .int .i64] n1 f1, .lit (.int .i64 k1), .lit (.int .i64 s1), .lit (.int .i64 h1), .row [.int .i64] m1 e1]] =
    T.ask (Row64 n f) (.br (U.ne (lk spE n f k s h m e) (0 : Int)) (.ret (.tup [.agg [.lit (.slice none (nat_lit 0) (nat_lit 0)), .lit (.int .i64 0), .lit (.int .i64 0), .lit (.int .i64
      0), .lit (.slice none (nat_lit 0) (nat_lit 0))], .lit (.int .i64 (lk spE n f k s h m e))])) (.ask (Row64 n1 f1) (.br (U.ne (lk spE n1 f1 k1 s1 h1 m1 e1) (0 : Int)) (.ret (.tup [.agg
      [.lit (.slice none (nat_lit 0) (nat_lit 0)), .lit (.int .i64 0), .lit (.int .i64 0), .lit (.int .i64 0), .lit (.slice none (nat_lit 0) (nat_lit 0))], .lit (.int .i64 (lk spE n1 f1
      k1 s1 h1 m1 e1))])) (.ask (n ≤ nat_lit 9223372036854775807) (.br (lk eqR3 n f n1 f1) (.br (U.not (U.andb (U.eq k k1) (U.andb (U.eq s s1) (U.eq h h1)))) (.ret (.tup [.agg [.lit
      (.slice none (nat_lit 0) (nat_lit 0)), .lit (.int .i64 0), .lit (.int .i64 0), .lit (.int .i64 0), .lit (.slice none (nat_lit 0) (nat_lit 0))], .lit (.int .i64 50)])) (.ask ((0 :
      Nat) < n ∧ n ≤ (10000 : Nat)) (.ask (lk PreMg m e m1 e1 ∧ ((39 : Nat) = (37 : FuncId) ∨ (39 : Nat) = (39 : FuncId) ∨ (39 : Nat) = (40 : FuncId))) (.br (U.gt (Int.ofNat (lk mgN
      (nat_lit 39) m e m1 e1)) (5000 : Int)) (.ret (.tup [.agg [.lit (.slice none (nat_lit 0) (nat_lit 0)), .lit (.int .i64 0), .lit (.int .i64 0), .lit (.int .i64 0), .lit (.slice none
      (nat_lit 0) (nat_lit 0))], .lit (.int .i64 5)])) (.ret (.tup [.agg [.row [.int .i64, .int .i64, .int .i64] n f, .lit (.int .i64 k), .lit (.int .i64 s), .lit (.int .i64 h), .row
      [.int .i64] (lk mgN (nat_lit 39) m e m1 e1) (lk mgF (nat_lit 39) m e m1 e1)], .lit (.int .i64 0)])))))) (.ret (.tup [.agg [.lit (.slice none (nat_lit 0) (nat_lit 0)), .lit (.int
      .i64 0), .lit (.int .i64 0), .lit (.int .i64 0), .lit (.slice none (nat_lit 0) (nat_lit 0))], .lit (.int .i64 50)]))))))) := by kernel_rfl
set_option maxRecDepth 100000 in
theorem t_Pa84 (n : Nat) (f : Nat → R3) (k s h : Int) (m : Nat) (e : Nat → R1) (n1 : Nat) (f1 : Nat → R3) (k1 s1 h1 : Int) (m1 : Nat) (e1 : Nat → R1) : conB Go.Proofs.Tryz.prog (conOf kPa) noLoops 10 15 [.agg [.row [.int .i64, .int .i64, .int .i64] n f, .lit (.int .i64 k), .lit (.int .i64 s), .lit (.int .i64 h), .row [.int .i64] m e], .agg [.row [.int .i64, .int .i64, .int .i64] n1 f1, .lit (.int .i64 k1), .lit (.int .i64 s1), .lit (.int .i64 h1), .row [.int .i64] m1 e1]] =
    T.ask (Row64 n f) (.br (U.ne (lk spE n f k s h m e) (0 : Int)) (.ret (.tup [.agg [.lit (.slice none (nat_lit 0) (nat_lit 0)), .lit (.int .i64 0), .lit (.int .i64 0), .lit (.int .i64
      0), .lit (.slice none (nat_lit 0) (nat_lit 0))], .lit (.int .i64 (lk spE n f k s h m e))])) (.ask (Row64 n1 f1) (.br (U.ne (lk spE n1 f1 k1 s1 h1 m1 e1) (0 : Int)) (.ret (.tup [.agg
      [.lit (.slice none (nat_lit 0) (nat_lit 0)), .lit (.int .i64 0), .lit (.int .i64 0), .lit (.int .i64 0), .lit (.slice none (nat_lit 0) (nat_lit 0))], .lit (.int .i64 (lk spE n1 f1
      k1 s1 h1 m1 e1))])) (.ask (n ≤ nat_lit 9223372036854775807) (.br (lk eqR3 n f n1 f1) (.br (U.not (U.andb (U.eq k k1) (U.andb (U.eq s s1) (U.eq h h1)))) (.ret (.tup [.agg [.lit
      (.slice none (nat_lit 0) (nat_lit 0)), .lit (.int .i64 0), .lit (.int .i64 0), .lit (.int .i64 0), .lit (.slice none (nat_lit 0) (nat_lit 0))], .lit (.int .i64 50)])) (.ask ((0 :
      Nat) < n ∧ n ≤ (10000 : Nat)) (.ask (lk PreMg m e m1 e1 ∧ ((40 : Nat) = (37 : FuncId) ∨ (40 : Nat) = (39 : FuncId) ∨ (40 : Nat) = (40 : FuncId))) (.br (U.gt (Int.ofNat (lk mgN
      (nat_lit 40) m e m1 e1)) (5000 : Int)) (.ret (.tup [.agg [.lit (.slice none (nat_lit 0) (nat_lit 0)), .lit (.int .i64 0), .lit (.int .i64 0), .lit (.int .i64 0), .lit (.slice none
      (nat_lit 0) (nat_lit 0))], .lit (.int .i64 5)])) (.ret (.tup [.agg [.row [.int .i64, .int .i64, .int .i64] n f, .lit (.int .i64 k), .lit (.int .i64 s), .lit (.int .i64 h), .row
      [.int .i64] (lk mgN (nat_lit 40) m e m1 e1) (lk mgF (nat_lit 40) m e m1 e1)], .lit (.int .i64 0)])))))) (.ret (.tup [.agg [.lit (.slice none (nat_lit 0) (nat_lit 0)), .lit (.int
      .i64 0), .lit (.int .i64 0), .lit (.int .i64 0), .lit (.slice none (nat_lit 0) (nat_lit 0))], .lit (.int .i64 50)]))))))) := by kernel_rfl
end Go.RX.Span

/- Ranges: equal sets, equal ranges; a range with itself. -/
set_option linter.unusedVariables false
set_option linter.unusedSimpArgs false
set_option maxRecDepth 100000
namespace Go.RX.Span
open Go Go.RX
attribute [local irreducible] sx conB

def RInR (r : R3) (v : Int) : Prop := RIn (rA r) (rB r) (rC r) v
theorem isR_rr {r q : R3} (h : RR r) (h' : RR q) : RR (isR r q) ∧ ∀ v, RInR (isR r q) v ↔ RInR r v ∧ RInR q v := by
  obtain ⟨i1, i2, i3⟩ := is_set h.1 h'.1
  have hpos : 0 < rC (isR r q) := by
    show 0 < isS (rA r) (rB r) (rC r) (rA q) (rB q) (rC q)
    have hn : ¬ ckd (rA r) (rB r) (rC r) (rA q) (rB q) (rC q) ≠ 0 := by simp [ckd_zero h.1 h'.1]
    have hc := h.2
    simp only [isS, if_neg hn]
    rcases (is_sw h.1 h'.1).1 with h0 | h1
    · rw [h0]; simp [nStr]
    · obtain ⟨q1, q2, q3, q4⟩ := nrm_like (f := isF (rA r) (rB r) (rC r) (rA q) (rB q) (rC q)) (s := isB (rA r) (rB r) (rC r) (rA q) (rB q) (rC q)) (C := isC (rA r) (rB r) (rC r) (rA q) (rB q) (rC q)) (c := rC r) h1.2.1
      have m0 := mulle (x := 0) (y := isC (rA r) (rB r) (rC r) (rA q) (rB q) (rC q) - 1) h1.2.1 (by omega)
      rw [Int.mul_zero] at m0
      have n1 : ¬ isC (rA r) (rB r) (rC r) (rA q) (rB q) (rC q) ≤ 0 := by omega
      rw [q4]
      have e0 : mvE (isF (rA r) (rB r) (rC r) (rA q) (rB q) (rC q)) (isB (rA r) (rB r) (rC r) (rA q) (rB q) (rC q)) (isC (rA r) (rB r) (rC r) (rA q) (rB q) (rC q)) = 0 := by unfold mvE; rw [if_neg n1, if_pos (by omega)]
      simp only [mvStr, e0, if_neg n1, if_true]
      rw [if_neg (show ¬ rC r < 0 by omega)]
      split <;> omega
  exact ⟨⟨i2, hpos⟩, i3⟩
/-! Numbers and positions. -/
end Go.RX.Span

/- Sparse domains: Union, Both, Minus, Within. -/
set_option linter.unusedVariables false
set_option linter.unusedSimpArgs false
set_option maxRecDepth 100000
namespace Go.RX.Span
open Go Go.RX
attribute [local irreducible] sx conB

section
variable {g n : Nat} {f : Nat → R3} {k s h : Int} {m : Nat} {e : Nat → R1} {n1 : Nat} {f1 : Nat → R3} {k1 s1 h1 : Int} {m1 : Nat} {e1 : Nat → R1}
theorem paE_1 (g1 : spE n f k s h m e ≠ 0) : spE n f k s h m e = paE g n f k s h m e n1 f1 k1 s1 h1 m1 e1 := by unfold paE; rw [if_pos g1]
theorem paE_2 (g1 : spE n f k s h m e = 0) (g2 : spE n1 f1 k1 s1 h1 m1 e1 ≠ 0) : spE n1 f1 k1 s1 h1 m1 e1 = paE g n f k s h m e n1 f1 k1 s1 h1 m1 e1 := by unfold paE; rw [if_neg (fun x => x g1), if_pos g2]
theorem paE_3 (g1 : spE n f k s h m e = 0) (g2 : spE n1 f1 k1 s1 h1 m1 e1 = 0) (g3 : eqDo n f k s h n1 f1 k1 s1 h1 = false) : (50 : Int) = paE g n f k s h m e n1 f1 k1 s1 h1 m1 e1 := by unfold paE; rw [if_neg (fun x => x g1), if_neg (fun x => x g2), if_pos g3]
theorem paE_4 (g1 : spE n f k s h m e = 0) (g2 : spE n1 f1 k1 s1 h1 m1 e1 = 0) (g3 : eqDo n f k s h n1 f1 k1 s1 h1 = true) (g4 : 5000 < mgN g m e m1 e1) : (5 : Int) = paE g n f k s h m e n1 f1 k1 s1 h1 m1 e1 := by unfold paE; rw [if_neg (fun x => x g1), if_neg (fun x => x g2), if_neg (by rw [g3]; decide), if_pos g4]
theorem paE_5 (g1 : spE n f k s h m e = 0) (g2 : spE n1 f1 k1 s1 h1 m1 e1 = 0) (g3 : eqDo n f k s h n1 f1 k1 s1 h1 = true) (g4 : ¬ 5000 < mgN g m e m1 e1) : paE g n f k s h m e n1 f1 k1 s1 h1 m1 e1 = 0 := by unfold paE; rw [if_neg (fun x => x g1), if_neg (fun x => x g2), if_neg (by rw [g3]; decide), if_neg g4]
theorem eqDo_c {b : Bool} (h0 : eqR3 n f n1 f1 = true) (hb : U.andb (U.eq k k1) (U.andb (U.eq s s1) (U.eq h h1)) = b) : eqDo n f k s h n1 f1 k1 s1 h1 = b := by
  unfold eqDo
  rw [h0, Bool.true_and]
  cases b
  · refine decide_eq_false fun hx => ?_
    have : U.andb (U.eq k k1) (U.andb (U.eq s s1) (U.eq h h1)) = true := U.andb_t.mpr ⟨U.eq_t.mpr hx.1, U.andb_t.mpr ⟨U.eq_t.mpr hx.2.1, U.eq_t.mpr hx.2.2⟩⟩
    rw [hb] at this; cases this
  · have g2 := U.andb_t.mp hb
    have g3 := U.andb_t.mp g2.2
    exact decide_eq_true ⟨U.eq_t.mp g2.1, U.eq_t.mp g3.1, U.eq_t.mp g3.2⟩
end
theorem Union_ok : ConOK P 11 (c_pair 37) := con_cl (allOK mixed kPa_ok) 10 11 fun args r hh => by
  unfold c_pair at hh
  split at hh
  · rename_i n f k s h m e n1 f1 k1 s1 h1 m1 e1
    obtain ⟨hp, hp1⟩ := (T.is_ask hh).1
    obtain rfl := T.is_ret (T.is_ask hh).2
    refine T.all_of_eq (t_Pa82 n f k s h m e n1 f1 k1 s1 h1 m1 e1) ?_
    simp only [lk_eq, Int.ofNat_eq_natCast]
    refine ⟨hp, fun g1 => ?_, fun g1 => ⟨hp1, fun g2 => ?_, fun g2 => ⟨?_, fun g3 => ⟨fun g4 => ?_, fun g4 => ⟨?_, ⟨?_, by decide⟩, fun g5 => ?_, fun g5 => ?_⟩⟩, fun g3 => ?_⟩⟩⟩
    · have g1 := U.ne_t.mp g1
      exact cl_err (paE_1 g1) g1
    · have g2 := U.ne_t.mp g2
      exact cl_err (paE_2 (U.ne_f.mp g1) g2) g2
    all_goals have g1 := U.ne_f.mp g1
    all_goals have g2 := U.ne_f.mp g2
    all_goals have hn := (chD_zero.1 (pdE_zero.1 (spE_zero.1 g1).1).1).1.1
    · show n ≤ 9223372036854775807; omega
    · exact cl_err (paE_3 g1 g2 (eqDo_c g3 (U.not_t.mp g4))) (by decide)
    · exact ⟨by omega, by omega⟩
    · exact ⟨(sp_bs g1).1, (sp_bs g2).1⟩
    · exact cl_err (paE_4 g1 g2 (eqDo_c g3 (U.not_f.mp g4)) (by have := U.gt_t.mp g5; omega)) (by decide)
    · rw [paE_5 g1 g2 (eqDo_c g3 (U.not_f.mp g4)) (by have := U.gt_f.mp g5; omega)]
      exact ⟨⟨⟨rfl, sameRow_refl _ _⟩, .inl rfl, .inl rfl, .inl rfl, ⟨rfl, sameRow_refl _ _⟩, rfl⟩, .inl rfl, rfl⟩
    · exact cl_err (paE_3 g1 g2 (by unfold eqDo; rw [g3]; rfl)) (by decide)
  · exact hh.elim
theorem Both_ok : ConOK P 13 (c_pair 39) := con_cl (allOK mixed kPa_ok) 10 13 fun args r hh => by
  unfold c_pair at hh
  split at hh
  · rename_i n f k s h m e n1 f1 k1 s1 h1 m1 e1
    obtain ⟨hp, hp1⟩ := (T.is_ask hh).1
    obtain rfl := T.is_ret (T.is_ask hh).2
    refine T.all_of_eq (t_Pa83 n f k s h m e n1 f1 k1 s1 h1 m1 e1) ?_
    simp only [lk_eq, Int.ofNat_eq_natCast]
    refine ⟨hp, fun g1 => ?_, fun g1 => ⟨hp1, fun g2 => ?_, fun g2 => ⟨?_, fun g3 => ⟨fun g4 => ?_, fun g4 => ⟨?_, ⟨?_, by decide⟩, fun g5 => ?_, fun g5 => ?_⟩⟩, fun g3 => ?_⟩⟩⟩
    · have g1 := U.ne_t.mp g1
      exact cl_err (paE_1 g1) g1
    · have g2 := U.ne_t.mp g2
      exact cl_err (paE_2 (U.ne_f.mp g1) g2) g2
    all_goals have g1 := U.ne_f.mp g1
    all_goals have g2 := U.ne_f.mp g2
    all_goals have hn := (chD_zero.1 (pdE_zero.1 (spE_zero.1 g1).1).1).1.1
    · show n ≤ 9223372036854775807; omega
    · exact cl_err (paE_3 g1 g2 (eqDo_c g3 (U.not_t.mp g4))) (by decide)
    · exact ⟨by omega, by omega⟩
    · exact ⟨(sp_bs g1).1, (sp_bs g2).1⟩
    · exact cl_err (paE_4 g1 g2 (eqDo_c g3 (U.not_f.mp g4)) (by have := U.gt_t.mp g5; omega)) (by decide)
    · rw [paE_5 g1 g2 (eqDo_c g3 (U.not_f.mp g4)) (by have := U.gt_f.mp g5; omega)]
      exact ⟨⟨⟨rfl, sameRow_refl _ _⟩, .inl rfl, .inl rfl, .inl rfl, ⟨rfl, sameRow_refl _ _⟩, rfl⟩, .inl rfl, rfl⟩
    · exact cl_err (paE_3 g1 g2 (by unfold eqDo; rw [g3]; rfl)) (by decide)
  · exact hh.elim
theorem Minus_ok : ConOK P 15 (c_pair 40) := con_cl (allOK mixed kPa_ok) 10 15 fun args r hh => by
  unfold c_pair at hh
  split at hh
  · rename_i n f k s h m e n1 f1 k1 s1 h1 m1 e1
    obtain ⟨hp, hp1⟩ := (T.is_ask hh).1
    obtain rfl := T.is_ret (T.is_ask hh).2
    refine T.all_of_eq (t_Pa84 n f k s h m e n1 f1 k1 s1 h1 m1 e1) ?_
    simp only [lk_eq, Int.ofNat_eq_natCast]
    refine ⟨hp, fun g1 => ?_, fun g1 => ⟨hp1, fun g2 => ?_, fun g2 => ⟨?_, fun g3 => ⟨fun g4 => ?_, fun g4 => ⟨?_, ⟨?_, by decide⟩, fun g5 => ?_, fun g5 => ?_⟩⟩, fun g3 => ?_⟩⟩⟩
    · have g1 := U.ne_t.mp g1
      exact cl_err (paE_1 g1) g1
    · have g2 := U.ne_t.mp g2
      exact cl_err (paE_2 (U.ne_f.mp g1) g2) g2
    all_goals have g1 := U.ne_f.mp g1
    all_goals have g2 := U.ne_f.mp g2
    all_goals have hn := (chD_zero.1 (pdE_zero.1 (spE_zero.1 g1).1).1).1.1
    · show n ≤ 9223372036854775807; omega
    · exact cl_err (paE_3 g1 g2 (eqDo_c g3 (U.not_t.mp g4))) (by decide)
    · exact ⟨by omega, by omega⟩
    · exact ⟨(sp_bs g1).1, (sp_bs g2).1⟩
    · exact cl_err (paE_4 g1 g2 (eqDo_c g3 (U.not_f.mp g4)) (by have := U.gt_t.mp g5; omega)) (by decide)
    · rw [paE_5 g1 g2 (eqDo_c g3 (U.not_f.mp g4)) (by have := U.gt_f.mp g5; omega)]
      exact ⟨⟨⟨rfl, sameRow_refl _ _⟩, .inl rfl, .inl rfl, .inl rfl, ⟨rfl, sameRow_refl _ _⟩, rfl⟩, .inl rfl, rfl⟩
    · exact cl_err (paE_3 g1 g2 (by unfold eqDo; rw [g3]; rfl)) (by decide)
  · exact hh.elim
/-! Within. -/
structure XWn where
  (n : Nat) (f : Nat → R3) (k s h : Int) (m : Nat) (e : Nat → R1) (N : Nat) (F : Nat → R3) (K S H : Int) (i : Nat)
noncomputable abbrev VWn (q : XWn) : Few := (slWn q.m q.e q.i, memWn q.n q.f q.k q.s q.h q.m q.e q.N q.F q.K q.S q.H (U.isz (wnN q.n q.f q.k q.s q.h q.i q.e q.N q.F q.K q.S q.H)) (wnN q.n q.f q.k q.s q.h q.i q.e q.N q.F q.K q.S q.H) (wnF q.n q.f q.k q.s q.h q.i q.e q.N q.F q.K q.S q.H))
noncomputable def OWn (q : XWn) : Ex × Few := (.exit 0, ([.any, .ptr 2 0, .any, .ptr 4 0, .any, .any, .any, .any, .any, .any, .any, .any], memWn q.n q.f q.k q.s q.h q.m q.e q.N q.F q.K q.S q.H (U.isz (wnN q.n q.f q.k q.s q.h q.m q.e q.N q.F q.K q.S q.H)) (wnN q.n q.f q.k q.s q.h q.m q.e q.N q.F q.K q.S q.H) (wnF q.n q.f q.k q.s q.h q.m q.e q.N q.F q.K q.S q.H)))
def PhiWn (n0 : Nat) (q : XWn) : Prop := PreWn n0 q.n q.f q.m q.e q.N q.F ∧ q.i ≤ q.m
section
variable {n : Nat} {f : Nat → R3} {k s h : Int} {e : Nat → R1} {N : Nat} {F : Nat → R3} {K S H : Int}
theorem wnL_s (i : Nat) : wnL n f k s h (i + 1) e N F K S H = wnL n f k s h i e N F K S H ++ opt (wnH n f k s h e N F K S H i) (wnP n f k s h e N F K S H i) := by
  unfold wnL opt
  rw [List.range_succ, List.filterMap_append]
  congr 1
  cases hb : wnH n f k s h e N F K S H i <;> simp [hb]
theorem wn_len (i : Nat) : wnN n f k s h i e N F K S H ≤ i := by
  have := List.length_filterMap_le (fun i => if wnH n f k s h e N F K S H i then some (wnP n f k s h e N F K S H i) else none) (List.range i)
  rw [List.length_range] at this
  exact this
end
theorem roundWn (n0 : Nat) (q : XWn) (hq : PhiWn n0 q) : ((sx EWn [] n0 (loopOf P 7 15) (mkS 78 [2,4,8,11,13,14,15,16,17,50,51,52] (VWn q).1, (VWn q).2)).bind (proj 78 [2,4,8,11,13,14,15,16,17,50,51,52])).All fun r => match r.1 with
      | .normal => ∃ q', PhiWn n0 q' ∧ q'.m - q'.i < q.m - q.i ∧ Wk 78 [2,4,8,11,13,14,15,16,17,50,51,52] n0 r.2 (VWn q') ∧ ∀ o, o = OWn q' → o = OWn q
      | e => ∃ s, (e, s) = OWn q ∧ Wk 78 [2,4,8,11,13,14,15,16,17,50,51,52] n0 r.2 s := by
  obtain ⟨n, f, k, s, h, m, e, N, F, K, S, H, i⟩ := q
  obtain ⟨hp, hi⟩ := hq
  have hp : PreWn n0 n f m e N F := hp
  have hi : i ≤ m := hi
  have hp' := hp
  obtain ⟨h0, hr, hR, hm, hv⟩ := hp'
  subst h0
  refine T.all_of_eq (t_Wn n f k s h m e N F K S H (U.isz (wnN n f k s h i e N F K S H)) (wnN n f k s h i e N F K S H) (wnF n f k s h i e N F K S H) (i : Int)) ?_
  by_cases hlt : i < m
  · rw [add1p (j := i) (by omega), tnH]
    have hw := wn_len (n := n) (f := f) (k := k) (s := s) (h := h) (e := e) (N := N) (F := F) (K := K) (S := S) (H := H) i
    simp only [lk_eq]
    refine ⟨fun _ => ⟨⟨by omega, by omega⟩, ⟨hr, hv i hlt⟩, hR, fun g => ⟨by show (_ + 1) * 8 ≤ 140737488351232; omega, ⟨n, f, k, s, h, m, e, N, F, K, S, H, i + 1⟩, ⟨hp, hlt⟩, (show m - (i + 1) < m - i by omega), ?_, fun o ho => ho⟩, fun g => ⟨⟨n, f, k, s, h, m, e, N, F, K, S, H, i + 1⟩, ⟨hp, hlt⟩, (show m - (i + 1) < m - i by omega), ?_, fun o ho => ho⟩⟩, fun g => absurd (U.lt_f.mp g) (by simp only [Int.ofNat_eq_natCast]; omega)⟩
    · have g : wnH n f k s h e N F K S H i = true := g
      have eL : wnL n f k s h (i + 1) e N F K S H = wnL n f k s h i e N F K S H ++ [wnP n f k s h e N F K S H i] := by rw [wnL_s, g]; rfl
      have eN : wnN n f k s h (i + 1) e N F K S H = wnN n f k s h i e N F K S H + 1 := by unfold wnN; rw [eL]; simp
      have ez : U.isz (wnN n f k s h (i + 1) e N F K S H) = false := by rw [eN]; exact isz_s _
      refine wk_of [some 0, none, some 2, some 3, some 4, some 7] rfl (Nat.zero_le _) (ren1z _) ⟨⟨rfl, rfl⟩, ⟨rfl, rfl⟩, ⟨rfl, rfl⟩, ⟨rfl, rfl⟩, rl_any _, rl_any _, rl_any _, rl_any _, rl_any _, ⟨rfl, row1H fun _ _ => rfl⟩, rfl, rfl, trivial⟩
        ⟨⟨rfl, bx_rl⟩, ⟨rfl, zeV_rl⟩, ⟨rfl, par_rl⟩, ⟨rfl, out_rl rfl ez.symm eN.symm⟩, ⟨rfl, ez.symm, eN.symm, row1H fun j hj => ?_⟩, trivial⟩
      have hj : j < wnN n f k s h (i + 1) e N F K S H := hj
      rw [eN] at hj
      show U.cat _ (lF (wnL n f k s h i e N F K S H)) _ j = lF (wnL n f k s h (i + 1) e N F K S H) j
      rw [eL]
      exact cat_app hj
    · have g : wnH n f k s h e N F K S H i = false := g
      have eL : wnL n f k s h (i + 1) e N F K S H = wnL n f k s h i e N F K S H := by rw [wnL_s, g]; exact List.append_nil _
      have eN : wnN n f k s h (i + 1) e N F K S H = wnN n f k s h i e N F K S H := by unfold wnN; rw [eL]
      have eF : wnF n f k s h (i + 1) e N F K S H = wnF n f k s h i e N F K S H := by unfold wnF; rw [eL]
      show Wk _ _ _ _ (slWn m e ((i + 1 : Nat) : Int), memWn n f k s h m e N F K S H (U.isz (wnN n f k s h (i + 1) e N F K S H)) (wnN n f k s h (i + 1) e N F K S H) (wnF n f k s h (i + 1) e N F K S H))
      rw [eN, eF]
      exact wk_of [some 0, none, some 2, some 3, some 4, some 5] rfl (Nat.zero_le _) (ren1z _) ⟨⟨rfl, rfl⟩, ⟨rfl, rfl⟩, ⟨rfl, rfl⟩, ⟨rfl, rfl⟩, rl_any _, rl_any _, rl_any _, rl_any _, rl_any _, ⟨rfl, row1H fun _ _ => rfl⟩, rfl, rfl, trivial⟩
        ⟨⟨rfl, bx_rl⟩, ⟨rfl, zeV_rl⟩, ⟨rfl, par_rl⟩, ⟨rfl, out_rl rfl rfl rfl⟩, ⟨rfl, rfl, rfl, row1H fun _ _ => rfl⟩, trivial⟩
  · obtain rfl : i = m := by omega
    refine ⟨fun g => absurd (U.lt_t.mp g) (by simp only [Int.ofNat_eq_natCast]; omega), fun _ => ⟨_, rfl, ?_⟩⟩
    exact wk_of [some 0, none, some 2, some 3, some 4, some 5] rfl (Nat.zero_le _) (ren1z _) ⟨rl_any _, ⟨rfl, rfl⟩, rl_any _, ⟨rfl, rfl⟩, rl_any _, rl_any _, rl_any _, rl_any _, rl_any _, rl_any _, rl_any _, rl_any _, trivial⟩
        ⟨⟨rfl, bx_rl⟩, ⟨rfl, zeV_rl⟩, ⟨rfl, par_rl⟩, ⟨rfl, out_rl rfl rfl rfl⟩, ⟨rfl, rfl, rfl, row1H fun _ _ => rfl⟩, trivial⟩
theorem loopWn : LoopOK P (loopOf P 7 15) (few 78 [2,4,8,11,13,14,15,16,17,50,51,52] gWn) :=
  loop_few (E := EWn) mixed EWn_ok loopsOK_none 78 [2,4,8,11,13,14,15,16,17,50,51,52] (X := XWn) gWn (fun _ x => VWn x) PhiWn (fun q => q.m - q.i) (fun _ x o => o = OWn x)
    (fun n0 st r hh => by
      unfold gWn at hh
      split at hh
      · rename_i n0 p0 q0 p2 q2 p3 q3 p4 q4 a1 a2 a3 a4 a5 m' e' M' z w0 n f k s h m e t0 w1 w2 zs t2 w3 N F K S H t3 w4 N' F' K' S' H' nilS t4
        obtain ⟨hp, rfl, rfl, rfl, rfl, rfl, rfl, rfl, rfl, rfl, rfl, rfl, rfl, rfl, rfl, rfl, rfl, rfl, rfl, rfl, rfl, rfl, rfl, rfl⟩ := (T.is_ask hh).1
        obtain rfl := T.is_ret (T.is_ask hh).2
        rw [lk_eq] at hp
        have h0 := hp.1
        subst h0
        have zi : U.isz 0 = true := by rw [U.isz_eq]; rfl
        refine ⟨⟨n, f, k, s, h, m', e', N', F', K', S', H', 0⟩, ⟨hp, Nat.zero_le _⟩, ?_, fun o ho => by rw [ho]; simp only [lk_eq]; rfl⟩
        exact wk_of [some 0, none, some 2, some 3, some 4, none] rfl (Nat.zero_le _) (ren1z _) ⟨⟨rfl, rfl⟩, ⟨rfl, rfl⟩, ⟨rfl, rfl⟩, ⟨rfl, rfl⟩, rl_any _, rl_any _, rl_any _, rl_any _, rl_any _, ⟨rfl, row1H fun _ _ => rfl⟩, rfl, rfl, trivial⟩
          ⟨⟨rfl, bx_rl⟩, ⟨rfl, zeV_rl⟩, ⟨rfl, par_rl⟩, ⟨rfl, ⟨rfl, sameRow_refl _ _⟩, rfl, rfl, rfl, ⟨rfl, zi, rfl⟩, trivial⟩, ⟨zi, rfl⟩, trivial⟩
      · exact hh.elim)
    roundWn
theorem lWn_ok : ∀ p ∈ lWn, LoopsOK P p.2 (bodyOf P p.1) := by
  intro p hp
  simp only [lWn, List.mem_singleton] at hp
  subst hp
  refine loopsOK_of (by kernel_rfl) fun k g hk => ?_
  simp only [List.mem_singleton, Prod.mk.injEq, LoopC.sum.injEq] at hk
  obtain ⟨rfl, rfl⟩ := hk
  exact loopWn
section
variable {n : Nat} {f : Nat → R3} {k s h : Int} {m : Nat} {e : Nat → R1} {n1 : Nat} {f1 : Nat → R3} {k1 s1 h1 : Int}
theorem wnE_1 (g1 : spE n f k s h m e ≠ 0) : spE n f k s h m e = wnE n f k s h m e n1 f1 k1 s1 h1 := by unfold wnE; rw [if_pos g1]
theorem wnE_2 (g1 : spE n f k s h m e = 0) (g2 : chD n1 f1 k1 s1 h1 ≠ 0) : chD n1 f1 k1 s1 h1 = wnE n f k s h m e n1 f1 k1 s1 h1 := by unfold wnE; rw [if_neg (fun x => x g1), if_pos g2]
theorem wnE_3 (g1 : spE n f k s h m e = 0) (g2 : chD n1 f1 k1 s1 h1 = 0) (g3 : boE n f k s h n1 f1 k1 s1 h1 ≠ 0) : boE n f k s h n1 f1 k1 s1 h1 = wnE n f k s h m e n1 f1 k1 s1 h1 := by unfold wnE; rw [if_neg (fun x => x g1), if_neg (fun x => x g2), if_pos g3]
theorem wnE_4 (g1 : spE n f k s h m e = 0) (g2 : chD n1 f1 k1 s1 h1 = 0) (g3 : boE n f k s h n1 f1 k1 s1 h1 = 0) : pdE n (diF f f1) k s h = wnE n f k s h m e n1 f1 k1 s1 h1 := by unfold wnE; rw [if_neg (fun x => x g1), if_neg (fun x => x g2), if_neg (fun x => x g3)]
theorem di_0 (g3 : boE n f k s h n1 f1 k1 s1 h1 = 0) : diN n f k s h n1 f1 k1 s1 h1 = n ∧ ∀ x, diX n f k s h n1 f1 k1 s1 h1 x = x := ⟨by unfold diN; rw [if_neg (fun x => x g3)], fun x => by unfold diX; rw [if_neg (fun x => x g3)]⟩
theorem di_64 (g3 : boE n f k s h n1 f1 k1 s1 h1 = 0) : Row64 n (diF f f1) := by
  obtain ⟨h1, h2, h3⟩ := boE_zero.1 g3
  subst h3
  obtain ⟨d1, d2⟩ := chD_zero.1 h1
  obtain ⟨d3, d4⟩ := chD_zero.1 h2
  intro i hi
  have := (isR_rr (d1.2 i hi) (d3.2 i hi)).1
  have h1 := this.1.1
  have h2 := right_c this.1
  show I64 (rA (isR (f i) (f1 i))) ∧ I64 (rB (isR (f i) (f1 i))) ∧ I64 (rC (isR (f i) (f1 i)))
  unfold I64
  exact ⟨by omega, by omega, by omega⟩
end
theorem SpWithin_ok : ConOK P 7 c_SpWithin := con_cl (allOKL mixed kWn_ok lWn_ok) 10 7 fun args r hh => by
  unfold c_SpWithin at hh
  split at hh
  · rename_i n f k s h m e n1 f1 k1 s1 h1
    obtain ⟨hp, hp1⟩ := (T.is_ask hh).1
    obtain rfl := T.is_ret (T.is_ask hh).2
    refine T.all_of_eq (t_SpW n f k s h m e n1 f1 k1 s1 h1) ?_
    simp only [lk_eq]
    refine ⟨hp, fun g1 => cl_err (wnE_1 (U.ne_t.mp g1)) (U.ne_t.mp g1), fun g1 => ⟨hp1, fun g2 => cl_err (wnE_2 (U.ne_f.mp g1) (U.ne_t.mp g2)) (U.ne_t.mp g2), fun g2 => ⟨⟨hp, hp1⟩, fun g3 => cl_err (wnE_3 (U.ne_f.mp g1) (U.ne_f.mp g2) (U.ne_t.mp g3)) (U.ne_t.mp g3), fun g3 => ?_⟩⟩⟩
    have g1 := U.ne_f.mp g1
    have g2 := U.ne_f.mp g2
    have g3 := U.ne_f.mp g3
    obtain ⟨eN, eX⟩ := di_0 g3
    rw [eN, eX, eX, eX]
    have h64 := di_64 g3
    obtain ⟨hm, hv⟩ := sp_i64 g1
    refine ⟨h64, fun g4 => cl_err (wnE_4 g1 g2 g3) (U.ne_t.mp g4), fun g4 => ⟨⟨⟨rfl, hp, h64, hm, hv⟩, trivial, trivial, trivial, trivial, trivial, trivial, trivial, trivial, trivial, trivial, trivial, trivial, trivial, trivial, trivial, trivial, trivial, trivial, trivial, trivial, trivial, trivial, trivial⟩, ?_⟩⟩
    have e0 : wnE n f k s h m e n1 f1 k1 s1 h1 = 0 := (wnE_4 g1 g2 g3).symm.trans (U.ne_f.mp g4)
    rw [e0]
    exact ⟨⟨⟨rfl, sameRow_refl _ _⟩, .inl rfl, .inl rfl, .inl rfl, ⟨rfl, sameRow_refl _ _⟩, rfl⟩, .inl rfl, rfl⟩
  · exact hh.elim
end Go.RX.Span

/- Sparse domains: the law of ways back: what it calls. -/
set_option linter.unusedVariables false
set_option linter.unusedSimpArgs false
set_option maxRecDepth 100000
namespace Go.RX.Span
open Go Go.RX
attribute [local irreducible] sx conB

noncomputable def c_own : Con := fun args => match args with
  | [.agg [.row [.int .i64, .int .i64, .int .i64] n f, .lit (.int .i64 k), .lit (.int .i64 s), .lit (.int .i64 h), .row [.int .i64] m e]] => .ret (.agg [.row [.int .i64, .int .i64, .int .i64] n f, .lit (.int .i64 k), .lit (.int .i64 s), .lit (.int .i64 h), .row [.int .i64] m e])
  | _ => .stuck 1
theorem own_ok : ConOK P 8 c_own := con_of (allOK mixed none_ok) 10 8 fun args r hh => by
  unfold c_own at hh
  split at hh
  · rename_i n f k s h m e
    obtain rfl := T.is_ret hh
    have t : conB Go.Proofs.Tryz.prog (conOf []) noLoops 10 8 [.agg [.row [.int .i64, .int .i64, .int .i64] n f, .lit (.int .i64 k), .lit (.int .i64 s), .lit (.int .i64 h), .row [.int .i64] m e]] = T.ret (.agg [.row [.int .i64, .int .i64, .int .i64] n f, .lit (.int .i64 k), .lit (.int .i64 s), .lit (.int .i64 h), .row [.int .i64] m e]) := by kernel_rfl
    exact T.all_of_eq t rfl
  · exact hh.elim
end Go.RX.Span

/- Sparse domains: the law of ways back. -/
set_option linter.unusedVariables false
set_option linter.unusedSimpArgs false
set_option maxRecDepth 100000
namespace Go.RX.Span
open Go Go.RX
attribute [local irreducible] sx conB

theorem smB_ext {n : Nat} {f f' : Nat → R3} {k s h : Int} {m : Nat} {e e' : Nat → R1} (hf : ∀ i, i < n → f i = f' i) (he : ∀ i, i < m → e i = e' i) : smB n f k s h m e n f' k s h m e' = true := by
  unfold smB
  rw [eqR3_t.2 ⟨rfl, fun i hi => by rw [hf i hi]; exact ⟨rfl, rfl, rfl⟩⟩, eqR_t.2 ⟨rfl, fun i hi => by rw [he i hi]⟩, decide_eq_true (show k = k ∧ s = s ∧ h = h from ⟨rfl, rfl, rfl⟩)]; rfl
end Go.RX.Span

/- Sparse domains: the law of sets: what it calls; the states. -/
set_option linter.unusedVariables false
set_option linter.unusedSimpArgs false
set_option maxRecDepth 100000
namespace Go.RX.Span
open Go Go.RX
attribute [local irreducible] sx conB

/-! Contains, Concat. -/
open Classical in
/-! The law's loops. -/
noncomputable abbrev spC (n : Nat) (f : Nat → R3) (k s h : Int) (m : Nat) (e : Nat → R1) : List SV := [.row [.int .i64, .int .i64, .int .i64] n f, .lit (.int .i64 k), .lit (.int .i64 s), .lit (.int .i64 h), .row [.int .i64] m e]
/-- The two domains, and what is made of them: the union, both, the difference. -/
structure C7 where
  (n : Nat) (f : Nat → R3) (k s h : Int)
/-- A sparse domain's cells. -/
noncomputable def asSp : List SV → Option (C7 × Nat × (Nat → R1))
  | [.row [.int .i64, .int .i64, .int .i64] n f, .lit (.int .i64 k), .lit (.int .i64 s), .lit (.int .i64 h), .row [.int .i64] m e] => some (⟨n, f, k, s, h⟩, m, e)
  | _ => none
theorem asSp_eq {cs : List SV} {c : C7} {m : Nat} {e : Nat → R1} (h : asSp cs = some (c, m, e)) : cs = spC c.n c.f c.k c.s c.h m e := by
  unfold asSp at h
  split at h
  · cases h; rfl
  · cases h
end Go.RX.Span

/- Sparse domains: the reference's has, equal, merge, Within: the states. -/
set_option linter.unusedVariables false
set_option linter.unusedSimpArgs false
set_option maxRecDepth 100000
namespace Go.RX.Span
open Go Go.RX
attribute [local irreducible] sx conB

/-! has. -/
noncomputable abbrev slHa (m : Nat) (e : Nat → R1) (p i : Int) : List SV := [.row [.int .i64] m e, .lit (.int .i64 p), .any, .lit (.int .i64 i)]
noncomputable def gHa : Nat → Few → T (Ex × Few)
  | n0, ([.row [.int .i64] m e, .lit (.int .i64 p), _, .ki .i64 z], []) =>
    .ask (n0 = 0 ∧ m ≤ 100000 ∧ z = 0) (.br (lk bsB m e p) (.ret (.ret, ([.any, .any, .kb true, .any], []))) (.ret (.exit 0, ([.any, .any, .any, .any], []))))
  | _, _ => .stuck 1
noncomputable abbrev lHa : List (Nat × Loops) := [(71, [(2, .sum (few 18 [0,1,4,5] gHa))])] --%K
noncomputable def c_has : Con := fun args => match args with
  | [.row [.int .i64] m e, .lit (.int .i64 p)] => .ask (m ≤ 100000) (.ret (.lit (.bool (lk bsB m e p))))
  | _ => .stuck 1
/-! equal. -/
noncomputable abbrev slEo (i : Int) : List SV := [.ptr 0 0, .ptr 1 0, .any, .lit (.int .i64 i)]
noncomputable abbrev memEo (n : Nat) (f : Nat → R3) (k s h : Int) (f1 : Nat → R3) (k1 s1 h1 : Int) : Mem :=
  [(0, some (.cells [.row [.int .i64, .int .i64, .int .i64] n f, .lit (.int .i64 k), .lit (.int .i64 s), .lit (.int .i64 h)] 26)), (0, some (.cells [.row [.int .i64, .int .i64, .int .i64] n f1, .lit (.int .i64 k1), .lit (.int .i64 s1), .lit (.int .i64 h1)] 26))]
noncomputable def gEo : Nat → Few → T (Ex × Few)
  | n0, ([.ptr p0 q0, .ptr p1 q1, _, .ki .i64 z], [(_, some (.cells [.row [.int .i64, .int .i64, .int .i64] n f, .lit (.int .i64 k), .lit (.int .i64 s), .lit (.int .i64 h)] t0)), (_, some (.cells [.row [.int .i64, .int .i64, .int .i64] n1 f1, .lit (.int .i64 k1), .lit (.int .i64 s1), .lit (.int .i64 h1)] t1))]) =>
    .ask (n0 = 0 ∧ p0 = 0 ∧ q0 = 0 ∧ p1 = 1 ∧ q1 = 0 ∧ z = 0 ∧ t0 = 26 ∧ t1 = 26 ∧ n1 = n ∧ n ≤ 100000)
      (.br (lk eqR3 n f n1 f1) (.ret (.exit 0, ([.any, .any, .any, .any], [(0, none), (0, none)]))) (.ret (.ret, ([.any, .any, .kb false, .any], [(0, none), (0, none)]))))
  | _, _ => .stuck 1
noncomputable abbrev lEo : List (Nat × Loops) := [(70, [(4, .sum (few 38 [2,3,4,5] gEo))])] --%K
noncomputable def c_eqDo : Con := fun args => match args with
  | [.agg [.row [.int .i64, .int .i64, .int .i64] n f, .lit (.int .i64 k), .lit (.int .i64 s), .lit (.int .i64 h)], .agg [.row [.int .i64, .int .i64, .int .i64] n1 f1, .lit (.int .i64 k1), .lit (.int .i64 s1), .lit (.int .i64 h1)]] => .ask (n ≤ 100000) (.ret (.lit (.bool (lk eqDo n f k s h n1 f1 k1 s1 h1))))
  | _ => .stuck 1
/-! merge. -/
def mrK (kd : Int) (b : Bool) : Bool := decide (kd = 1) || (b == decide (kd = 2))
noncomputable def m1L (kd : Int) (m : Nat) (e : Nat → R1) (m1 : Nat) (e1 : Nat → R1) : List Int := (nl m e).filter fun x => mrK kd (bsB m1 e1 x)
/-- So many of the second ones put in. -/
def m2L (m : Nat) (e : Nat → R1) (m1 : Nat) (e1 : Nat → R1) : List Int := (nl m1 e1).foldl putI (nl m e)
section
variable (kd : Int) (m : Nat) (e : Nat → R1) (m1 : Nat) (e1 : Nat → R1)
noncomputable def m1N : Nat := (m1L kd m e m1 e1).length
noncomputable def m1F : Nat → R1 := lF (m1L kd m e m1 e1)
def m2N : Nat := (m2L m e m1 e1).length
def m2F : Nat → R1 := lF (m2L m e m1 e1)
def PreMe (n0 : Nat) : Prop := n0 = 0 ∧ m ≤ 5000 ∧ m1 ≤ 5000
end
noncomputable abbrev memMe (n : Nat) (f : Nat → R3) (k s h : Int) (m : Nat) (e : Nat → R1) (n1 : Nat) (f1 : Nat → R3) (k1 s1 h1 : Int) (m1 : Nat) (e1 : Nat → R1) (b : Option Blk) : Mem :=
  [(0, some (bxIn n f k s h m e 29)), (0, some (bxIn n1 f1 k1 s1 h1 m1 e1 29)), (0, some (.cells zeV 29)), (0, b)]
noncomputable abbrev slM1 (kd : Int) (C : Nat) (i : Int) : List SV := [.lit (.int .i64 kd), .ptr 0 0, .ptr 1 0, .ptr 2 0, .own false 3 C, .lit (.int .i64 i), .any]
noncomputable def gM1 : Nat → Few → T (Ex × Few)
  | n0, ([.lit (.int .i64 kd), .ptr p0 q0, .ptr p1 q1, .ptr p2 q2, .own false b 0, .ki .i64 z, _], [(_, some (.cells x0 t0)), (_, some (.cells x1 t1)), (_, some (.cells zs t2)), (_, some (.row false 0 [.int .i64] G t3))]) =>
    match asSp x0, asSp x1 with
    | some (c, m, e), some (d, m1, e1) =>
      .ask (lk PreMe m m1 n0 ∧ p0 = 0 ∧ q0 = 0 ∧ p1 = 1 ∧ q1 = 0 ∧ p2 = 2 ∧ q2 = 0 ∧ b = 3 ∧ z = 0 ∧ t0 = 29 ∧ t1 = 29 ∧ zs = zeV ∧ t2 = 29 ∧ t3 = 3)
        (.ret (.exit 0, ([.lit (.int .i64 kd), .ptr 0 0, .ptr 1 0, .ptr 2 0, .own false 3 (lk m1N kd m e m1 e1), .any, .any], memMe c.n c.f c.k c.s c.h m e d.n d.f d.k d.s d.h m1 e1 (some (.row false (lk m1N kd m e m1 e1) [.int .i64] (lk m1F kd m e m1 e1) 3)))))
    | _, _ => .stuck 1
  | _, _ => .stuck 1
noncomputable abbrev slM2 (kd : Int) (v : SV) (i : Int) : List SV := [.lit (.int .i64 kd), .ptr 0 0, .ptr 1 0, .ptr 2 0, v, .lit (.int .i64 i)]
noncomputable def gM2 : Nat → Few → T (Ex × Few)
  | n0, ([.lit (.int .i64 kd), .ptr p0 q0, .ptr p1 q1, .ptr p2 q2, .own false b C, .ki .i64 z], [(_, some (.cells x0 t0)), (_, some (.cells x1 t1)), (_, some (.cells zs t2)), (_, some (.row false C' [.int .i64] G t3))]) =>
    match asSp x0, asSp x1 with
    | some (c, m, e), some (d, m1, e1) =>
      .ask (lk PreMe m m1 n0 ∧ p0 = 0 ∧ q0 = 0 ∧ p1 = 1 ∧ q1 = 0 ∧ p2 = 2 ∧ q2 = 0 ∧ b = 3 ∧ z = 0 ∧ t0 = 29 ∧ t1 = 29 ∧ zs = zeV ∧ t2 = 29 ∧ t3 = 3 ∧ C = lk m1N kd m e m1 e1 ∧ C' = C ∧ G = lk m1F kd m e m1 e1)
        (.br (U.andb (U.eq kd 1) (U.not (U.isz m1))) (.ret (.exit 2, (slM2 kd (.row [.int .i64] (lk m2N m e m1 e1) (lk m2F m e m1 e1)) (m1 : Int), memMe c.n c.f c.k c.s c.h m e d.n d.f d.k d.s d.h m1 e1 none)))
          (.ret (.exit 2, (slM2 kd (.own false 3 C) 0, memMe c.n c.f c.k c.s c.h m e d.n d.f d.k d.s d.h m1 e1 (some (.row false C [.int .i64] G 3))))))
    | _, _ => .stuck 1
  | _, _ => .stuck 1
noncomputable abbrev lMe : List (Nat × Loops) := [(38, [(11, .sum (few 89 [2,3,4,6,10,11,12] gM1)), (17, .sum (few 89 [2,3,4,6,10,13] gM2))])] --%K
/-! Within. -/
noncomputable abbrev slQw (M : Nat) (F : Nat → RL) (C : Nat) (i : Int) : List SV := [.any, .ptr 2 0, .row [.sl [.int .i64]] M F, .ptr 3 0, .own false 4 C, .lit (.int .i64 i), .any, .any]
noncomputable abbrev memQw (N : Nat) (F : Nat → R3) (K S H : Int) (C : Nat) (G : Nat → R1) : Mem :=
  [(0, none), (0, none), (0, some (.cells zeV 29)), (0, some (.cells [.row [.int .i64, .int .i64, .int .i64] N F, .lit (.int .i64 K), .lit (.int .i64 S), .lit (.int .i64 H)] 26)), (0, some (.row false C [.int .i64] G 3))]
section
variable (n : Nat) (f : Nat → R3) (k s h : Int) (m : Nat) (e : Nat → R1) (N : Nat) (F : Nat → R3) (K S H : Int)
def PreQw (n0 M : Nat) (L : Nat → RL) : Prop := n0 = 0 ∧ Row64 N F ∧ m ≤ 5000 ∧ M = m ∧ L = ixF n f k s h e
end
noncomputable def gQw : Nat → Few → T (Ex × Few)
  | n0, ([.ptr p0 q0, .ptr p2 q2, .row [.sl [.int .i64]] M L, .ptr p3 q3, .own false b 0, .ki .i64 z, _, _], [(_, some (.cells x0 t0)), _, (_, some (.cells zs t2)), (_, some (.cells [.row [.int .i64, .int .i64, .int .i64] N F, .lit (.int .i64 K), .lit (.int .i64 S), .lit (.int .i64 H)] t3)), (_, some (.row false 0 [.int .i64] G t4))]) =>
    match asSp x0 with
    | some (c, m, e) =>
      .ask (lk PreQw c.n c.f c.k c.s c.h m e N F n0 M L ∧ p0 = 0 ∧ q0 = 0 ∧ p2 = 2 ∧ q2 = 0 ∧ p3 = 3 ∧ q3 = 0 ∧ b = 4 ∧ z = 0 ∧ t0 = 29 ∧ zs = zeV ∧ t2 = 29 ∧ t3 = 26 ∧ t4 = 3)
        (.ret (.exit 0, ([.any, .ptr 2 0, .any, .ptr 3 0, .own false 4 (lk wnN c.n c.f c.k c.s c.h m e N F K S H), .any, .any, .any], memQw N F K S H (lk wnN c.n c.f c.k c.s c.h m e N F K S H) (lk wnF c.n c.f c.k c.s c.h m e N F K S H))))
    | _ => .stuck 1
  | _, _ => .stuck 1
noncomputable abbrev lQw : List (Nat × Loops) := [(9, [(15, .sum (few 72 [2,4,6,9,11,12,13,14] gQw))])] --%K
noncomputable abbrev kJa : List (Nat × Con) := [(33, c_SpCheck), (70, c_eqDo), (71, c_has), (72, c_put)] --%K
noncomputable abbrev kJw : List (Nat × Con) := [(30, c_Indices), (31, c_DCheck), (32, c_DIntersect), (33, c_SpCheckN), (34, c_DPosition)] --%K
theorem kJw_ok : ∀ p ∈ kJw, ConOK P p.1 p.2 := by
  intro p hp
  simp only [kJw, List.mem_cons, List.not_mem_nil, or_false] at hp
  rcases hp with rfl | rfl | rfl | rfl | rfl
  · exact QIndices_ok
  · exact qCheck_ok
  · exact qDIntersect_ok
  · exact SpQCheckN_ok
  · exact qPos_ok
noncomputable abbrev EJw : Env := ⟨P, conOf kJw, scall P (conOf kJw) noLoops 10⟩
theorem EJw_ok : EnvOK EJw := envOK (allOK mixed kJw_ok) 10
end Go.RX.Span

/- Sparse domains: the reference's has, equal, merge, Within: the walks. -/
set_option linter.unusedVariables false
set_option linter.unusedSimpArgs false
set_option maxRecDepth 100000
namespace Go.RX.Span
open Go Go.RX
attribute [local irreducible] sx conB

--%R < ↑(\w+)\b => < ((\1 : Nat) : Int)
--%R ↑(\w+) (=|≤) => ((\1 : Nat) : Int) \2
--%R \{ n := n, f := f, k := k, s := s, h := h \}\.f => f
set_option maxRecDepth 100000 in
theorem t_Ha (m : Nat) (e : Nat → R1) (p i : Int) : (sx E0 [] 0 (loopOf P 71 2) (mkS 18 [0,1,4,5] (slHa m e p i), [])).bind (proj 18 [0,1,4,5]) =
    T.br (U.lt i (Int.ofNat m)) (.ask ((0 : Int) ≤ i ∧ i < ((m : Nat) : Int)) (.br (U.eq (e (U.toNat i)).1 p) (.ret (Ex.ret, [.row [.int .i64] m e, .lit (.int .i64 p), SV.kb true, .lit
      (.int .i64 i)], [])) (.ret (Ex.normal, [.row [.int .i64] m e, .lit (.int .i64 p), SV.any, .lit (.int .i64 (U.add .i64 i (1 : Int)))], [])))) (.ret (Ex.exit (nat_lit 0), [.row [.int
      .i64] m e, .lit (.int .i64 p), SV.any, .lit (.int .i64 i)], [])) := by kernel_rfl
set_option maxRecDepth 100000 in
theorem t_has (m : Nat) (e : Nat → R1) (p : Int) : conB Go.Proofs.Tryz.prog (conOf []) (loopsOf lHa) 10 71 [.row [.int .i64] m e, .lit (.int .i64 p)] =
    T.ask (nat_lit 0 = (0 : Nat) ∧ m ≤ (100000 : Nat) ∧ (0 : Int) = (0 : Int)) (.br (lk bsB m e p) (.ret (.lit (.bool true))) (.ret (.lit (.bool false)))) := by kernel_rfl
set_option maxRecDepth 100000 in
theorem t_Eo (n : Nat) (f : Nat → R3) (k s h : Int) (f1 : Nat → R3) (k1 s1 h1 i : Int) : (sx E0 [] 0 (loopOf P 70 4) (mkS 38 [2,3,4,5] (slEo i), memEo n f k s h f1 k1 s1 h1)).bind (proj 38 [2,3,4,5]) =
    T.br (U.lt i (Int.ofNat n)) (.ask ((0 : Int) ≤ i ∧ i < ((n : Nat) : Int)) (.ask ((0 : Int) ≤ i ∧ i < ((n : Nat) : Int)) (.br (U.not (U.andb (U.eq (f (U.toNat i)).1 (f1 (U.toNat
      i)).1) (U.andb (U.eq (f (U.toNat i)).2.1 (f1 (U.toNat i)).2.1) (U.eq (f (U.toNat i)).2.2.1 (f1 (U.toNat i)).2.2.1)))) (.ret (Ex.ret, [SV.ptr (nat_lit 0) (nat_lit 0), SV.ptr (nat_lit
      1) (nat_lit 0), SV.kb false, .lit (.int .i64 i)], [(nat_lit 0, some (Blk.cells [.row [.int .i64, .int .i64, .int .i64] n f, .lit (.int .i64 k), .lit (.int .i64 s), .lit (.int .i64
      h)] (nat_lit 26))), (nat_lit 0, some (Blk.cells [.row [.int .i64, .int .i64, .int .i64] n f1, .lit (.int .i64 k1), .lit (.int .i64 s1), .lit (.int .i64 h1)] (nat_lit 26)))])) (.ret
      (Ex.normal, [SV.ptr (nat_lit 0) (nat_lit 0), SV.ptr (nat_lit 1) (nat_lit 0), SV.any, .lit (.int .i64 (U.add .i64 i (1 : Int)))], [(nat_lit 0, some (Blk.cells [.row [.int .i64, .int
      .i64, .int .i64] n f, .lit (.int .i64 k), .lit (.int .i64 s), .lit (.int .i64 h)] (nat_lit 26))), (nat_lit 0, some (Blk.cells [.row [.int .i64, .int .i64, .int .i64] n f1, .lit
      (.int .i64 k1), .lit (.int .i64 s1), .lit (.int .i64 h1)] (nat_lit 26)))]))))) (.ret (Ex.exit (nat_lit 0), [SV.ptr (nat_lit 0) (nat_lit 0), SV.ptr (nat_lit 1) (nat_lit 0), SV.any,
      .lit (.int .i64 i)], [(nat_lit 0, some (Blk.cells [.row [.int .i64, .int .i64, .int .i64] n f, .lit (.int .i64 k), .lit (.int .i64 s), .lit (.int .i64 h)] (nat_lit 26))), (nat_lit
      0, some (Blk.cells [.row [.int .i64, .int .i64, .int .i64] n f1, .lit (.int .i64 k1), .lit (.int .i64 s1), .lit (.int .i64 h1)] (nat_lit 26)))])) := by kernel_rfl
set_option maxRecDepth 100000 in
theorem t_eqDo (n : Nat) (f : Nat → R3) (k s h : Int) (n1 : Nat) (f1 : Nat → R3) (k1 s1 h1 : Int) : conB Go.Proofs.Tryz.prog (conOf []) (loopsOf lEo) 10 70 [.agg [.row [.int .i64, .int .i64, .int .i64] n f, .lit (.int .i64 k), .lit (.int .i64 s), .lit (.int .i64 h)], .agg [.row [.int .i64, .int .i64, .int .i64] n1 f1, .lit (.int .i64 k1), .lit (.int .i64 s1), .lit (.int .i64 h1)]] =
    T.br (U.ne (Int.ofNat n) (Int.ofNat n1)) (.ret (.lit (.bool false))) (.br (U.not (U.andb (U.eq k k1) (U.andb (U.eq s s1) (U.eq h h1)))) (.ret (.lit (.bool false))) (.ask (nat_lit 0
      = (0 : Nat) ∧ (0 : Nat) = (0 : Nat) ∧ (0 : Nat) = (0 : Nat) ∧ (1 : Nat) = (1 : Nat) ∧ (0 : Nat) = (0 : Nat) ∧ (0 : Int) = (0 : Int) ∧ (26 : Nat) = (26 : TypeId) ∧ (26 : Nat) = (26 :
      TypeId) ∧ n1 = n ∧ n ≤ (100000 : Nat)) (.br (lk eqR3 n f n1 f1) (.ret (.lit (.bool true))) (.ret (.lit (.bool false)))))) := by kernel_rfl
set_option maxRecDepth 100000 in
theorem t_Qw (N : Nat) (F : Nat → R3) (K S H : Int) (M : Nat) (L : Nat → RL) (C : Nat) (G : Nat → R1) (i : Int) : (sx EJw [] 0 (loopOf P 9 15) (mkS 72 [2,4,6,9,11,12,13,14] (slQw M L C i), memQw N F K S H C G)).bind (proj 72 [2,4,6,9,11,12,13,14]) =
    T.br (U.lt i (Int.ofNat M)) (.ask ((0 : Int) ≤ i ∧ i < ((M : Nat) : Int)) (.ask (Row64 N F) (.br (lk hasD N F K S H (L (U.toNat i)).fst.1 (L (U.toNat i)).fst.2) (.ask ((C + (1 :
      Nat)) * nat_lit 8 ≤ nat_lit 140737488351232) (.ret (Ex.normal, [SV.any, SV.ptr (nat_lit 2) (nat_lit 0), .row [.sl [.int .i64]] M L, SV.ptr (nat_lit 3) (nat_lit 0), SV.own false
      (nat_lit 6) (C.add (nat_lit 1)), .lit (.int .i64 (U.add .i64 i (1 : Int))), .lit (.int .i64 (lk posD N F K S H (L (U.toNat i)).fst.1 (L (U.toNat i)).fst.2)), .lit (.bool (lk hasD N
      F K S H (L (U.toNat i)).fst.1 (L (U.toNat i)).fst.2))], [(nat_lit 0, none), (nat_lit 0, none), (nat_lit 0, some (Blk.cells [.lit (.slice none (nat_lit 0) (nat_lit 0)), .lit (.int
      .i64 0), .lit (.int .i64 0), .lit (.int .i64 0), .lit (.slice none (nat_lit 0) (nat_lit 0))] (nat_lit 29))), (nat_lit 0, some (Blk.cells [.row [.int .i64, .int .i64, .int .i64] N F,
      .lit (.int .i64 K), .lit (.int .i64 S), .lit (.int .i64 H)] (nat_lit 26))), (nat_lit 1, none), (nat_lit 0, some (Blk.cells [.lit (.int .i64 (lk posD N F K S H (L (U.toNat i)).fst.1
      (L (U.toNat i)).fst.2))] (nat_lit 3))), (nat_lit 0, some (Blk.row false (C.add (nat_lit 1)) [.int .i64] (U.cat C G fun x => (lk posD N F K S H (L (U.toNat i)).fst.1 (L (U.toNat
      i)).fst.2, PUnit.unit)) (nat_lit 3)))]))) (.ret (Ex.normal, [SV.any, SV.ptr (nat_lit 2) (nat_lit 0), .row [.sl [.int .i64]] M L, SV.ptr (nat_lit 3) (nat_lit 0), SV.own false
      (nat_lit 4) C, .lit (.int .i64 (U.add .i64 i (1 : Int))), .lit (.int .i64 (lk posD N F K S H (L (U.toNat i)).fst.1 (L (U.toNat i)).fst.2)), .lit (.bool (lk hasD N F K S H (L
      (U.toNat i)).fst.1 (L (U.toNat i)).fst.2))], [(nat_lit 0, none), (nat_lit 0, none), (nat_lit 0, some (Blk.cells [.lit (.slice none (nat_lit 0) (nat_lit 0)), .lit (.int .i64 0), .lit
      (.int .i64 0), .lit (.int .i64 0), .lit (.slice none (nat_lit 0) (nat_lit 0))] (nat_lit 29))), (nat_lit 0, some (Blk.cells [.row [.int .i64, .int .i64, .int .i64] N F, .lit (.int
      .i64 K), .lit (.int .i64 S), .lit (.int .i64 H)] (nat_lit 26))), (nat_lit 0, some (Blk.row false C [.int .i64] G (nat_lit 3)))]))))) (.ret (Ex.exit (nat_lit 0), [SV.any, SV.ptr
      (nat_lit 2) (nat_lit 0), .row [.sl [.int .i64]] M L, SV.ptr (nat_lit 3) (nat_lit 0), SV.own false (nat_lit 4) C, .lit (.int .i64 i), SV.any, SV.any], [(nat_lit 0, none), (nat_lit 0,
      none), (nat_lit 0, some (Blk.cells [.lit (.slice none (nat_lit 0) (nat_lit 0)), .lit (.int .i64 0), .lit (.int .i64 0), .lit (.int .i64 0), .lit (.slice none (nat_lit 0) (nat_lit
      0))] (nat_lit 29))), (nat_lit 0, some (Blk.cells [.row [.int .i64, .int .i64, .int .i64] N F, .lit (.int .i64 K), .lit (.int .i64 S), .lit (.int .i64 H)] (nat_lit 26))), (nat_lit 0,
      some (Blk.row false C [.int .i64] G (nat_lit 3)))])) := by kernel_rfl
set_option maxRecDepth 100000 in
theorem t_QWi (n : Nat) (f : Nat → R3) (k s h : Int) (m : Nat) (e : Nat → R1) (n1 : Nat) (f1 : Nat → R3) (k1 s1 h1 : Int) : conB Go.Proofs.Tryz.prog (conOf kJw) (loopsOf lQw) 10 9 [.agg [.row [.int .i64, .int .i64, .int .i64] n f, .lit (.int .i64 k), .lit (.int .i64 s), .lit (.int .i64 h), .row [.int .i64] m e], .agg [.row [.int .i64, .int .i64, .int .i64] n1 f1, .lit (.int .i64 k1), .lit (.int .i64 s1), .lit (.int .i64 h1)]] =
    T.ask (Row64 n f) (.br (U.ne (lk spE n f k s h m e) (0 : Int)) (.ret (.tup [.agg [.lit (.slice none (nat_lit 0) (nat_lit 0)), .lit (.int .i64 0), .lit (.int .i64 0), .lit (.int .i64
      0), .lit (.slice none (nat_lit 0) (nat_lit 0))], .lit (.int .i64 (lk spE n f k s h m e))])) (.ask (Row64 n1 f1) (.br (U.ne (lk chD n1 f1 k1 s1 h1) (0 : Int)) (.ret (.tup [.agg [.lit
      (.slice none (nat_lit 0) (nat_lit 0)), .lit (.int .i64 0), .lit (.int .i64 0), .lit (.int .i64 0), .lit (.slice none (nat_lit 0) (nat_lit 0))], .lit (.int .i64 (lk chD n1 f1 k1 s1
      h1))])) (.ask (Row64 n f ∧ Row64 n1 f1) (.br (U.ne (lk boE n f k s h n1 f1 k1 s1 h1) (0 : Int)) (.ret (.tup [.agg [.lit (.slice none (nat_lit 0) (nat_lit 0)), .lit (.int .i64 0),
      .lit (.int .i64 0), .lit (.int .i64 0), .lit (.slice none (nat_lit 0) (nat_lit 0))], .lit (.int .i64 (lk boE n f k s h n1 f1 k1 s1 h1))])) (.ask (Row64 (lk diN n f k s h n1 f1 k1 s1
      h1) (lk diF f f1)) (.br (U.ne (lk pdE (lk diN n f k s h n1 f1 k1 s1 h1) (lk diF f f1) (lk diX n f k s h n1 f1 k1 s1 h1 k) (lk diX n f k s h n1 f1 k1 s1 h1 s) (lk diX n f k s h n1 f1
      k1 s1 h1 h)) (0 : Int)) (.ret (.tup [.agg [.lit (.slice none (nat_lit 0) (nat_lit 0)), .lit (.int .i64 0), .lit (.int .i64 0), .lit (.int .i64 0), .lit (.slice none (nat_lit 0)
      (nat_lit 0))], .lit (.int .i64 (lk pdE (lk diN n f k s h n1 f1 k1 s1 h1) (lk diF f f1) (lk diX n f k s h n1 f1 k1 s1 h1 k) (lk diX n f k s h n1 f1 k1 s1 h1 s) (lk diX n f k s h n1
      f1 k1 s1 h1 h)))])) (.ask (lk PreQw n f k s h m e (lk diN n f k s h n1 f1 k1 s1 h1) (lk diF f f1) (nat_lit 0) (lk zn (lk spE n f k s h m e) m) (lk ixF n f k s h e) ∧ (0 : Nat) = (0
      : Nat) ∧ (0 : Nat) = (0 : Nat) ∧ (2 : Nat) = (2 : Nat) ∧ (0 : Nat) = (0 : Nat) ∧ (3 : Nat) = (3 : Nat) ∧ (0 : Nat) = (0 : Nat) ∧ (4 : Nat) = (4 : Nat) ∧ (0 : Int) = (0 : Int) ∧ (29
      : Nat) = (29 : TypeId) ∧ [.lit (.slice none (0 : Nat) (0 : Nat)), .lit (.int .i64 0), .lit (.int .i64 0), .lit (.int .i64 0), .lit (.slice none (0 : Nat) (0 : Nat))] = zeV ∧ (29 :
      Nat) = (29 : TypeId) ∧ (26 : Nat) = (26 : TypeId) ∧ (3 : Nat) = (3 : TypeId)) (.ret (.tup [.agg [.row [.int .i64, .int .i64, .int .i64] (lk diN n f k s h n1 f1 k1 s1 h1) (lk diF f
      f1), .lit (.int .i64 (lk diX n f k s h n1 f1 k1 s1 h1 k)), .lit (.int .i64 (lk diX n f k s h n1 f1 k1 s1 h1 s)), .lit (.int .i64 (lk diX n f k s h n1 f1 k1 s1 h1 h)), .row [.int
      .i64] (lk wnN n f k s h m e (lk diN n f k s h n1 f1 k1 s1 h1) (lk diF f f1) (lk diX n f k s h n1 f1 k1 s1 h1 k) (lk diX n f k s h n1 f1 k1 s1 h1 s) (lk diX n f k s h n1 f1 k1 s1 h1
      h)) (lk wnF n f k s h m e (lk diN n f k s h n1 f1 k1 s1 h1) (lk diF f f1) (lk diX n f k s h n1 f1 k1 s1 h1 k) (lk diX n f k s h n1 f1 k1 s1 h1 s) (lk diX n f k s h n1 f1 k1 s1 h1
      h))], .lit (.int .i64 0)])))))))))) := by kernel_rfl
end Go.RX.Span

/- Sparse domains: the reference's has, equal, Within. -/
set_option linter.unusedVariables false
set_option linter.unusedSimpArgs false
set_option maxRecDepth 100000
namespace Go.RX.Span
open Go Go.RX
attribute [local irreducible] sx conB

structure XHa where
  (m : Nat) (e : Nat → R1) (p : Int) (i : Nat)
noncomputable abbrev VHa (q : XHa) : Few := (slHa q.m q.e q.p q.i, [])
noncomputable def O1Ha : Ex × Few := (.ret, ([.any, .any, .kb true, .any], []))
noncomputable def O2Ha : Ex × Few := (.exit 0, ([.any, .any, .any, .any], []))
def PhiHa (n0 : Nat) (q : XHa) : Prop := (n0 = 0 ∧ q.m ≤ 100000) ∧ q.i ≤ q.m ∧ ∀ j, j < q.i → nv q.e j ≠ q.p
def ZHa (q : XHa) (o : Ex × Few) : Prop := (bsB q.m q.e q.p = true → o = O1Ha) ∧ (bsB q.m q.e q.p = false → o = O2Ha)
theorem wHa {vs vs' : List SV} {m : Mem} (h : RlL (idR 0) vs vs') : Wk 18 [0,1,4,5] 0 (vs, m) (vs', []) := wk_of (idR 0) rfl (Nat.zero_le _) (fun b hb => by omega) h trivial
theorem roundHa (n0 : Nat) (q : XHa) (hq : PhiHa n0 q) : ((sx E0 [] n0 (loopOf P 71 2) (mkS 18 [0,1,4,5] (VHa q).1, (VHa q).2)).bind (proj 18 [0,1,4,5])).All fun r => match r.1 with
      | .normal => ∃ q', PhiHa n0 q' ∧ q'.m - q'.i < q.m - q.i ∧ Wk 18 [0,1,4,5] n0 r.2 (VHa q') ∧ ∀ o, ZHa q' o → ZHa q o
      | e => ∃ s, ZHa q (e, s) ∧ Wk 18 [0,1,4,5] n0 r.2 s := by
  obtain ⟨m, e, p, i⟩ := q
  obtain ⟨⟨h0, hm⟩, hi, hall⟩ := hq
  have hm : m ≤ 100000 := hm
  have hi : i ≤ m := hi
  have hall : ∀ j, j < i → nv e j ≠ p := hall
  have h0 : n0 = 0 := h0
  subst h0
  refine T.all_of_eq (t_Ha m e p (i : Int)) ?_
  by_cases hlt : i < m
  · rw [add1p (j := i) (by omega), tnH]
    refine ⟨fun _ => ⟨⟨by omega, by omega⟩, fun g => ?_, fun g => ?_⟩, fun g => absurd (U.lt_f.mp g) (by simp only [Int.ofNat_eq_natCast]; omega)⟩
    · have g : nv e i = p := U.eq_t.mp g
      have ha : bsB m e p = true := bsB_t.2 ⟨i, hlt, g⟩
      exact ⟨O1Ha.2, ⟨fun _ => rfl, fun h => by have h : bsB m e p = false := h; rw [ha] at h; cases h⟩, wHa ⟨rl_any _, rl_any _, rfl, rl_any _, trivial⟩⟩
    · have g : nv e i ≠ p := U.eq_f.mp g
      refine ⟨⟨m, e, p, i + 1⟩, ⟨⟨rfl, hm⟩, hlt, fun j hj => ?_⟩, (show m - (i + 1) < m - i by omega), wHa ⟨⟨rfl, row1H fun _ _ => rfl⟩, rfl, rl_any _, rfl, trivial⟩, fun o ho => ho⟩
      have hj : j < i + 1 := hj
      by_cases ej : j = i
      · subst ej; exact g
      · exact hall j (by omega)
  · obtain rfl : i = m := by omega
    have ha : bsB i e p = false := bsB_f.2 fun ⟨j, h1, h2⟩ => hall j h1 h2
    exact ⟨fun g => absurd (U.lt_t.mp g) (by simp only [Int.ofNat_eq_natCast]; omega), fun _ => ⟨O2Ha.2, ⟨(fun h => by have h : bsB i e p = true := h; rw [ha] at h; cases h), fun _ => rfl⟩, wHa ⟨rl_any _, rl_any _, rl_any _, rl_any _, trivial⟩⟩⟩
theorem loopHa : LoopOK P (loopOf P 71 2) (few 18 [0,1,4,5] gHa) :=
  loop_few (E := E0) mixed E0_ok loopsOK_none 18 [0,1,4,5] (X := XHa) gHa (fun _ x => VHa x) PhiHa (fun q => q.m - q.i) (fun _ x o => ZHa x o)
    (fun n0 st r hh => by
      unfold gHa at hh
      split at hh
      · rename_i n0 m e p s2 z
        obtain ⟨h0, hm, rfl⟩ := (T.is_ask hh).1
        have hb := (T.is_ask hh).2
        subst h0
        refine ⟨⟨m, e, p, 0⟩, ⟨⟨rfl, hm⟩, Nat.zero_le _, fun j hj => absurd hj (Nat.not_lt_zero j)⟩, wHa ⟨⟨rfl, row1H fun _ _ => rfl⟩, rfl, rl_any _, rfl, trivial⟩, fun o ho => ?_⟩
        rcases hb with ⟨he, hb⟩ | ⟨he, hb⟩
        · rw [lk_eq] at he
          obtain rfl := T.is_ret hb
          exact ho.1 he
        · rw [lk_eq] at he
          obtain rfl := T.is_ret hb
          exact ho.2 he
      · exact hh.elim)
    roundHa
theorem lHa_ok : ∀ p ∈ lHa, LoopsOK P p.2 (bodyOf P p.1) := by
  intro p hp
  simp only [lHa, List.mem_singleton] at hp
  subst hp
  refine loopsOK_of (by kernel_rfl) fun k g hk => ?_
  simp only [List.mem_singleton, Prod.mk.injEq, LoopC.sum.injEq] at hk
  obtain ⟨rfl, rfl⟩ := hk
  exact loopHa
theorem has_ok : ConOK P 71 c_has := con_cl (allOKL mixed none_ok lHa_ok) 10 71 fun args r hh => by
  unfold c_has at hh
  split at hh
  · rename_i m e p
    have hp := (T.is_ask hh).1
    obtain rfl := T.is_ret (T.is_ask hh).2
    refine T.all_of_eq (t_has m e p) ?_
    simp only [lk_eq]
    exact ⟨⟨trivial, hp, trivial⟩, fun g => by rw [g]; exact .inl rfl, fun g => by rw [g]; exact .inl rfl⟩
  · exact hh.elim
/-! equal. -/
structure XEo where
  (n : Nat) (f : Nat → R3) (k s h : Int) (f1 : Nat → R3) (k1 s1 h1 : Int) (i : Nat)
noncomputable abbrev VEo (q : XEo) : Few := (slEo q.i, memEo q.n q.f q.k q.s q.h q.f1 q.k1 q.s1 q.h1)
noncomputable def O1Eo : Ex × Few := (.exit 0, ([.any, .any, .any, .any], [(0, none), (0, none)]))
noncomputable def O2Eo : Ex × Few := (.ret, ([.any, .any, .kb false, .any], [(0, none), (0, none)]))
def EqAt (f f1 : Nat → R3) (i : Nat) : Prop := (f i).1 = (f1 i).1 ∧ (f i).2.1 = (f1 i).2.1 ∧ (f i).2.2.1 = (f1 i).2.2.1
def PhiEo (n0 : Nat) (q : XEo) : Prop := (n0 = 0 ∧ q.n ≤ 100000) ∧ q.i ≤ q.n ∧ ∀ j, j < q.i → EqAt q.f q.f1 j
def ZEo (q : XEo) (o : Ex × Few) : Prop := (eqR3 q.n q.f q.n q.f1 = true → o = O1Eo) ∧ (eqR3 q.n q.f q.n q.f1 = false → o = O2Eo)
theorem wEo0 {vs vs' : List SV} {m : Mem} (h : RlL [none, none] vs vs') : Wk 38 [2,3,4,5] 0 (vs, m) (vs', [(0, none), (0, none)]) := wk_of [none, none] rfl (Nat.zero_le _) (ren1z _) h trivial
theorem roundEo (n0 : Nat) (q : XEo) (hq : PhiEo n0 q) : ((sx E0 [] n0 (loopOf P 70 4) (mkS 38 [2,3,4,5] (VEo q).1, (VEo q).2)).bind (proj 38 [2,3,4,5])).All fun r => match r.1 with
      | .normal => ∃ q', PhiEo n0 q' ∧ q'.n - q'.i < q.n - q.i ∧ Wk 38 [2,3,4,5] n0 r.2 (VEo q') ∧ ∀ o, ZEo q' o → ZEo q o
      | e => ∃ s, ZEo q (e, s) ∧ Wk 38 [2,3,4,5] n0 r.2 s := by
  obtain ⟨n, f, k, s, h, f1, k1, s1, h1, i⟩ := q
  obtain ⟨⟨h0, hm⟩, hi, hall⟩ := hq
  have hm : n ≤ 100000 := hm
  have hi : i ≤ n := hi
  have hall : ∀ j, j < i → EqAt f f1 j := hall
  have h0 : n0 = 0 := h0
  subst h0
  refine T.all_of_eq (t_Eo n f k s h f1 k1 s1 h1 (i : Int)) ?_
  by_cases hlt : i < n
  · rw [add1p (j := i) (by omega), tnH]
    refine ⟨fun _ => ⟨⟨by omega, by omega⟩, ⟨by omega, by omega⟩, fun g => ?_, fun g => ?_⟩, fun g => absurd (U.lt_f.mp g) (by simp only [Int.ofNat_eq_natCast]; omega)⟩
    · have ha : eqR3 n f n f1 = false := by
        cases hb : eqR3 n f n f1
        · rfl
        · obtain ⟨a1, a2, a3⟩ := (eqR3_t.1 hb).2 i hlt
          have : U.andb (U.eq (f i).1 (f1 i).1) (U.andb (U.eq (f i).2.1 (f1 i).2.1) (U.eq (f i).2.2.1 (f1 i).2.2.1)) = true := U.andb_t.mpr ⟨U.eq_t.mpr a1, U.andb_t.mpr ⟨U.eq_t.mpr a2, U.eq_t.mpr a3⟩⟩
          have g := U.not_t.mp g
          rw [this] at g; cases g
      exact ⟨O2Eo.2, ⟨(fun x => by have x : eqR3 n f n f1 = true := x; rw [ha] at x; cases x), fun _ => rfl⟩, wEo0 ⟨rl_any _, rl_any _, rfl, rl_any _, trivial⟩⟩
    · have g2 := U.andb_t.mp (U.not_f.mp g)
      have g3 := U.andb_t.mp g2.2
      refine ⟨⟨n, f, k, s, h, f1, k1, s1, h1, i + 1⟩, ⟨⟨rfl, hm⟩, hlt, fun j hj => ?_⟩, (show n - (i + 1) < n - i by omega), wk_of [some 0, some 1] rfl (Nat.zero_le _) (ren1z _) ⟨⟨rfl, rfl⟩, ⟨rfl, rfl⟩, rl_any _, rfl, trivial⟩ ⟨⟨rfl, par_rl⟩, ⟨rfl, par_rl⟩, trivial⟩, fun o ho => ho⟩
      have hj : j < i + 1 := hj
      by_cases ej : j = i
      · subst ej; exact ⟨U.eq_t.mp g2.1, U.eq_t.mp g3.1, U.eq_t.mp g3.2⟩
      · exact hall j (by omega)
  · obtain rfl : i = n := by omega
    have ha : eqR3 i f i f1 = true := eqR3_t.2 ⟨rfl, fun j hj => hall j hj⟩
    exact ⟨fun g => absurd (U.lt_t.mp g) (by simp only [Int.ofNat_eq_natCast]; omega), fun _ => ⟨O1Eo.2, ⟨fun _ => rfl, fun x => by have x : eqR3 i f i f1 = false := x; rw [ha] at x; cases x⟩, wEo0 ⟨rl_any _, rl_any _, rl_any _, rl_any _, trivial⟩⟩⟩
theorem loopEo : LoopOK P (loopOf P 70 4) (few 38 [2,3,4,5] gEo) :=
  loop_few (E := E0) mixed E0_ok loopsOK_none 38 [2,3,4,5] (X := XEo) gEo (fun _ x => VEo x) PhiEo (fun q => q.n - q.i) (fun _ x o => ZEo x o)
    (fun n0 st r hh => by
      unfold gEo at hh
      split at hh
      · rename_i n0 p0 q0 p1 q1 s2 z w0 n f k s h t0 w1 n1 f1 k1 s1 h1 t1
        obtain ⟨h0, rfl, rfl, rfl, rfl, rfl, rfl, rfl, rfl, hm⟩ := (T.is_ask hh).1
        have hb := (T.is_ask hh).2
        subst h0
        refine ⟨⟨n1, f, k, s, h, f1, k1, s1, h1, 0⟩, ⟨⟨rfl, hm⟩, Nat.zero_le _, fun j hj => absurd hj (Nat.not_lt_zero j)⟩, wk_of [some 0, some 1] rfl (Nat.zero_le _) (ren1z _) ⟨⟨rfl, rfl⟩, ⟨rfl, rfl⟩, rl_any _, rfl, trivial⟩ ⟨⟨rfl, par_rl⟩, ⟨rfl, par_rl⟩, trivial⟩, fun o ho => ?_⟩
        rcases hb with ⟨he, hb⟩ | ⟨he, hb⟩
        · rw [lk_eq] at he
          obtain rfl := T.is_ret hb
          exact ho.1 he
        · rw [lk_eq] at he
          obtain rfl := T.is_ret hb
          exact ho.2 he
      · exact hh.elim)
    roundEo
theorem lEo_ok : ∀ p ∈ lEo, LoopsOK P p.2 (bodyOf P p.1) := by
  intro p hp
  simp only [lEo, List.mem_singleton] at hp
  subst hp
  refine loopsOK_of (by kernel_rfl) fun k g hk => ?_
  simp only [List.mem_singleton, Prod.mk.injEq, LoopC.sum.injEq] at hk
  obtain ⟨rfl, rfl⟩ := hk
  exact loopEo
theorem eqDo_ok : ConOK P 70 c_eqDo := con_cl (allOKL mixed none_ok lEo_ok) 10 70 fun args r hh => by
  unfold c_eqDo at hh
  split at hh
  · rename_i n f k s h n1 f1 k1 s1 h1
    have hp := (T.is_ask hh).1
    obtain rfl := T.is_ret (T.is_ask hh).2
    refine T.all_of_eq (t_eqDo n f k s h n1 f1 k1 s1 h1) ?_
    simp only [lk_eq, Int.ofNat_eq_natCast]
    have no : eqDo n f k s h n1 f1 k1 s1 h1 = false → Cl (SV.kb false) (.lit (.bool (eqDo n f k s h n1 f1 k1 s1 h1))) := fun g => by rw [g]; exact .inr rfl
    have no' : eqDo n f k s h n1 f1 k1 s1 h1 = false → Cl (SV.lit (.bool false)) (.lit (.bool (eqDo n f k s h n1 f1 k1 s1 h1))) := fun g => by rw [g]; exact .inl rfl
    refine ⟨fun g => no' ?_, fun g => ⟨fun g2 => no' ?_, fun g2 => ⟨?_, fun g3 => ?_, fun g3 => no' ?_⟩⟩⟩
    · have hne : n ≠ n1 := fun e => by subst e; exact U.ne_t.mp g rfl
      have : eqR3 n f n1 f1 = false := by
        cases hb : eqR3 n f n1 f1
        · rfl
        · exact absurd (eqR3_t.1 hb).1 hne
      unfold eqDo; rw [this]; rfl
    · have g2 := U.not_t.mp g2
      have hx : decide (k = k1 ∧ s = s1 ∧ h = h1) = false := decide_eq_false fun hx => by
        have : U.andb (U.eq k k1) (U.andb (U.eq s s1) (U.eq h h1)) = true := U.andb_t.mpr ⟨U.eq_t.mpr hx.1, U.andb_t.mpr ⟨U.eq_t.mpr hx.2.1, U.eq_t.mpr hx.2.2⟩⟩
        rw [g2] at this; cases this
      unfold eqDo; rw [hx, Bool.and_false]
    · have g := U.ne_f.mp g
      obtain rfl : n = n1 := by omega
      exact ⟨trivial, trivial, trivial, trivial, trivial, trivial, trivial, trivial, rfl, hp⟩
    · rw [eqDo_c g3 (U.not_f.mp g2)]; exact .inl rfl
    · unfold eqDo; rw [g3]; rfl
  · exact hh.elim
structure XQw where
  (n : Nat) (f : Nat → R3) (k s h : Int) (m : Nat) (e : Nat → R1) (N : Nat) (F : Nat → R3) (K S H : Int) (i : Nat)
noncomputable abbrev VQw (q : XQw) : Few := (slQw q.m (ixF q.n q.f q.k q.s q.h q.e) (wnN q.n q.f q.k q.s q.h q.i q.e q.N q.F q.K q.S q.H) q.i, memQw q.N q.F q.K q.S q.H (wnN q.n q.f q.k q.s q.h q.i q.e q.N q.F q.K q.S q.H) (wnF q.n q.f q.k q.s q.h q.i q.e q.N q.F q.K q.S q.H))
noncomputable def OQw (q : XQw) : Ex × Few := (.exit 0, ([.any, .ptr 2 0, .any, .ptr 3 0, .own false 4 (wnN q.n q.f q.k q.s q.h q.m q.e q.N q.F q.K q.S q.H), .any, .any, .any], memQw q.N q.F q.K q.S q.H (wnN q.n q.f q.k q.s q.h q.m q.e q.N q.F q.K q.S q.H) (wnF q.n q.f q.k q.s q.h q.m q.e q.N q.F q.K q.S q.H)))
def PhiQw (n0 : Nat) (q : XQw) : Prop := (n0 = 0 ∧ Row64 q.N q.F ∧ q.m ≤ 5000) ∧ q.i ≤ q.m
theorem roundQw (n0 : Nat) (q : XQw) (hq : PhiQw n0 q) : ((sx EJw [] n0 (loopOf P 9 15) (mkS 72 [2,4,6,9,11,12,13,14] (VQw q).1, (VQw q).2)).bind (proj 72 [2,4,6,9,11,12,13,14])).All fun r => match r.1 with
      | .normal => ∃ q', PhiQw n0 q' ∧ q'.m - q'.i < q.m - q.i ∧ Wk 72 [2,4,6,9,11,12,13,14] n0 r.2 (VQw q') ∧ ∀ o, o = OQw q' → o = OQw q
      | e => ∃ s, (e, s) = OQw q ∧ Wk 72 [2,4,6,9,11,12,13,14] n0 r.2 s := by
  obtain ⟨n, f, k, s, h, m, e, N, F, K, S, H, i⟩ := q
  obtain ⟨⟨h0, hR, hm⟩, hi⟩ := hq
  have h0 : n0 = 0 := h0
  have hR : Row64 N F := hR
  have hm : m ≤ 5000 := hm
  have hi : i ≤ m := hi
  subst h0
  refine T.all_of_eq (t_Qw N F K S H m (ixF n f k s h e) (wnN n f k s h i e N F K S H) (wnF n f k s h i e N F K S H) (i : Int)) ?_
  by_cases hlt : i < m
  · rw [add1p (j := i) (by omega), tnH]
    have hw := wn_len (n := n) (f := f) (k := k) (s := s) (h := h) (e := e) (N := N) (F := F) (K := K) (S := S) (H := H) i
    simp only [lk_eq]
    refine ⟨fun _ => ⟨⟨by omega, by omega⟩, hR, fun g => ⟨by show (_ + 1) * 8 ≤ 140737488351232; omega, ⟨n, f, k, s, h, m, e, N, F, K, S, H, i + 1⟩, ⟨⟨rfl, hR, hm⟩, hlt⟩, (show m - (i + 1) < m - i by omega), ?_, fun o ho => ho⟩, fun g => ⟨⟨n, f, k, s, h, m, e, N, F, K, S, H, i + 1⟩, ⟨⟨rfl, hR, hm⟩, hlt⟩, (show m - (i + 1) < m - i by omega), ?_, fun o ho => ho⟩⟩, fun g => absurd (U.lt_f.mp g) (by simp only [Int.ofNat_eq_natCast]; omega)⟩
    · have g : wnH n f k s h e N F K S H i = true := g
      have eL : wnL n f k s h (i + 1) e N F K S H = wnL n f k s h i e N F K S H ++ [wnP n f k s h e N F K S H i] := by rw [wnL_s, g]; rfl
      have eN : wnN n f k s h (i + 1) e N F K S H = wnN n f k s h i e N F K S H + 1 := by unfold wnN; rw [eL]; simp
      refine wk_of [none, none, some 2, some 3, some 6] rfl (Nat.zero_le _) (ren1z _) ⟨rl_any _, ⟨rfl, rfl⟩, ⟨rfl, rowRL fun _ _ => rfl⟩, ⟨rfl, rfl⟩, ⟨rfl, eN.symm, rfl⟩, rfl, rl_any _, rl_any _, trivial⟩
        ⟨⟨rfl, zeV_rl⟩, ⟨rfl, par_rl⟩, ⟨rfl, rfl, eN.symm, row1H fun j hj => ?_⟩, trivial⟩
      have hj : j < wnN n f k s h (i + 1) e N F K S H := hj
      rw [eN] at hj
      show U.cat _ (lF (wnL n f k s h i e N F K S H)) _ j = lF (wnL n f k s h (i + 1) e N F K S H) j
      rw [eL]
      exact cat_app hj
    · have g : wnH n f k s h e N F K S H i = false := g
      have eL : wnL n f k s h (i + 1) e N F K S H = wnL n f k s h i e N F K S H := by rw [wnL_s, g]; exact List.append_nil _
      have eN : wnN n f k s h (i + 1) e N F K S H = wnN n f k s h i e N F K S H := by unfold wnN; rw [eL]
      have eF : wnF n f k s h (i + 1) e N F K S H = wnF n f k s h i e N F K S H := by unfold wnF; rw [eL]
      show Wk _ _ _ _ (slQw m (ixF n f k s h e) (wnN n f k s h (i + 1) e N F K S H) ((i + 1 : Nat) : Int), memQw N F K S H (wnN n f k s h (i + 1) e N F K S H) (wnF n f k s h (i + 1) e N F K S H))
      rw [eN, eF]
      exact wk_of [none, none, some 2, some 3, some 4] rfl (Nat.zero_le _) (ren1z _) ⟨rl_any _, ⟨rfl, rfl⟩, ⟨rfl, rowRL fun _ _ => rfl⟩, ⟨rfl, rfl⟩, ⟨rfl, rfl, rfl⟩, rfl, rl_any _, rl_any _, trivial⟩
        ⟨⟨rfl, zeV_rl⟩, ⟨rfl, par_rl⟩, ⟨rfl, rfl, rfl, row1H fun _ _ => rfl⟩, trivial⟩
  · obtain rfl : i = m := by omega
    refine ⟨fun g => absurd (U.lt_t.mp g) (by simp only [Int.ofNat_eq_natCast]; omega), fun _ => ⟨_, rfl, ?_⟩⟩
    exact wk_of [none, none, some 2, some 3, some 4] rfl (Nat.zero_le _) (ren1z _) ⟨rl_any _, ⟨rfl, rfl⟩, rl_any _, ⟨rfl, rfl⟩, ⟨rfl, rfl, rfl⟩, rl_any _, rl_any _, rl_any _, trivial⟩
        ⟨⟨rfl, zeV_rl⟩, ⟨rfl, par_rl⟩, ⟨rfl, rfl, rfl, row1H fun _ _ => rfl⟩, trivial⟩
theorem loopQw : LoopOK P (loopOf P 9 15) (few 72 [2,4,6,9,11,12,13,14] gQw) :=
  loop_few (E := EJw) mixed EJw_ok loopsOK_none 72 [2,4,6,9,11,12,13,14] (X := XQw) gQw (fun _ x => VQw x) PhiQw (fun q => q.m - q.i) (fun _ x o => o = OQw x)
    (fun n0 st r hh => by
      unfold gQw at hh
      split at hh
      · rename_i n0 p0 q0 p2 q2 M L p3 q3 b z a1 a2 w0 x0 t0 w1 w2 zs t2 w3 N F K S H t3 w4 G t4
        split at hh
        · rename_i c m e z0
          obtain rfl := asSp_eq z0
          obtain ⟨hp, rfl, rfl, rfl, rfl, rfl, rfl, rfl, rfl, rfl, rfl, rfl, rfl, rfl⟩ := (T.is_ask hh).1
          obtain rfl := T.is_ret (T.is_ask hh).2
          rw [lk_eq] at hp
          obtain ⟨h0, hR, hm, rfl, rfl⟩ := hp
          subst h0
          refine ⟨⟨c.n, c.f, c.k, c.s, c.h, M, e, N, F, K, S, H, 0⟩, ⟨⟨rfl, hR, hm⟩, Nat.zero_le _⟩, ?_, fun o ho => by rw [ho]; simp only [lk_eq]; rfl⟩
          exact wk_of [none, none, some 2, some 3, some 4] rfl (Nat.zero_le _) (ren1z _) ⟨rl_any _, ⟨rfl, rfl⟩, ⟨rfl, rowRL fun _ _ => rfl⟩, ⟨rfl, rfl⟩, ⟨rfl, rfl, rfl⟩, rfl, rl_any _, rl_any _, trivial⟩
            ⟨⟨rfl, zeV_rl⟩, ⟨rfl, par_rl⟩, ⟨rfl, rfl, rfl, row1H fun j hj => absurd hj (Nat.not_lt_zero j)⟩, trivial⟩
        · exact hh.elim
      · exact hh.elim)
    roundQw
theorem lQw_ok : ∀ p ∈ lQw, LoopsOK P p.2 (bodyOf P p.1) := by
  intro p hp
  simp only [lQw, List.mem_singleton] at hp
  subst hp
  refine loopsOK_of (by kernel_rfl) fun k g hk => ?_
  simp only [List.mem_singleton, Prod.mk.injEq, LoopC.sum.injEq] at hk
  obtain ⟨rfl, rfl⟩ := hk
  exact loopQw
theorem QWithin_ok : ConOK P 9 c_SpWithin := con_cl (allOKL mixed kJw_ok lQw_ok) 10 9 fun args r hh => by
  unfold c_SpWithin at hh
  split at hh
  · rename_i n f k s h m e n1 f1 k1 s1 h1
    obtain ⟨hp, hp1⟩ := (T.is_ask hh).1
    obtain rfl := T.is_ret (T.is_ask hh).2
    refine T.all_of_eq (t_QWi n f k s h m e n1 f1 k1 s1 h1) ?_
    simp only [lk_eq]
    refine ⟨hp, fun g1 => cl_err (wnE_1 (U.ne_t.mp g1)) (U.ne_t.mp g1), fun g1 => ⟨hp1, fun g2 => cl_err (wnE_2 (U.ne_f.mp g1) (U.ne_t.mp g2)) (U.ne_t.mp g2), fun g2 => ⟨⟨hp, hp1⟩, fun g3 => cl_err (wnE_3 (U.ne_f.mp g1) (U.ne_f.mp g2) (U.ne_t.mp g3)) (U.ne_t.mp g3), fun g3 => ?_⟩⟩⟩
    have g1 := U.ne_f.mp g1
    have g2 := U.ne_f.mp g2
    have g3 := U.ne_f.mp g3
    obtain ⟨eN, eX⟩ := di_0 g3
    rw [eN, eX, eX, eX]
    have h64 := di_64 g3
    obtain ⟨hm, hv⟩ := sp_i64 g1
    refine ⟨h64, fun g4 => cl_err (wnE_4 g1 g2 g3) (U.ne_t.mp g4), fun g4 => ⟨⟨⟨rfl, h64, hm, by rw [g1, zn_0], rfl⟩, trivial, trivial, trivial, trivial, trivial, trivial, trivial, trivial, trivial, trivial, trivial, trivial, trivial⟩, ?_⟩⟩
    have e0 : wnE n f k s h m e n1 f1 k1 s1 h1 = 0 := (wnE_4 g1 g2 g3).symm.trans (U.ne_f.mp g4)
    rw [e0]
    exact ⟨⟨⟨rfl, sameRow_refl _ _⟩, .inl rfl, .inl rfl, .inl rfl, ⟨rfl, sameRow_refl _ _⟩, rfl⟩, .inl rfl, rfl⟩
  · exact hh.elim
theorem kJa_ok : ∀ p ∈ kJa, ConOK P p.1 p.2 := by
  intro p hp
  simp only [kJa, List.mem_cons, List.not_mem_nil, or_false] at hp
  rcases hp with rfl | rfl | rfl | rfl
  · exact SpQCheck_ok
  · exact eqDo_ok
  · exact has_ok
  · exact put_ok
noncomputable abbrev EJa : Env := ⟨P, conOf kJa, scall P (conOf kJa) noLoops 10⟩
theorem EJa_ok : EnvOK EJa := envOK (allOK mixed kJa_ok) 10
end Go.RX.Span

/- Sparse domains: the reference's merge: the walks. -/
set_option linter.unusedVariables false
set_option linter.unusedSimpArgs false
set_option maxRecDepth 100000
namespace Go.RX.Span
open Go Go.RX
attribute [local irreducible] sx conB

--%R < ↑(\w+)\b => < ((\1 : Nat) : Int)
--%R ↑(\w+) (=|≤) => ((\1 : Nat) : Int) \2
set_option maxRecDepth 100000 in
theorem t_M1 (kd : Int) (n : Nat) (f : Nat → R3) (k s h : Int) (m : Nat) (e : Nat → R1) (n1 : Nat) (f1 : Nat → R3) (k1 s1 h1 : Int) (m1 : Nat) (e1 : Nat → R1) (C : Nat) (G : Nat → R1) (i : Int) : (sx EJa [] 0 (loopOf P 38 11) (mkS 89 [2,3,4,6,10,11,12] (slM1 kd C i), memMe n f k s h m e n1 f1 k1 s1 h1 m1 e1 (some (.row false C [.int .i64] G 3)))).bind (proj 89 [2,3,4,6,10,11,12]) =
    T.br (U.lt i (Int.ofNat m)) (.ask ((0 : Int) ≤ i ∧ i < ((m : Nat) : Int)) (.ask (m1 ≤ (100000 : Nat)) (.br (U.eq kd (1 : Int)) (.ask ((0 : Int) ≤ i ∧ i < ((m : Nat) : Int)) (.ask
      ((C + (1 : Nat)) * nat_lit 8 ≤ nat_lit 140737488351232) (.ret (Ex.normal, [.lit (.int .i64 kd), SV.ptr (nat_lit 0) (nat_lit 0), SV.ptr (nat_lit 1) (nat_lit 0), SV.ptr (nat_lit 2)
      (nat_lit 0), SV.own false (nat_lit 5) (C.add (nat_lit 1)), .lit (.int .i64 (U.add .i64 i (1 : Int))), .lit (.bool (lk bsB m1 e1 (e (U.toNat i)).1))], [(nat_lit 0, some (Blk.cells
      [.row [.int .i64, .int .i64, .int .i64] n f, .lit (.int .i64 k), .lit (.int .i64 s), .lit (.int .i64 h), .row [.int .i64] m e] (nat_lit 29))), (nat_lit 0, some (Blk.cells [.row
      [.int .i64, .int .i64, .int .i64] n1 f1, .lit (.int .i64 k1), .lit (.int .i64 s1), .lit (.int .i64 h1), .row [.int .i64] m1 e1] (nat_lit 29))), (nat_lit 0, some (Blk.cells [.lit
      (.slice none (nat_lit 0) (nat_lit 0)), .lit (.int .i64 0), .lit (.int .i64 0), .lit (.int .i64 0), .lit (.slice none (nat_lit 0) (nat_lit 0))] (nat_lit 29))), (nat_lit 1, none),
      (nat_lit 0, some (Blk.cells [.lit (.int .i64 (e (U.toNat i)).1)] (nat_lit 3))), (nat_lit 0, some (Blk.row false (C.add (nat_lit 1)) [.int .i64] (U.cat C G fun x => ((e (U.toNat
      i)).1, PUnit.unit)) (nat_lit 3)))])))) (.br (U.beq (lk bsB m1 e1 (e (U.toNat i)).1) (U.eq kd (2 : Int))) (.ask ((0 : Int) ≤ i ∧ i < ((m : Nat) : Int)) (.ask ((C + (1 : Nat)) *
      nat_lit 8 ≤ nat_lit 140737488351232) (.ret (Ex.normal, [.lit (.int .i64 kd), SV.ptr (nat_lit 0) (nat_lit 0), SV.ptr (nat_lit 1) (nat_lit 0), SV.ptr (nat_lit 2) (nat_lit 0), SV.own
      false (nat_lit 5) (C.add (nat_lit 1)), .lit (.int .i64 (U.add .i64 i (1 : Int))), .lit (.bool (lk bsB m1 e1 (e (U.toNat i)).1))], [(nat_lit 0, some (Blk.cells [.row [.int .i64, .int
      .i64, .int .i64] n f, .lit (.int .i64 k), .lit (.int .i64 s), .lit (.int .i64 h), .row [.int .i64] m e] (nat_lit 29))), (nat_lit 0, some (Blk.cells [.row [.int .i64, .int .i64, .int
      .i64] n1 f1, .lit (.int .i64 k1), .lit (.int .i64 s1), .lit (.int .i64 h1), .row [.int .i64] m1 e1] (nat_lit 29))), (nat_lit 0, some (Blk.cells [.lit (.slice none (nat_lit 0)
      (nat_lit 0)), .lit (.int .i64 0), .lit (.int .i64 0), .lit (.int .i64 0), .lit (.slice none (nat_lit 0) (nat_lit 0))] (nat_lit 29))), (nat_lit 1, none), (nat_lit 0, some (Blk.cells
      [.lit (.int .i64 (e (U.toNat i)).1)] (nat_lit 3))), (nat_lit 0, some (Blk.row false (C.add (nat_lit 1)) [.int .i64] (U.cat C G fun x => ((e (U.toNat i)).1, PUnit.unit)) (nat_lit
      3)))])))) (.ret (Ex.normal, [.lit (.int .i64 kd), SV.ptr (nat_lit 0) (nat_lit 0), SV.ptr (nat_lit 1) (nat_lit 0), SV.ptr (nat_lit 2) (nat_lit 0), SV.own false (nat_lit 3) C, .lit
      (.int .i64 (U.add .i64 i (1 : Int))), .lit (.bool (lk bsB m1 e1 (e (U.toNat i)).1))], [(nat_lit 0, some (Blk.cells [.row [.int .i64, .int .i64, .int .i64] n f, .lit (.int .i64 k),
      .lit (.int .i64 s), .lit (.int .i64 h), .row [.int .i64] m e] (nat_lit 29))), (nat_lit 0, some (Blk.cells [.row [.int .i64, .int .i64, .int .i64] n1 f1, .lit (.int .i64 k1), .lit
      (.int .i64 s1), .lit (.int .i64 h1), .row [.int .i64] m1 e1] (nat_lit 29))), (nat_lit 0, some (Blk.cells [.lit (.slice none (nat_lit 0) (nat_lit 0)), .lit (.int .i64 0), .lit (.int
      .i64 0), .lit (.int .i64 0), .lit (.slice none (nat_lit 0) (nat_lit 0))] (nat_lit 29))), (nat_lit 0, some (Blk.row false C [.int .i64] G (nat_lit 3)))])))))) (.ret (Ex.exit (nat_lit
      0), [.lit (.int .i64 kd), SV.ptr (nat_lit 0) (nat_lit 0), SV.ptr (nat_lit 1) (nat_lit 0), SV.ptr (nat_lit 2) (nat_lit 0), SV.own false (nat_lit 3) C, .lit (.int .i64 i), SV.any],
      [(nat_lit 0, some (Blk.cells [.row [.int .i64, .int .i64, .int .i64] n f, .lit (.int .i64 k), .lit (.int .i64 s), .lit (.int .i64 h), .row [.int .i64] m e] (nat_lit 29))), (nat_lit
      0, some (Blk.cells [.row [.int .i64, .int .i64, .int .i64] n1 f1, .lit (.int .i64 k1), .lit (.int .i64 s1), .lit (.int .i64 h1), .row [.int .i64] m1 e1] (nat_lit 29))), (nat_lit 0,
      some (Blk.cells [.lit (.slice none (nat_lit 0) (nat_lit 0)), .lit (.int .i64 0), .lit (.int .i64 0), .lit (.int .i64 0), .lit (.slice none (nat_lit 0) (nat_lit 0))] (nat_lit 29))),
      (nat_lit 0, some (Blk.row false C [.int .i64] G (nat_lit 3)))])) := by kernel_rfl
set_option maxRecDepth 100000 in
theorem t_M2 (kd : Int) (n : Nat) (f : Nat → R3) (k s h : Int) (m : Nat) (e : Nat → R1) (n1 : Nat) (f1 : Nat → R3) (k1 s1 h1 : Int) (m1 : Nat) (e1 : Nat → R1) (C : Nat) (G : Nat → R1) (i : Int) : (sx EJa [] 0 (loopOf P 38 17) (mkS 89 [2,3,4,6,10,13] (slM2 kd (.own false 3 C) i), memMe n f k s h m e n1 f1 k1 s1 h1 m1 e1 (some (.row false C [.int .i64] G 3)))).bind (proj 89 [2,3,4,6,10,13]) =
    T.br (U.lt i (Int.ofNat m1)) (.br (U.eq kd (1 : Int)) (.ask ((0 : Int) ≤ i ∧ i < ((m1 : Nat) : Int)) (.ask (lk Sm C) (.ret (Ex.normal, [.lit (.int .i64 kd), SV.ptr (nat_lit 0)
      (nat_lit 0), SV.ptr (nat_lit 1) (nat_lit 0), SV.ptr (nat_lit 2) (nat_lit 0), .row [.int .i64] (lk puN C G (e1 (U.toNat i)).1) (lk puF C G (e1 (U.toNat i)).1), .lit (.int .i64 (U.add
      .i64 i (1 : Int)))], [(nat_lit 0, some (Blk.cells [.row [.int .i64, .int .i64, .int .i64] n f, .lit (.int .i64 k), .lit (.int .i64 s), .lit (.int .i64 h), .row [.int .i64] m e]
      (nat_lit 29))), (nat_lit 0, some (Blk.cells [.row [.int .i64, .int .i64, .int .i64] n1 f1, .lit (.int .i64 k1), .lit (.int .i64 s1), .lit (.int .i64 h1), .row [.int .i64] m1 e1]
      (nat_lit 29))), (nat_lit 0, some (Blk.cells [.lit (.slice none (nat_lit 0) (nat_lit 0)), .lit (.int .i64 0), .lit (.int .i64 0), .lit (.int .i64 0), .lit (.slice none (nat_lit 0)
      (nat_lit 0))] (nat_lit 29))), (nat_lit 1, none)])))) (.ret (Ex.exit (nat_lit 2), [.lit (.int .i64 kd), SV.ptr (nat_lit 0) (nat_lit 0), SV.ptr (nat_lit 1) (nat_lit 0), SV.ptr
      (nat_lit 2) (nat_lit 0), SV.own false (nat_lit 3) C, .lit (.int .i64 i)], [(nat_lit 0, some (Blk.cells [.row [.int .i64, .int .i64, .int .i64] n f, .lit (.int .i64 k), .lit (.int
      .i64 s), .lit (.int .i64 h), .row [.int .i64] m e] (nat_lit 29))), (nat_lit 0, some (Blk.cells [.row [.int .i64, .int .i64, .int .i64] n1 f1, .lit (.int .i64 k1), .lit (.int .i64
      s1), .lit (.int .i64 h1), .row [.int .i64] m1 e1] (nat_lit 29))), (nat_lit 0, some (Blk.cells [.lit (.slice none (nat_lit 0) (nat_lit 0)), .lit (.int .i64 0), .lit (.int .i64 0),
      .lit (.int .i64 0), .lit (.slice none (nat_lit 0) (nat_lit 0))] (nat_lit 29))), (nat_lit 0, some (Blk.row false C [.int .i64] G (nat_lit 3)))]))) (.ret (Ex.exit (nat_lit 2), [.lit
      (.int .i64 kd), SV.ptr (nat_lit 0) (nat_lit 0), SV.ptr (nat_lit 1) (nat_lit 0), SV.ptr (nat_lit 2) (nat_lit 0), SV.own false (nat_lit 3) C, .lit (.int .i64 i)], [(nat_lit 0, some
      (Blk.cells [.row [.int .i64, .int .i64, .int .i64] n f, .lit (.int .i64 k), .lit (.int .i64 s), .lit (.int .i64 h), .row [.int .i64] m e] (nat_lit 29))), (nat_lit 0, some (Blk.cells
      [.row [.int .i64, .int .i64, .int .i64] n1 f1, .lit (.int .i64 k1), .lit (.int .i64 s1), .lit (.int .i64 h1), .row [.int .i64] m1 e1] (nat_lit 29))), (nat_lit 0, some (Blk.cells
      [.lit (.slice none (nat_lit 0) (nat_lit 0)), .lit (.int .i64 0), .lit (.int .i64 0), .lit (.int .i64 0), .lit (.slice none (nat_lit 0) (nat_lit 0))] (nat_lit 29))), (nat_lit 0, some
      (Blk.row false C [.int .i64] G (nat_lit 3)))])) := by kernel_rfl
set_option maxRecDepth 100000 in
theorem t_M3 (kd : Int) (n : Nat) (f : Nat → R3) (k s h : Int) (m : Nat) (e : Nat → R1) (n1 : Nat) (f1 : Nat → R3) (k1 s1 h1 : Int) (m1 : Nat) (e1 : Nat → R1) (C : Nat) (G : Nat → R1) (i : Int) : (sx EJa [] 0 (loopOf P 38 17) (mkS 89 [2,3,4,6,10,13] (slM2 kd (.row [.int .i64] C G) i), memMe n f k s h m e n1 f1 k1 s1 h1 m1 e1 none)).bind (proj 89 [2,3,4,6,10,13]) =
    T.br (U.lt i (Int.ofNat m1)) (.br (U.eq kd (1 : Int)) (.ask ((0 : Int) ≤ i ∧ i < ((m1 : Nat) : Int)) (.ask (lk Sm C) (.ret (Ex.normal, [.lit (.int .i64 kd), SV.ptr (nat_lit 0)
      (nat_lit 0), SV.ptr (nat_lit 1) (nat_lit 0), SV.ptr (nat_lit 2) (nat_lit 0), .row [.int .i64] (lk puN C G (e1 (U.toNat i)).1) (lk puF C G (e1 (U.toNat i)).1), .lit (.int .i64 (U.add
      .i64 i (1 : Int)))], [(nat_lit 0, some (Blk.cells [.row [.int .i64, .int .i64, .int .i64] n f, .lit (.int .i64 k), .lit (.int .i64 s), .lit (.int .i64 h), .row [.int .i64] m e]
      (nat_lit 29))), (nat_lit 0, some (Blk.cells [.row [.int .i64, .int .i64, .int .i64] n1 f1, .lit (.int .i64 k1), .lit (.int .i64 s1), .lit (.int .i64 h1), .row [.int .i64] m1 e1]
      (nat_lit 29))), (nat_lit 0, some (Blk.cells [.lit (.slice none (nat_lit 0) (nat_lit 0)), .lit (.int .i64 0), .lit (.int .i64 0), .lit (.int .i64 0), .lit (.slice none (nat_lit 0)
      (nat_lit 0))] (nat_lit 29))), (nat_lit 0, none)])))) (.ret (Ex.exit (nat_lit 2), [.lit (.int .i64 kd), SV.ptr (nat_lit 0) (nat_lit 0), SV.ptr (nat_lit 1) (nat_lit 0), SV.ptr
      (nat_lit 2) (nat_lit 0), .row [.int .i64] C G, .lit (.int .i64 i)], [(nat_lit 0, some (Blk.cells [.row [.int .i64, .int .i64, .int .i64] n f, .lit (.int .i64 k), .lit (.int .i64 s),
      .lit (.int .i64 h), .row [.int .i64] m e] (nat_lit 29))), (nat_lit 0, some (Blk.cells [.row [.int .i64, .int .i64, .int .i64] n1 f1, .lit (.int .i64 k1), .lit (.int .i64 s1), .lit
      (.int .i64 h1), .row [.int .i64] m1 e1] (nat_lit 29))), (nat_lit 0, some (Blk.cells [.lit (.slice none (nat_lit 0) (nat_lit 0)), .lit (.int .i64 0), .lit (.int .i64 0), .lit (.int
      .i64 0), .lit (.slice none (nat_lit 0) (nat_lit 0))] (nat_lit 29))), (nat_lit 0, none)]))) (.ret (Ex.exit (nat_lit 2), [.lit (.int .i64 kd), SV.ptr (nat_lit 0) (nat_lit 0), SV.ptr
      (nat_lit 1) (nat_lit 0), SV.ptr (nat_lit 2) (nat_lit 0), .row [.int .i64] C G, .lit (.int .i64 i)], [(nat_lit 0, some (Blk.cells [.row [.int .i64, .int .i64, .int .i64] n f, .lit
      (.int .i64 k), .lit (.int .i64 s), .lit (.int .i64 h), .row [.int .i64] m e] (nat_lit 29))), (nat_lit 0, some (Blk.cells [.row [.int .i64, .int .i64, .int .i64] n1 f1, .lit (.int
      .i64 k1), .lit (.int .i64 s1), .lit (.int .i64 h1), .row [.int .i64] m1 e1] (nat_lit 29))), (nat_lit 0, some (Blk.cells [.lit (.slice none (nat_lit 0) (nat_lit 0)), .lit (.int .i64
      0), .lit (.int .i64 0), .lit (.int .i64 0), .lit (.slice none (nat_lit 0) (nat_lit 0))] (nat_lit 29))), (nat_lit 0, none)])) := by kernel_rfl
set_option maxRecDepth 100000 in
theorem t_merge (kd : Int) (n : Nat) (f : Nat → R3) (k s h : Int) (m : Nat) (e : Nat → R1) (n1 : Nat) (f1 : Nat → R3) (k1 s1 h1 : Int) (m1 : Nat) (e1 : Nat → R1) : conB Go.Proofs.Tryz.prog (conOf kJa) (loopsOf lMe) 10 38 [.agg [.row [.int .i64, .int .i64, .int .i64] n f, .lit (.int .i64 k), .lit (.int .i64 s), .lit (.int .i64 h), .row [.int .i64] m e], .agg [.row [.int .i64, .int .i64, .int .i64] n1 f1, .lit (.int .i64 k1), .lit (.int .i64 s1), .lit (.int .i64 h1), .row [.int .i64] m1 e1], .lit (.int .i64 kd)] =
    T.ask (Row64 n f) (.br (U.ne (lk spE n f k s h m e) (0 : Int)) (.ret (.tup [.agg [.lit (.slice none (nat_lit 0) (nat_lit 0)), .lit (.int .i64 0), .lit (.int .i64 0), .lit (.int .i64
      0), .lit (.slice none (nat_lit 0) (nat_lit 0))], .lit (.int .i64 (lk spE n f k s h m e))])) (.ask (Row64 n1 f1) (.br (U.ne (lk spE n1 f1 k1 s1 h1 m1 e1) (0 : Int)) (.ret (.tup [.agg
      [.lit (.slice none (nat_lit 0) (nat_lit 0)), .lit (.int .i64 0), .lit (.int .i64 0), .lit (.int .i64 0), .lit (.slice none (nat_lit 0) (nat_lit 0))], .lit (.int .i64 (lk spE n1 f1
      k1 s1 h1 m1 e1))])) (.ask (n ≤ (100000 : Nat)) (.br (U.not (lk eqDo n f k s h n1 f1 k1 s1 h1)) (.ret (.tup [.agg [.lit (.slice none (nat_lit 0) (nat_lit 0)), .lit (.int .i64 0),
      .lit (.int .i64 0), .lit (.int .i64 0), .lit (.slice none (nat_lit 0) (nat_lit 0))], .lit (.int .i64 50)])) (.ask (lk PreMe m m1 (nat_lit 0) ∧ (0 : Nat) = (0 : Nat) ∧ (0 : Nat) = (0
      : Nat) ∧ (1 : Nat) = (1 : Nat) ∧ (0 : Nat) = (0 : Nat) ∧ (2 : Nat) = (2 : Nat) ∧ (0 : Nat) = (0 : Nat) ∧ (3 : Nat) = (3 : Nat) ∧ (0 : Int) = (0 : Int) ∧ (29 : Nat) = (29 : TypeId) ∧
      (29 : Nat) = (29 : TypeId) ∧ [.lit (.slice none (0 : Nat) (0 : Nat)), .lit (.int .i64 0), .lit (.int .i64 0), .lit (.int .i64 0), .lit (.slice none (0 : Nat) (0 : Nat))] = zeV ∧ (29
      : Nat) = (29 : TypeId) ∧ (3 : Nat) = (3 : TypeId)) (.ask (lk PreMe m m1 (nat_lit 0) ∧ (0 : Nat) = (0 : Nat) ∧ (0 : Nat) = (0 : Nat) ∧ (1 : Nat) = (1 : Nat) ∧ (0 : Nat) = (0 : Nat) ∧
      (2 : Nat) = (2 : Nat) ∧ (0 : Nat) = (0 : Nat) ∧ (3 : Nat) = (3 : Nat) ∧ (0 : Int) = (0 : Int) ∧ (29 : TypeId) = (29 : TypeId) ∧ (29 : TypeId) = (29 : TypeId) ∧ [.lit (.slice none (0
      : Nat) (0 : Nat)), .lit (.int .i64 0), .lit (.int .i64 0), .lit (.int .i64 0), .lit (.slice none (0 : Nat) (0 : Nat))] = zeV ∧ (29 : TypeId) = (29 : TypeId) ∧ (3 : TypeId) = (3 :
      TypeId) ∧ lk m1N kd m e m1 e1 = lk m1N kd m e m1 e1 ∧ lk m1N kd m e m1 e1 = lk m1N kd m e m1 e1 ∧ lk m1F kd m e m1 e1 = lk m1F kd m e m1 e1) (.br (U.andb (U.eq kd (1 : Int)) (U.not
      (U.isz m1))) (.br (U.gt (Int.ofNat (lk m2N m e m1 e1)) (5000 : Int)) (.ret (.tup [.agg [.lit (.slice none (nat_lit 0) (nat_lit 0)), .lit (.int .i64 0), .lit (.int .i64 0), .lit
      (.int .i64 0), .lit (.slice none (nat_lit 0) (nat_lit 0))], .lit (.int .i64 5)])) (.ret (.tup [.agg [.row [.int .i64, .int .i64, .int .i64] n f, .lit (.int .i64 k), .lit (.int .i64
      s), .lit (.int .i64 h), .row [.int .i64] (lk m2N m e m1 e1) (lk m2F m e m1 e1)], .lit (.int .i64 0)]))) (.br (U.gt (Int.ofNat (lk m1N kd m e m1 e1)) (5000 : Int)) (.ret (.tup [.agg
      [.lit (.slice none (nat_lit 0) (nat_lit 0)), .lit (.int .i64 0), .lit (.int .i64 0), .lit (.int .i64 0), .lit (.slice none (nat_lit 0) (nat_lit 0))], .lit (.int .i64 5)])) (.ret
      (.tup [.agg [.row [.int .i64, .int .i64, .int .i64] n f, .lit (.int .i64 k), .lit (.int .i64 s), .lit (.int .i64 h), .row [.int .i64] (lk m1N kd m e m1 e1) (lk m1F kd m e m1 e1)],
      .lit (.int .i64 0)]))))))))))) := by kernel_rfl
end Go.RX.Span

/- Sparse domains: the reference's merge. -/
set_option linter.unusedVariables false
set_option linter.unusedSimpArgs false
set_option maxRecDepth 100000
namespace Go.RX.Span
open Go Go.RX
attribute [local irreducible] sx conB

/-! Plain. -/
/-- The number of the code's function for a kind. -/
def gK (kd : Int) : Nat := if kd = 1 then 37 else if kd = 2 then 39 else 40
def KD (kd : Int) : Prop := kd = 1 ∨ kd = 2 ∨ kd = 3
theorem bs_mem {m : Nat} {e : Nat → R1} {x : Int} : bsB m e x = decide (x ∈ nl m e) := by
  unfold bsB
  exact decide_eq_decide.2 mem_nl.symm
theorem ofL_asc {l : List Int} (h : Asc l) : ofL l = l := asc_eq (asc_ofL l) h fun _ => mem_ofL l
theorem m1L_s (kd : Int) (i : Nat) (e : Nat → R1) (m1 : Nat) (e1 : Nat → R1) : m1L kd (i + 1) e m1 e1 = m1L kd i e m1 e1 ++ opt (mrK kd (bsB m1 e1 (nv e i))) (nv e i) := by
  unfold m1L opt
  rw [nl_s, List.filter_append]
  congr 1
  cases hb : mrK kd (bsB m1 e1 (nv e i)) <;> simp [hb]
theorem m1_len (kd : Int) (i : Nat) (e : Nat → R1) (m1 : Nat) (e1 : Nat → R1) : m1N kd i e m1 e1 ≤ i := by
  have := List.length_filter_le (fun x => mrK kd (bsB m1 e1 x)) (nl i e)
  rw [nl_len] at this
  exact this
theorem m1L_1 (m : Nat) (e : Nat → R1) (m1 : Nat) (e1 : Nat → R1) : m1L 1 m e m1 e1 = nl m e := List.filter_eq_self.2 fun x _ => rfl
theorem m2L_s (m : Nat) (e : Nat → R1) (i : Nat) (e1 : Nat → R1) : m2L m e (i + 1) e1 = putI (m2L m e i e1) (nv e1 i) := by
  unfold m2L
  rw [nl_s, List.foldl_append]; rfl
theorem putI_le (x : Int) (l : List Int) : (putI l x).length ≤ l.length + 1 := by
  induction l with
  | nil => exact Nat.le_refl _
  | cons y l ih =>
    unfold putI
    split
    · simp only [List.length_cons]; omega
    · split <;> simp
theorem m2_len (m : Nat) (e : Nat → R1) (i : Nat) (e1 : Nat → R1) : m2N m e i e1 ≤ m + i := by
  induction i with
  | zero => exact Nat.le_of_eq (nl_len m e)
  | succ i ih =>
    have : m2N m e (i + 1) e1 = (putI (m2L m e i e1) (nv e1 i)).length := by unfold m2N; rw [m2L_s]
    have h2 := putI_le (nv e1 i) (m2L m e i e1)
    have h3 : (m2L m e i e1).length ≤ m + i := ih
    omega
section
variable {m : Nat} {e : Nat → R1} {m1 : Nat} {e1 : Nat → R1}
theorem m2_mg (ha : Asc (nl m e)) : m2L m e m1 e1 = mgL (tkG 37) (nl m e) (nl m1 e1) := by
  have hk : mgL (tkG 37) (nl m e) (nl m1 e1) = ofL (nl m e ++ nl m1 e1) := List.filter_eq_self.2 fun x _ => rfl
  rw [hk]
  have : ofL (nl m e ++ nl m1 e1) = (nl m1 e1).foldl putI (ofL (nl m e)) := by unfold ofL; rw [List.foldl_append]
  rw [this, ofL_asc ha]; rfl
theorem m1_mg {kd : Int} (hk : kd = 2 ∨ kd = 3) (ha : Asc (nl m e)) : m1L kd m e m1 e1 = mgL (tkG (gK kd)) (nl m e) (nl m1 e1) := by
  refine asc_eq (asc_filter _ ha) (mg_asc _ _ _) fun x => ?_
  rw [mem_mg]
  unfold m1L
  rw [List.mem_filter, bs_mem]
  rcases hk with rfl | rfl
  · show (_ ∧ (decide ((2 : Int) = 1) || (decide (x ∈ nl m1 e1) == decide ((2 : Int) = 2))) = true) ↔ (_ ∧ (decide (x ∈ nl m e) && decide (x ∈ nl m1 e1)) = true)
    by_cases h1 : x ∈ nl m e <;> by_cases h2 : x ∈ nl m1 e1 <;> simp [h1, h2]
  · show (_ ∧ (decide ((3 : Int) = 1) || (decide (x ∈ nl m1 e1) == decide ((3 : Int) = 2))) = true) ↔ (_ ∧ (!decide (x ∈ nl m1 e1)) = true)
    by_cases h1 : x ∈ nl m e <;> by_cases h2 : x ∈ nl m1 e1 <;> simp [h1, h2]
end
/-! The first loop. -/
structure XM1 where
  (kd : Int) (c : C7) (m : Nat) (e : Nat → R1) (d : C7) (m1 : Nat) (e1 : Nat → R1) (i : Nat)
noncomputable abbrev VM1 (q : XM1) : Few := (slM1 q.kd (m1N q.kd q.i q.e q.m1 q.e1) q.i, memMe q.c.n q.c.f q.c.k q.c.s q.c.h q.m q.e q.d.n q.d.f q.d.k q.d.s q.d.h q.m1 q.e1 (some (.row false (m1N q.kd q.i q.e q.m1 q.e1) [.int .i64] (m1F q.kd q.i q.e q.m1 q.e1) 3)))
noncomputable def OM1 (q : XM1) : Ex × Few := (.exit 0, ([.lit (.int .i64 q.kd), .ptr 0 0, .ptr 1 0, .ptr 2 0, .own false 3 (m1N q.kd q.m q.e q.m1 q.e1), .any, .any], memMe q.c.n q.c.f q.c.k q.c.s q.c.h q.m q.e q.d.n q.d.f q.d.k q.d.s q.d.h q.m1 q.e1 (some (.row false (m1N q.kd q.m q.e q.m1 q.e1) [.int .i64] (m1F q.kd q.m q.e q.m1 q.e1) 3))))
def PhiM1 (n0 : Nat) (q : XM1) : Prop := PreMe q.m q.m1 n0 ∧ q.i ≤ q.m
theorem mr_t {kd : Int} (h : kd ≠ 1) {b r : Bool} (g : U.beq b (U.eq kd 2) = r) : mrK kd b = r := by
  rw [← g, U.beq_eq]
  unfold mrK
  rw [decide_eq_false h, Bool.false_or]
  congr 1
  by_cases e : kd = 2
  · rw [decide_eq_true e, U.eq_t.mpr e]
  · rw [decide_eq_false e, U.eq_f.mpr e]
section
variable {kd : Int} {c : C7} {m : Nat} {e : Nat → R1} {d : C7} {m1 : Nat} {e1 : Nat → R1} {i : Nat}
theorem wM1y (g : mrK kd (bsB m1 e1 (nv e i)) = true) {w : SV} {cc : Blk} : Wk 89 [2,3,4,6,10,11,12] 0 ([.lit (.int .i64 kd), .ptr 0 0, .ptr 1 0, .ptr 2 0, .own false 5 (m1N kd i e m1 e1 + 1), .lit (.int .i64 ((i + 1 : Nat) : Int)), w], [(0, some (bxIn c.n c.f c.k c.s c.h m e 29)), (0, some (bxIn d.n d.f d.k d.s d.h m1 e1 29)), (0, some (.cells zeV 29)), (1, none), (0, some cc), (0, some (.row false (m1N kd i e m1 e1 + 1) [.int .i64] (U.cat (m1N kd i e m1 e1) (m1F kd i e m1 e1) fun _ => (((e i).1, ()) : R1)) 3))]) (VM1 ⟨kd, c, m, e, d, m1, e1, i + 1⟩) := by
  have eL : m1L kd (i + 1) e m1 e1 = m1L kd i e m1 e1 ++ [nv e i] := by rw [m1L_s, g]; rfl
  have eN : m1N kd (i + 1) e m1 e1 = m1N kd i e m1 e1 + 1 := by unfold m1N; rw [eL]; simp
  refine wk_of [some 0, some 1, some 2, some 5] rfl (Nat.zero_le _) (ren1z _) ⟨rfl, ⟨rfl, rfl⟩, ⟨rfl, rfl⟩, ⟨rfl, rfl⟩, ⟨rfl, eN.symm, rfl⟩, rfl, rl_any _, trivial⟩
    ⟨⟨rfl, bx_rl⟩, ⟨rfl, bx_rl⟩, ⟨rfl, zeV_rl⟩, ⟨rfl, rfl, eN.symm, row1H fun j hj => ?_⟩, trivial⟩
  have hj : j < m1N kd (i + 1) e m1 e1 := hj
  rw [eN] at hj
  show U.cat _ (lF (m1L kd i e m1 e1)) _ j = lF (m1L kd (i + 1) e m1 e1) j
  rw [eL]
  exact cat_app hj
theorem wM1n (g : mrK kd (bsB m1 e1 (nv e i)) = false) {w : SV} : Wk 89 [2,3,4,6,10,11,12] 0 ([.lit (.int .i64 kd), .ptr 0 0, .ptr 1 0, .ptr 2 0, .own false 3 (m1N kd i e m1 e1), .lit (.int .i64 ((i + 1 : Nat) : Int)), w], [(0, some (bxIn c.n c.f c.k c.s c.h m e 29)), (0, some (bxIn d.n d.f d.k d.s d.h m1 e1 29)), (0, some (.cells zeV 29)), (0, some (.row false (m1N kd i e m1 e1) [.int .i64] (m1F kd i e m1 e1) 3))]) (VM1 ⟨kd, c, m, e, d, m1, e1, i + 1⟩) := by
  have eL : m1L kd (i + 1) e m1 e1 = m1L kd i e m1 e1 := by rw [m1L_s, g]; exact List.append_nil _
  have eN : m1N kd (i + 1) e m1 e1 = m1N kd i e m1 e1 := by unfold m1N; rw [eL]
  have eF : m1F kd (i + 1) e m1 e1 = m1F kd i e m1 e1 := by unfold m1F; rw [eL]
  show Wk _ _ _ _ (slM1 kd (m1N kd (i + 1) e m1 e1) ((i + 1 : Nat) : Int), memMe c.n c.f c.k c.s c.h m e d.n d.f d.k d.s d.h m1 e1 (some (.row false (m1N kd (i + 1) e m1 e1) [.int .i64] (m1F kd (i + 1) e m1 e1) 3)))
  rw [eN, eF]
  exact wk_of [some 0, some 1, some 2, some 3] rfl (Nat.zero_le _) (ren1z _) ⟨rfl, ⟨rfl, rfl⟩, ⟨rfl, rfl⟩, ⟨rfl, rfl⟩, ⟨rfl, rfl, rfl⟩, rfl, rl_any _, trivial⟩
    ⟨⟨rfl, bx_rl⟩, ⟨rfl, bx_rl⟩, ⟨rfl, zeV_rl⟩, ⟨rfl, rfl, rfl, row1H fun _ _ => rfl⟩, trivial⟩
end
theorem roundM1 (n0 : Nat) (q : XM1) (hq : PhiM1 n0 q) : ((sx EJa [] n0 (loopOf P 38 11) (mkS 89 [2,3,4,6,10,11,12] (VM1 q).1, (VM1 q).2)).bind (proj 89 [2,3,4,6,10,11,12])).All fun r => match r.1 with
      | .normal => ∃ q', PhiM1 n0 q' ∧ q'.m - q'.i < q.m - q.i ∧ Wk 89 [2,3,4,6,10,11,12] n0 r.2 (VM1 q') ∧ ∀ o, o = OM1 q' → o = OM1 q
      | e => ∃ s, (e, s) = OM1 q ∧ Wk 89 [2,3,4,6,10,11,12] n0 r.2 s := by
  obtain ⟨kd, c, m, e, d, m1, e1, i⟩ := q
  obtain ⟨⟨h0, hm, hm1⟩, hi⟩ := hq
  have h0 : n0 = 0 := h0
  have hm : m ≤ 5000 := hm
  have hm1 : m1 ≤ 5000 := hm1
  have hi : i ≤ m := hi
  subst h0
  refine T.all_of_eq (t_M1 kd c.n c.f c.k c.s c.h m e d.n d.f d.k d.s d.h m1 e1 (m1N kd i e m1 e1) (m1F kd i e m1 e1) (i : Int)) ?_
  by_cases hlt : i < m
  · rw [add1p (j := i) (by omega), tnH]
    have hw := m1_len kd i e m1 e1
    simp only [lk_eq]
    refine ⟨fun _ => ⟨⟨by omega, by omega⟩, by omega, fun g => ?_, fun g => ⟨fun g2 => ?_, fun g2 => ?_⟩⟩, fun g => absurd (U.lt_f.mp g) (by simp only [Int.ofNat_eq_natCast]; omega)⟩
    · have g := U.eq_t.mp g
      exact ⟨⟨by omega, by omega⟩, by show (_ + 1) * 8 ≤ 140737488351232; omega, ⟨kd, c, m, e, d, m1, e1, i + 1⟩, ⟨⟨rfl, hm, hm1⟩, hlt⟩, (show m - (i + 1) < m - i by omega), wM1y (by rw [g]; rfl), fun o ho => ho⟩
    · have g2 := mr_t (U.eq_f.mp g) g2
      exact ⟨⟨by omega, by omega⟩, by show (_ + 1) * 8 ≤ 140737488351232; omega, ⟨kd, c, m, e, d, m1, e1, i + 1⟩, ⟨⟨rfl, hm, hm1⟩, hlt⟩, (show m - (i + 1) < m - i by omega), wM1y g2, fun o ho => ho⟩
    · have g2 := mr_t (U.eq_f.mp g) g2
      exact ⟨⟨kd, c, m, e, d, m1, e1, i + 1⟩, ⟨⟨rfl, hm, hm1⟩, hlt⟩, (show m - (i + 1) < m - i by omega), wM1n g2, fun o ho => ho⟩
  · obtain rfl : i = m := by omega
    refine ⟨fun g => absurd (U.lt_t.mp g) (by simp only [Int.ofNat_eq_natCast]; omega), fun _ => ⟨_, rfl, ?_⟩⟩
    exact wk_of [some 0, some 1, some 2, some 3] rfl (Nat.zero_le _) (ren1z _) ⟨rfl, ⟨rfl, rfl⟩, ⟨rfl, rfl⟩, ⟨rfl, rfl⟩, ⟨rfl, rfl, rfl⟩, rl_any _, rl_any _, trivial⟩ ⟨⟨rfl, bx_rl⟩, ⟨rfl, bx_rl⟩, ⟨rfl, zeV_rl⟩, ⟨rfl, rfl, rfl, row1H fun _ _ => rfl⟩, trivial⟩
theorem loopM1 : LoopOK P (loopOf P 38 11) (few 89 [2,3,4,6,10,11,12] gM1) :=
  loop_few (E := EJa) mixed EJa_ok loopsOK_none 89 [2,3,4,6,10,11,12] (X := XM1) gM1 (fun _ x => VM1 x) PhiM1 (fun q => q.m - q.i) (fun _ x o => o = OM1 x)
    (fun n0 st r hh => by
      unfold gM1 at hh
      split at hh
      · rename_i n0 kd p0 q0 p1 q1 p2 q2 b z a1 w0 x0 t0 w1 x1 t1 w2 zs t2 w3 G t3
        split at hh
        · rename_i c m e d m1 e1 z0 z1
          obtain rfl := asSp_eq z0
          obtain rfl := asSp_eq z1
          obtain ⟨hp, rfl, rfl, rfl, rfl, rfl, rfl, rfl, rfl, rfl, rfl, rfl, rfl, rfl⟩ := (T.is_ask hh).1
          obtain rfl := T.is_ret (T.is_ask hh).2
          rw [lk_eq] at hp
          have h0 := hp.1
          subst h0
          refine ⟨⟨kd, c, m, e, d, m1, e1, 0⟩, ⟨hp, Nat.zero_le _⟩, ?_, fun o ho => by rw [ho]; simp only [lk_eq]; rfl⟩
          exact wk_of [some 0, some 1, some 2, some 3] rfl (Nat.zero_le _) (ren1z _) ⟨rfl, ⟨rfl, rfl⟩, ⟨rfl, rfl⟩, ⟨rfl, rfl⟩, ⟨rfl, rfl, rfl⟩, rfl, rl_any _, trivial⟩ ⟨⟨rfl, bx_rl⟩, ⟨rfl, bx_rl⟩, ⟨rfl, zeV_rl⟩, ⟨rfl, rfl, rfl, row1H fun j hj => absurd hj (Nat.not_lt_zero j)⟩, trivial⟩
        · exact hh.elim
      · exact hh.elim)
    roundM1
/-! The second loop. -/
structure XM2 where
  (kd : Int) (c : C7) (m : Nat) (e : Nat → R1) (d : C7) (m1 : Nat) (e1 : Nat → R1) (i : Nat)
noncomputable abbrev vM2 (kd : Int) (c : C7) (m : Nat) (e : Nat → R1) (d : C7) (m1 : Nat) (e1 : Nat → R1) : Nat → Few
  | 0 => (slM2 kd (.own false 3 (m1N kd m e m1 e1)) 0, memMe c.n c.f c.k c.s c.h m e d.n d.f d.k d.s d.h m1 e1 (some (.row false (m1N kd m e m1 e1) [.int .i64] (m1F kd m e m1 e1) 3)))
  | i + 1 => (slM2 kd (.row [.int .i64] (m2N m e (i + 1) e1) (m2F m e (i + 1) e1)) ((i + 1 : Nat) : Int), memMe c.n c.f c.k c.s c.h m e d.n d.f d.k d.s d.h m1 e1 none)
noncomputable abbrev VM2 (q : XM2) : Few := vM2 q.kd q.c q.m q.e q.d q.m1 q.e1 q.i
/-- Where the loop ends. -/
def enI (kd : Int) (m1 : Nat) : Nat := if kd = 1 then m1 else 0
noncomputable def OM2 (q : XM2) : Ex × Few := (.exit 2, vM2 q.kd q.c q.m q.e q.d q.m1 q.e1 (enI q.kd q.m1))
def PhiM2 (n0 : Nat) (q : XM2) : Prop := PreMe q.m q.m1 n0 ∧ q.i ≤ enI q.kd q.m1
theorem put_1 {kd : Int} (hk : kd = 1) {m : Nat} {e : Nat → R1} {m1 : Nat} {e1 : Nat → R1} : puN (m1N kd m e m1 e1) (m1F kd m e m1 e1) (nv e1 0) = m2N m e 1 e1 ∧ puF (m1N kd m e m1 e1) (m1F kd m e m1 e1) (nv e1 0) = m2F m e 1 e1 := by
  subst hk
  have e : puL (m1N 1 m e m1 e1) (m1F 1 m e m1 e1) (nv e1 0) = m2L m e 1 e1 := by
    unfold puL m1N m1F
    rw [nl_lF, m1L_1, m2L_s]; rfl
  exact ⟨by unfold puN; rw [e]; rfl, by unfold puF; rw [e]; rfl⟩
theorem put_s {m : Nat} {e : Nat → R1} {i : Nat} {e1 : Nat → R1} : puN (m2N m e i e1) (m2F m e i e1) (nv e1 i) = m2N m e (i + 1) e1 ∧ puF (m2N m e i e1) (m2F m e i e1) (nv e1 i) = m2F m e (i + 1) e1 := by
  have e : puL (m2N m e i e1) (m2F m e i e1) (nv e1 i) = m2L m e (i + 1) e1 := by
    unfold puL m2N m2F
    rw [nl_lF, m2L_s]
  exact ⟨by unfold puN; rw [e]; rfl, by unfold puF; rw [e]; rfl⟩
theorem roundM2 (n0 : Nat) (q : XM2) (hq : PhiM2 n0 q) : ((sx EJa [] n0 (loopOf P 38 17) (mkS 89 [2,3,4,6,10,13] (VM2 q).1, (VM2 q).2)).bind (proj 89 [2,3,4,6,10,13])).All fun r => match r.1 with
      | .normal => ∃ q', PhiM2 n0 q' ∧ enI q'.kd q'.m1 - q'.i < enI q.kd q.m1 - q.i ∧ Wk 89 [2,3,4,6,10,13] n0 r.2 (VM2 q') ∧ ∀ o, o = OM2 q' → o = OM2 q
      | e => ∃ s, (e, s) = OM2 q ∧ Wk 89 [2,3,4,6,10,13] n0 r.2 s := by
  obtain ⟨kd, c, m, e, d, m1, e1, i⟩ := q
  obtain ⟨⟨h0, hm, hm1⟩, hi⟩ := hq
  have h0 : n0 = 0 := h0
  have hm : m ≤ 5000 := hm
  have hm1 : m1 ≤ 5000 := hm1
  have hi : i ≤ enI kd m1 := hi
  subst h0
  have w0 : Wk 89 [2,3,4,6,10,13] 0 (vM2 kd c m e d m1 e1 i) (vM2 kd c m e d m1 e1 i) := by
    cases i with
    | zero => exact wk_of [some 0, some 1, some 2, some 3] rfl (Nat.zero_le _) (ren1z _) ⟨rfl, ⟨rfl, rfl⟩, ⟨rfl, rfl⟩, ⟨rfl, rfl⟩, ⟨rfl, rfl, rfl⟩, rfl, trivial⟩ ⟨⟨rfl, bx_rl⟩, ⟨rfl, bx_rl⟩, ⟨rfl, zeV_rl⟩, ⟨rfl, rfl, rfl, row1H fun _ _ => rfl⟩, trivial⟩
    | succ i => exact wk_of [some 0, some 1, some 2, none] rfl (Nat.zero_le _) (ren1z _) ⟨rfl, ⟨rfl, rfl⟩, ⟨rfl, rfl⟩, ⟨rfl, rfl⟩, ⟨rfl, row1H fun _ _ => rfl⟩, rfl, trivial⟩ ⟨⟨rfl, bx_rl⟩, ⟨rfl, bx_rl⟩, ⟨rfl, zeV_rl⟩, trivial⟩
  have fin : i = enI kd m1 → ∃ s, ((Ex.exit 2, s) : Ex × Few) = OM2 ⟨kd, c, m, e, d, m1, e1, i⟩ ∧ Wk 89 [2,3,4,6,10,13] 0 (vM2 kd c m e d m1 e1 i) s := fun he => ⟨_, rfl, by show Wk _ _ _ _ (vM2 kd c m e d m1 e1 (enI kd m1)); rw [← he]; exact w0⟩
  have wnext : ∀ N F, N = m2N m e (i + 1) e1 → F = m2F m e (i + 1) e1 → ∀ g : Nat, Wk 89 [2,3,4,6,10,13] 0 ([.lit (.int .i64 kd), .ptr 0 0, .ptr 1 0, .ptr 2 0, .row [.int .i64] N F, .lit (.int .i64 ((i + 1 : Nat) : Int))], [(0, some (bxIn c.n c.f c.k c.s c.h m e 29)), (0, some (bxIn d.n d.f d.k d.s d.h m1 e1 29)), (0, some (.cells zeV 29)), (g, none)]) (vM2 kd c m e d m1 e1 (i + 1)) := fun N F eN eF g => by
    subst eN; subst eF
    exact wk_of [some 0, some 1, some 2, none] rfl (Nat.zero_le _) (ren1z _) ⟨rfl, ⟨rfl, rfl⟩, ⟨rfl, rfl⟩, ⟨rfl, rfl⟩, ⟨rfl, row1H fun _ _ => rfl⟩, rfl, trivial⟩ ⟨⟨rfl, bx_rl⟩, ⟨rfl, bx_rl⟩, ⟨rfl, zeV_rl⟩, trivial⟩
  cases i with
  | zero =>
    refine T.all_of_eq (t_M2 kd c.n c.f c.k c.s c.h m e d.n d.f d.k d.s d.h m1 e1 (m1N kd m e m1 e1) (m1F kd m e m1 e1) 0) ?_
    rw [show U.add .i64 (0 : Int) 1 = ((1 : Nat) : Int) from add1p (j := 0) (by omega), tn0]
    have hw := m1_len kd m e m1 e1
    simp only [lk_eq]
    refine ⟨fun g => ⟨fun g2 => ⟨⟨by omega, U.lt_t.mp g⟩, by unfold Sm; omega, ?_⟩, fun g2 => fin ?_⟩, fun g => fin ?_⟩
    · have g2 := U.eq_t.mp g2
      have g := U.lt_t.mp g
      simp only [Int.ofNat_eq_natCast] at g
      obtain ⟨y1, y2⟩ := put_1 (m := m) (e := e) (m1 := m1) (e1 := e1) g2
      have ee : enI kd m1 = m1 := if_pos g2
      exact ⟨⟨kd, c, m, e, d, m1, e1, 1⟩, ⟨⟨rfl, hm, hm1⟩, by show 1 ≤ enI kd m1; omega⟩, (show enI kd m1 - 1 < enI kd m1 - 0 by omega), wnext _ _ y1 y2 1, fun o ho => ho⟩
    · exact (if_neg (U.eq_f.mp g2)).symm
    · have g := U.lt_f.mp g
      simp only [Int.ofNat_eq_natCast] at g
      unfold enI; split <;> omega
  | succ i =>
    have hk : kd = 1 := by
      unfold enI at hi
      split at hi
      · assumption
      · omega
    have ee : enI kd m1 = m1 := if_pos hk
    refine T.all_of_eq (t_M3 kd c.n c.f c.k c.s c.h m e d.n d.f d.k d.s d.h m1 e1 (m2N m e (i + 1) e1) (m2F m e (i + 1) e1) ((i + 1 : Nat) : Int)) ?_
    have hw := m2_len m e (i + 1) e1
    by_cases hlt : i + 1 < m1
    · rw [add1p (j := i + 1) (by omega), tnH]
      simp only [lk_eq]
      obtain ⟨y1, y2⟩ := put_s (m := m) (e := e) (i := i + 1) (e1 := e1)
      refine ⟨fun g => ⟨fun g2 => ⟨⟨by omega, by omega⟩, by unfold Sm; omega, ⟨kd, c, m, e, d, m1, e1, i + 1 + 1⟩, ⟨⟨rfl, hm, hm1⟩, by show i + 1 + 1 ≤ enI kd m1; omega⟩, (show enI kd m1 - (i + 1 + 1) < enI kd m1 - (i + 1) by omega), wnext _ _ y1 y2 0, fun o ho => ho⟩, fun g2 => absurd hk (U.eq_f.mp g2)⟩, fun g => absurd (U.lt_f.mp g) (by simp only [Int.ofNat_eq_natCast]; omega)⟩
    · refine ⟨fun g => absurd (U.lt_t.mp g) (by simp only [Int.ofNat_eq_natCast]; omega), fun g => fin (by omega)⟩
theorem loopM2 : LoopOK P (loopOf P 38 17) (few 89 [2,3,4,6,10,13] gM2) :=
  loop_few (E := EJa) mixed EJa_ok loopsOK_none 89 [2,3,4,6,10,13] (X := XM2) gM2 (fun _ x => VM2 x) PhiM2 (fun q => enI q.kd q.m1 - q.i) (fun _ x o => o = OM2 x)
    (fun n0 st r hh => by
      unfold gM2 at hh
      split at hh
      · rename_i n0 kd p0 q0 p1 q1 p2 q2 b C z w0 x0 t0 w1 x1 t1 w2 zs t2 w3 C' G t3
        split at hh
        · rename_i c m e d m1 e1 z0 z1
          obtain rfl := asSp_eq z0
          obtain rfl := asSp_eq z1
          obtain ⟨hp, rfl, rfl, rfl, rfl, rfl, rfl, rfl, rfl, rfl, rfl, rfl, rfl, rfl, hC, rfl, hG⟩ := (T.is_ask hh).1
          have hb := (T.is_ask hh).2
          rw [lk_eq] at hp hC hG
          subst hC
          subst hG
          have h0 := hp.1
          subst h0
          refine ⟨⟨kd, c, m, e, d, m1, e1, 0⟩, ⟨hp, Nat.zero_le _⟩, ?_, fun o ho => ?_⟩
          · exact wk_of [some 0, some 1, some 2, some 3] rfl (Nat.zero_le _) (ren1z _) ⟨rfl, ⟨rfl, rfl⟩, ⟨rfl, rfl⟩, ⟨rfl, rfl⟩, ⟨rfl, rfl, rfl⟩, rfl, trivial⟩ ⟨⟨rfl, bx_rl⟩, ⟨rfl, bx_rl⟩, ⟨rfl, zeV_rl⟩, ⟨rfl, rfl, rfl, row1H fun _ _ => rfl⟩, trivial⟩
          · rw [ho]
            rcases hb with ⟨hz, hb⟩ | ⟨hz, hb⟩ <;> obtain rfl := T.is_ret hb
            · have g := U.andb_t.mp hz
              have g1 := U.eq_t.mp g.1
              have g2 := U.not_t.mp g.2
              rw [U.isz_eq] at g2
              obtain ⟨k, rfl⟩ : ∃ k, m1 = k + 1 := ⟨m1 - 1, by have hne : m1 ≠ 0 := of_decide_eq_false g2; omega⟩
              simp only [lk_eq]
              show (Ex.exit 2, vM2 kd c m e d (k + 1) e1 (enI kd (k + 1))) = _
              rw [show enI kd (k + 1) = k + 1 from if_pos g1]
            · have : enI kd m1 = 0 := by
                unfold enI
                by_cases g1 : kd = 1
                · rw [if_pos g1]
                  cases m1 with
                  | zero => rfl
                  | succ k =>
                    have : U.andb (U.eq kd 1) (U.not (U.isz (k + 1))) = true := U.andb_t.mpr ⟨U.eq_t.mpr g1, U.not_t.mpr (isz_s k)⟩
                    rw [this] at hz; cases hz
                · exact if_neg g1
              show (Ex.exit 2, vM2 kd c m e d m1 e1 (enI kd m1)) = _
              rw [this]
        · exact hh.elim
      · exact hh.elim)
    roundM2
theorem lMe_ok : ∀ p ∈ lMe, LoopsOK P p.2 (bodyOf P p.1) := by
  intro p hp
  simp only [lMe, List.mem_singleton] at hp
  subst hp
  refine loopsOK_of (by kernel_rfl) fun k g hk => ?_
  simp only [List.mem_cons, List.not_mem_nil, or_false, Prod.mk.injEq, LoopC.sum.injEq] at hk
  rcases hk with ⟨rfl, rfl⟩ | ⟨rfl, rfl⟩
  · exact loopM1
  · exact loopM2
end Go.RX.Span

/- Sparse domains: the reference's merge: its contract; what the law of pairs calls. -/
set_option linter.unusedVariables false
set_option linter.unusedSimpArgs false
set_option maxRecDepth 100000
namespace Go.RX.Span
open Go Go.RX
attribute [local irreducible] sx conB

theorem m1_all {kd : Int} (hk : KD kd) {m : Nat} {e : Nat → R1} {m1 : Nat} {e1 : Nat → R1} (h : kd = 1 → m1 = 0) (ha : Asc (nl m e)) : m1L kd m e m1 e1 = mgL (tkG (gK kd)) (nl m e) (nl m1 e1) := by
  rcases hk with rfl | hk
  · obtain rfl := h rfl
    rw [m1L_1]
    exact m2_mg (m1 := 0) (e1 := e1) ha
  · exact m1_mg hk ha
noncomputable def c_merge : Con := fun args => match args with
  | [.agg [.row [.int .i64, .int .i64, .int .i64] n f, .lit (.int .i64 k), .lit (.int .i64 s), .lit (.int .i64 h), .row [.int .i64] m e], .agg [.row [.int .i64, .int .i64, .int .i64] n1 f1, .lit (.int .i64 k1), .lit (.int .i64 s1), .lit (.int .i64 h1), .row [.int .i64] m1 e1], .lit (.int .i64 kd)] =>
    .ask (Row64 n f ∧ Row64 n1 f1 ∧ lk KD kd) (.ret (.tup [.agg [.row [.int .i64, .int .i64, .int .i64] (lk zn (lk paE (lk gK kd) n f k s h m e n1 f1 k1 s1 h1 m1 e1) n) f, .lit (.int .i64 (lk zi (lk paE (lk gK kd) n f k s h m e n1 f1 k1 s1 h1 m1 e1) k)), .lit (.int .i64 (lk zi (lk paE (lk gK kd) n f k s h m e n1 f1 k1 s1 h1 m1 e1) s)), .lit (.int .i64 (lk zi (lk paE (lk gK kd) n f k s h m e n1 f1 k1 s1 h1 m1 e1) h)),
      .row [.int .i64] (lk zn (lk paE (lk gK kd) n f k s h m e n1 f1 k1 s1 h1 m1 e1) (lk mgN (lk gK kd) m e m1 e1)) (lk mgF (lk gK kd) m e m1 e1)], .lit (.int .i64 (lk paE (lk gK kd) n f k s h m e n1 f1 k1 s1 h1 m1 e1))]))
  | _ => .stuck 1
theorem merge_ok : ConOK P 38 c_merge := con_cl (allOKL mixed kJa_ok lMe_ok) 10 38 fun args r hh => by
  unfold c_merge at hh
  split at hh
  · rename_i n f k s h m e n1 f1 k1 s1 h1 m1 e1 kd
    obtain ⟨hp, hp1, hk⟩ := (T.is_ask hh).1
    obtain rfl := T.is_ret (T.is_ask hh).2
    rw [lk_eq] at hk
    refine T.all_of_eq (t_merge kd n f k s h m e n1 f1 k1 s1 h1 m1 e1) ?_
    simp only [lk_eq, Int.ofNat_eq_natCast]
    refine ⟨hp, fun g1 => ?_, fun g1 => ⟨hp1, fun g2 => ?_, fun g2 => ⟨?_, fun g3 => ?_, fun g3 => ?_⟩⟩⟩
    · have g1 := U.ne_t.mp g1
      exact cl_err (paE_1 g1) g1
    · have g2 := U.ne_t.mp g2
      exact cl_err (paE_2 (U.ne_f.mp g1) g2) g2
    all_goals have g1 := U.ne_f.mp g1
    all_goals have g2 := U.ne_f.mp g2
    all_goals have hn := (chD_zero.1 (pdE_zero.1 (spE_zero.1 g1).1).1).1.1
    · omega
    · exact cl_err (paE_3 g1 g2 (U.not_t.mp g3)) (by decide)
    · have g3 := U.not_f.mp g3
      obtain ⟨ba, hm, _⟩ := sp_bs g1
      obtain ⟨_, hm1, _⟩ := sp_bs g2
      have asc := asc_nl ba
      refine ⟨⟨⟨rfl, hm, hm1⟩, trivial, trivial, trivial, trivial, trivial, trivial, trivial, trivial, trivial, trivial, trivial, trivial, trivial⟩, ⟨⟨rfl, hm, hm1⟩, trivial, trivial, trivial, trivial, trivial, trivial, trivial, trivial, trivial, trivial, trivial, trivial, trivial, trivial, trivial, trivial⟩, fun g4 => ?_, fun g4 => ?_⟩
      · have g4 := U.andb_t.mp g4
        obtain rfl := U.eq_t.mp g4.1
        have eL := m2_mg (m1 := m1) (e1 := e1) asc
        have eN : m2N m e m1 e1 = mgN (gK 1) m e m1 e1 := congrArg List.length eL
        have eF : m2F m e m1 e1 = mgF (gK 1) m e m1 e1 := congrArg lF eL
        rw [eN, eF]
        refine ⟨fun g5 => cl_err (paE_4 g1 g2 g3 (by have := U.gt_t.mp g5; omega)) (by decide), fun g5 => ?_⟩
        rw [paE_5 g1 g2 g3 (by have := U.gt_f.mp g5; omega)]
        exact ⟨⟨⟨rfl, sameRow_refl _ _⟩, .inl rfl, .inl rfl, .inl rfl, ⟨rfl, sameRow_refl _ _⟩, rfl⟩, .inl rfl, rfl⟩
      · have hz : kd = 1 → m1 = 0 := fun h1 => by
          by_cases h0 : m1 = 0
          · exact h0
          · have : U.andb (U.eq kd 1) (U.not (U.isz m1)) = true := U.andb_t.mpr ⟨U.eq_t.mpr h1, U.not_t.mpr (by rw [U.isz_eq]; exact decide_eq_false h0)⟩
            rw [this] at g4; cases g4
        have eL := m1_all hk (e1 := e1) hz asc
        have eN : m1N kd m e m1 e1 = mgN (gK kd) m e m1 e1 := congrArg List.length eL
        have eF : m1F kd m e m1 e1 = mgF (gK kd) m e m1 e1 := congrArg lF eL
        rw [eN, eF]
        refine ⟨fun g5 => cl_err (paE_4 g1 g2 g3 (by have := U.gt_t.mp g5; omega)) (by decide), fun g5 => ?_⟩
        rw [paE_5 g1 g2 g3 (by have := U.gt_f.mp g5; omega)]
        exact ⟨⟨⟨rfl, sameRow_refl _ _⟩, .inl rfl, .inl rfl, .inl rfl, ⟨rfl, sameRow_refl _ _⟩, rfl⟩, .inl rfl, rfl⟩
  · exact hh.elim
noncomputable abbrev kMe : List (Nat × Con) := [(38, c_merge)] --%K
theorem kMe_ok : ∀ p ∈ kMe, ConOK P p.1 p.2 := by
  intro p hp
  simp only [kMe, List.mem_singleton] at hp
  subst hp
  exact merge_ok
noncomputable abbrev kPr : List (Nat × Con) := [(4, c_few), (5, c_short), (6, c_awake), (7, c_SpWithin), (8, c_own), (9, c_SpWithin), (10, c_same), (11, c_pair 37), (12, c_pair 37), (13, c_pair 39), (14, c_pair 39), (15, c_pair 40), (16, c_pair 40)] --%K
end Go.RX.Span

/- Sparse domains: the reference's Union, Both, Minus; the law of pairs: the walks. -/
set_option linter.unusedVariables false
set_option linter.unusedSimpArgs false
set_option maxRecDepth 100000
namespace Go.RX.Span
open Go Go.RX
attribute [local irreducible] sx conB

--%R < ↑(\w+)\b => < ((\1 : Nat) : Int)
--%R ↑(\w+) (=|≤) => ((\1 : Nat) : Int) \2
set_option maxRecDepth 100000 in
theorem t_QU (n : Nat) (f : Nat → R3) (k s h : Int) (m : Nat) (e : Nat → R1) (n1 : Nat) (f1 : Nat → R3) (k1 s1 h1 : Int) (m1 : Nat) (e1 : Nat → R1) : conB Go.Proofs.Tryz.prog (conOf kMe) noLoops 10 12 [.agg [.row [.int .i64, .int .i64, .int .i64] n f, .lit (.int .i64 k), .lit (.int .i64 s), .lit (.int .i64 h), .row [.int .i64] m e], .agg [.row [.int .i64, .int .i64, .int .i64] n1 f1, .lit (.int .i64 k1), .lit (.int .i64 s1), .lit (.int .i64 h1), .row [.int .i64] m1 e1]] =
    T.ask (Row64 n f ∧ Row64 n1 f1 ∧ lk KD (1 : Int)) (.ret (.tup [.agg [.row [.int .i64, .int .i64, .int .i64] (lk zn (lk paE (lk gK (1 : Int)) n f k s h m e n1 f1 k1 s1 h1 m1 e1) n)
      f, .lit (.int .i64 (lk zi (lk paE (lk gK (1 : Int)) n f k s h m e n1 f1 k1 s1 h1 m1 e1) k)), .lit (.int .i64 (lk zi (lk paE (lk gK (1 : Int)) n f k s h m e n1 f1 k1 s1 h1 m1 e1)
      s)), .lit (.int .i64 (lk zi (lk paE (lk gK (1 : Int)) n f k s h m e n1 f1 k1 s1 h1 m1 e1) h)), .row [.int .i64] (lk zn (lk paE (lk gK (1 : Int)) n f k s h m e n1 f1 k1 s1 h1 m1 e1)
      (lk mgN (lk gK (1 : Int)) m e m1 e1)) (lk mgF (lk gK (1 : Int)) m e m1 e1)], .lit (.int .i64 (lk paE (lk gK (1 : Int)) n f k s h m e n1 f1 k1 s1 h1 m1 e1))])) := by kernel_rfl
set_option maxRecDepth 100000 in
theorem t_QB (n : Nat) (f : Nat → R3) (k s h : Int) (m : Nat) (e : Nat → R1) (n1 : Nat) (f1 : Nat → R3) (k1 s1 h1 : Int) (m1 : Nat) (e1 : Nat → R1) : conB Go.Proofs.Tryz.prog (conOf kMe) noLoops 10 14 [.agg [.row [.int .i64, .int .i64, .int .i64] n f, .lit (.int .i64 k), .lit (.int .i64 s), .lit (.int .i64 h), .row [.int .i64] m e], .agg [.row [.int .i64, .int .i64, .int .i64] n1 f1, .lit (.int .i64 k1), .lit (.int .i64 s1), .lit (.int .i64 h1), .row [.int .i64] m1 e1]] =
    T.ask (Row64 n f ∧ Row64 n1 f1 ∧ lk KD (2 : Int)) (.ret (.tup [.agg [.row [.int .i64, .int .i64, .int .i64] (lk zn (lk paE (lk gK (2 : Int)) n f k s h m e n1 f1 k1 s1 h1 m1 e1) n)
      f, .lit (.int .i64 (lk zi (lk paE (lk gK (2 : Int)) n f k s h m e n1 f1 k1 s1 h1 m1 e1) k)), .lit (.int .i64 (lk zi (lk paE (lk gK (2 : Int)) n f k s h m e n1 f1 k1 s1 h1 m1 e1)
      s)), .lit (.int .i64 (lk zi (lk paE (lk gK (2 : Int)) n f k s h m e n1 f1 k1 s1 h1 m1 e1) h)), .row [.int .i64] (lk zn (lk paE (lk gK (2 : Int)) n f k s h m e n1 f1 k1 s1 h1 m1 e1)
      (lk mgN (lk gK (2 : Int)) m e m1 e1)) (lk mgF (lk gK (2 : Int)) m e m1 e1)], .lit (.int .i64 (lk paE (lk gK (2 : Int)) n f k s h m e n1 f1 k1 s1 h1 m1 e1))])) := by kernel_rfl
set_option maxRecDepth 100000 in
theorem t_QM (n : Nat) (f : Nat → R3) (k s h : Int) (m : Nat) (e : Nat → R1) (n1 : Nat) (f1 : Nat → R3) (k1 s1 h1 : Int) (m1 : Nat) (e1 : Nat → R1) : conB Go.Proofs.Tryz.prog (conOf kMe) noLoops 10 16 [.agg [.row [.int .i64, .int .i64, .int .i64] n f, .lit (.int .i64 k), .lit (.int .i64 s), .lit (.int .i64 h), .row [.int .i64] m e], .agg [.row [.int .i64, .int .i64, .int .i64] n1 f1, .lit (.int .i64 k1), .lit (.int .i64 s1), .lit (.int .i64 h1), .row [.int .i64] m1 e1]] =
    T.ask (Row64 n f ∧ Row64 n1 f1 ∧ lk KD (3 : Int)) (.ret (.tup [.agg [.row [.int .i64, .int .i64, .int .i64] (lk zn (lk paE (lk gK (3 : Int)) n f k s h m e n1 f1 k1 s1 h1 m1 e1) n)
      f, .lit (.int .i64 (lk zi (lk paE (lk gK (3 : Int)) n f k s h m e n1 f1 k1 s1 h1 m1 e1) k)), .lit (.int .i64 (lk zi (lk paE (lk gK (3 : Int)) n f k s h m e n1 f1 k1 s1 h1 m1 e1)
      s)), .lit (.int .i64 (lk zi (lk paE (lk gK (3 : Int)) n f k s h m e n1 f1 k1 s1 h1 m1 e1) h)), .row [.int .i64] (lk zn (lk paE (lk gK (3 : Int)) n f k s h m e n1 f1 k1 s1 h1 m1 e1)
      (lk mgN (lk gK (3 : Int)) m e m1 e1)) (lk mgF (lk gK (3 : Int)) m e m1 e1)], .lit (.int .i64 (lk paE (lk gK (3 : Int)) n f k s h m e n1 f1 k1 s1 h1 m1 e1))])) := by kernel_rfl
set_option maxRecDepth 100000 in
theorem t_IPairs (n : Nat) (f : Nat → R3) (k s h : Int) (m : Nat) (e : Nat → R1) (n1 : Nat) (f1 : Nat → R3) (k1 s1 h1 : Int) (m1 : Nat) (e1 : Nat → R1) (n2 : Nat) (f2 : Nat → R3) (k2 s2 h2 : Int) : conB Go.Proofs.Tryz.prog (conOf kPr) noLoops 10 3 [.agg [.row [.int .i64, .int .i64, .int .i64] n f, .lit (.int .i64 k), .lit (.int .i64 s), .lit (.int .i64 h), .row [.int .i64] m e], .agg [.row [.int .i64, .int .i64, .int .i64] n1 f1, .lit (.int .i64 k1), .lit (.int .i64 s1), .lit (.int .i64 h1), .row [.int .i64] m1 e1], .agg [.row [.int .i64, .int .i64, .int .i64] n2 f2, .lit (.int .i64 k2), .lit (.int .i64 s2), .lit (.int .i64 h2)]] =
    T.ask (Row64 n f) (.br (U.not (lk fwB n f m)) (.ret (.lit (.bool true))) (.ask (Row64 n1 f1) (.br (U.not (lk fwB n1 f1 m1)) (.ret (.lit (.bool true))) (.ask (Row64 n2 f2) (.br
      (U.not (lk shB n2 f2)) (.ret (.lit (.bool true))) (.ask (Row64 n f ∧ Row64 n2 f2) (.ask (Row64 n f ∧ Row64 n2 f2) (.ask (lk zn (lk wnE n f k s h m e n2 f2 k2 s2 h2) n ≤ nat_lit
      9223372036854775807 ∧ lk zn (lk wnE n f k s h m e n2 f2 k2 s2 h2) (lk wnN n f k s h m e n (lk diF f f2) k s h) ≤ nat_lit 9223372036854775807) (.br (U.not (lk smB (lk zn (lk wnE n f
      k s h m e n2 f2 k2 s2 h2) n) (lk diF f f2) (lk zi (lk wnE n f k s h m e n2 f2 k2 s2 h2) k) (lk zi (lk wnE n f k s h m e n2 f2 k2 s2 h2) s) (lk zi (lk wnE n f k s h m e n2 f2 k2 s2
      h2) h) (lk zn (lk wnE n f k s h m e n2 f2 k2 s2 h2) (lk wnN n f k s h m e n (lk diF f f2) k s h)) (lk wnF n f k s h m e n (lk diF f f2) k s h) (lk zn (lk wnE n f k s h m e n2 f2 k2
      s2 h2) n) (lk diF f f2) (lk zi (lk wnE n f k s h m e n2 f2 k2 s2 h2) k) (lk zi (lk wnE n f k s h m e n2 f2 k2 s2 h2) s) (lk zi (lk wnE n f k s h m e n2 f2 k2 s2 h2) h) (lk zn (lk
      wnE n f k s h m e n2 f2 k2 s2 h2) (lk wnN n f k s h m e n (lk diF f f2) k s h)) (lk wnF n f k s h m e n (lk diF f f2) k s h))) (.ret (.lit (.bool false))) (.br (U.ne (lk wnE n f k s
      h m e n2 f2 k2 s2 h2) (lk wnE n f k s h m e n2 f2 k2 s2 h2)) (.ret (.lit (.bool false))) (.ask (Row64 n f ∧ Row64 n1 f1) (.ask (Row64 n f ∧ Row64 n1 f1) (.ask (lk zn (lk paE
      (nat_lit 37) n f k s h m e n1 f1 k1 s1 h1 m1 e1) n ≤ nat_lit 9223372036854775807 ∧ lk zn (lk paE (nat_lit 37) n f k s h m e n1 f1 k1 s1 h1 m1 e1) (lk mgN (nat_lit 37) m e m1 e1) ≤
      nat_lit 9223372036854775807) (.br (U.not (lk smB (lk zn (lk paE (nat_lit 37) n f k s h m e n1 f1 k1 s1 h1 m1 e1) n) f (lk zi (lk paE (nat_lit 37) n f k s h m e n1 f1 k1 s1 h1 m1 e1)
      k) (lk zi (lk paE (nat_lit 37) n f k s h m e n1 f1 k1 s1 h1 m1 e1) s) (lk zi (lk paE (nat_lit 37) n f k s h m e n1 f1 k1 s1 h1 m1 e1) h) (lk zn (lk paE (nat_lit 37) n f k s h m e n1
      f1 k1 s1 h1 m1 e1) (lk mgN (nat_lit 37) m e m1 e1)) (lk mgF (nat_lit 37) m e m1 e1) (lk zn (lk paE (nat_lit 37) n f k s h m e n1 f1 k1 s1 h1 m1 e1) n) f (lk zi (lk paE (nat_lit 37)
      n f k s h m e n1 f1 k1 s1 h1 m1 e1) k) (lk zi (lk paE (nat_lit 37) n f k s h m e n1 f1 k1 s1 h1 m1 e1) s) (lk zi (lk paE (nat_lit 37) n f k s h m e n1 f1 k1 s1 h1 m1 e1) h) (lk zn
      (lk paE (nat_lit 37) n f k s h m e n1 f1 k1 s1 h1 m1 e1) (lk mgN (nat_lit 37) m e m1 e1)) (lk mgF (nat_lit 37) m e m1 e1))) (.ret (.lit (.bool false))) (.br (U.ne (lk paE (nat_lit
      37) n f k s h m e n1 f1 k1 s1 h1 m1 e1) (lk paE (nat_lit 37) n f k s h m e n1 f1 k1 s1 h1 m1 e1)) (.ret (.lit (.bool false))) (.ask (Row64 n f ∧ Row64 n1 f1) (.ask (Row64 n f ∧
      Row64 n1 f1) (.ask (lk zn (lk paE (nat_lit 39) n f k s h m e n1 f1 k1 s1 h1 m1 e1) n ≤ nat_lit 9223372036854775807 ∧ lk zn (lk paE (nat_lit 39) n f k s h m e n1 f1 k1 s1 h1 m1 e1)
      (lk mgN (nat_lit 39) m e m1 e1) ≤ nat_lit 9223372036854775807) (.br (U.not (lk smB (lk zn (lk paE (nat_lit 39) n f k s h m e n1 f1 k1 s1 h1 m1 e1) n) f (lk zi (lk paE (nat_lit 39) n
      f k s h m e n1 f1 k1 s1 h1 m1 e1) k) (lk zi (lk paE (nat_lit 39) n f k s h m e n1 f1 k1 s1 h1 m1 e1) s) (lk zi (lk paE (nat_lit 39) n f k s h m e n1 f1 k1 s1 h1 m1 e1) h) (lk zn (lk
      paE (nat_lit 39) n f k s h m e n1 f1 k1 s1 h1 m1 e1) (lk mgN (nat_lit 39) m e m1 e1)) (lk mgF (nat_lit 39) m e m1 e1) (lk zn (lk paE (nat_lit 39) n f k s h m e n1 f1 k1 s1 h1 m1 e1)
      n) f (lk zi (lk paE (nat_lit 39) n f k s h m e n1 f1 k1 s1 h1 m1 e1) k) (lk zi (lk paE (nat_lit 39) n f k s h m e n1 f1 k1 s1 h1 m1 e1) s) (lk zi (lk paE (nat_lit 39) n f k s h m e
      n1 f1 k1 s1 h1 m1 e1) h) (lk zn (lk paE (nat_lit 39) n f k s h m e n1 f1 k1 s1 h1 m1 e1) (lk mgN (nat_lit 39) m e m1 e1)) (lk mgF (nat_lit 39) m e m1 e1))) (.ret (.lit (.bool
      false))) (.br (U.ne (lk paE (nat_lit 39) n f k s h m e n1 f1 k1 s1 h1 m1 e1) (lk paE (nat_lit 39) n f k s h m e n1 f1 k1 s1 h1 m1 e1)) (.ret (.lit (.bool false))) (.ask (Row64 n f ∧
      Row64 n1 f1) (.ask (Row64 n f ∧ Row64 n1 f1) (.ask (lk zn (lk paE (nat_lit 40) n f k s h m e n1 f1 k1 s1 h1 m1 e1) n ≤ nat_lit 9223372036854775807 ∧ lk zn (lk paE (nat_lit 40) n f k
      s h m e n1 f1 k1 s1 h1 m1 e1) (lk mgN (nat_lit 40) m e m1 e1) ≤ nat_lit 9223372036854775807) (.br (lk smB (lk zn (lk paE (nat_lit 40) n f k s h m e n1 f1 k1 s1 h1 m1 e1) n) f (lk zi
      (lk paE (nat_lit 40) n f k s h m e n1 f1 k1 s1 h1 m1 e1) k) (lk zi (lk paE (nat_lit 40) n f k s h m e n1 f1 k1 s1 h1 m1 e1) s) (lk zi (lk paE (nat_lit 40) n f k s h m e n1 f1 k1 s1
      h1 m1 e1) h) (lk zn (lk paE (nat_lit 40) n f k s h m e n1 f1 k1 s1 h1 m1 e1) (lk mgN (nat_lit 40) m e m1 e1)) (lk mgF (nat_lit 40) m e m1 e1) (lk zn (lk paE (nat_lit 40) n f k s h m
      e n1 f1 k1 s1 h1 m1 e1) n) f (lk zi (lk paE (nat_lit 40) n f k s h m e n1 f1 k1 s1 h1 m1 e1) k) (lk zi (lk paE (nat_lit 40) n f k s h m e n1 f1 k1 s1 h1 m1 e1) s) (lk zi (lk paE
      (nat_lit 40) n f k s h m e n1 f1 k1 s1 h1 m1 e1) h) (lk zn (lk paE (nat_lit 40) n f k s h m e n1 f1 k1 s1 h1 m1 e1) (lk mgN (nat_lit 40) m e m1 e1)) (lk mgF (nat_lit 40) m e m1 e1))
      (.br (U.eq (lk paE (nat_lit 40) n f k s h m e n1 f1 k1 s1 h1 m1 e1) (lk paE (nat_lit 40) n f k s h m e n1 f1 k1 s1 h1 m1 e1)) (.ret (.lit (.bool true))) (.ret (.lit (.bool false))))
      (.ret (.lit (.bool false))))))))))))))))))))))))))) := by kernel_rfl
end Go.RX.Span

/- Sparse domains: the law of pairs. -/
set_option linter.unusedVariables false
set_option linter.unusedSimpArgs false
set_option maxRecDepth 100000
namespace Go.RX.Span
open Go Go.RX
attribute [local irreducible] sx conB

theorem QUnion_ok : ConOK P 12 (c_pair 37) := con_of (allOK mixed kMe_ok) 10 12 fun args r hh => by
  unfold c_pair at hh
  split at hh
  · rename_i n f k s h m e n1 f1 k1 s1 h1 m1 e1
    obtain ⟨hp, hp1⟩ := (T.is_ask hh).1
    obtain rfl := T.is_ret (T.is_ask hh).2
    refine T.all_of_eq (t_QU n f k s h m e n1 f1 k1 s1 h1 m1 e1) ?_
    simp only [lk_eq]
    exact ⟨⟨hp, hp1, .inl rfl⟩, rfl⟩
  · exact hh.elim
theorem QBoth_ok : ConOK P 14 (c_pair 39) := con_of (allOK mixed kMe_ok) 10 14 fun args r hh => by
  unfold c_pair at hh
  split at hh
  · rename_i n f k s h m e n1 f1 k1 s1 h1 m1 e1
    obtain ⟨hp, hp1⟩ := (T.is_ask hh).1
    obtain rfl := T.is_ret (T.is_ask hh).2
    refine T.all_of_eq (t_QB n f k s h m e n1 f1 k1 s1 h1 m1 e1) ?_
    simp only [lk_eq]
    exact ⟨⟨hp, hp1, .inr (.inl rfl)⟩, rfl⟩
  · exact hh.elim
theorem QMinus_ok : ConOK P 16 (c_pair 40) := con_of (allOK mixed kMe_ok) 10 16 fun args r hh => by
  unfold c_pair at hh
  split at hh
  · rename_i n f k s h m e n1 f1 k1 s1 h1 m1 e1
    obtain ⟨hp, hp1⟩ := (T.is_ask hh).1
    obtain rfl := T.is_ret (T.is_ask hh).2
    refine T.all_of_eq (t_QM n f k s h m e n1 f1 k1 s1 h1 m1 e1) ?_
    simp only [lk_eq]
    exact ⟨⟨hp, hp1, .inr (.inr rfl)⟩, rfl⟩
  · exact hh.elim
theorem kPr_ok : ∀ p ∈ kPr, ConOK P p.1 p.2 := by
  intro p hp
  simp only [kPr, List.mem_cons, List.not_mem_nil, or_false] at hp
  rcases hp with rfl | rfl | rfl | rfl | rfl | rfl | rfl | rfl | rfl | rfl | rfl | rfl | rfl
  · exact few_ok
  · exact short_ok
  · exact awake_ok
  · exact SpWithin_ok
  · exact own_ok
  · exact QWithin_ok
  · exact same_ok
  · exact Union_ok
  · exact QUnion_ok
  · exact Both_ok
  · exact QBoth_ok
  · exact Minus_ok
  · exact QMinus_ok
theorem fw_is {n : Nat} {f : Nat → R3} {m : Nat} (h : fwB n f m = true) : n ≤ 10 ∧ m ≤ 100 ∧ anyB n f = false := by
  unfold fwB shB at h
  simp only [Bool.and_eq_true, decide_eq_true_eq, Bool.not_eq_true'] at h
  exact ⟨h.1.1, h.2, h.1.2⟩
theorem smB_refl (n : Nat) (f : Nat → R3) (k s h : Int) (m : Nat) (e : Nat → R1) : smB n f k s h m e n f k s h m e = true := smB_ext (fun _ _ => rfl) (fun _ _ => rfl)
theorem zn_le (E : Int) (x : Nat) : zn E x ≤ x := by unfold zn; split <;> omega
noncomputable def c_IrregularPairs : Con := fun args => match args with
  | [.agg [.row [.int .i64, .int .i64, .int .i64] n f, .lit (.int .i64 k), .lit (.int .i64 s), .lit (.int .i64 h), .row [.int .i64] m e], .agg [.row [.int .i64, .int .i64, .int .i64] n1 f1, .lit (.int .i64 k1), .lit (.int .i64 s1), .lit (.int .i64 h1), .row [.int .i64] m1 e1], .agg [.row [.int .i64, .int .i64, .int .i64] n2 f2, .lit (.int .i64 k2), .lit (.int .i64 s2), .lit (.int .i64 h2)]] => .ask (Row64 n f ∧ Row64 n1 f1 ∧ Row64 n2 f2) (.ret (.lit (.bool true)))
  | _ => .stuck 1
theorem IrregularPairs_ok : ConOK P 3 c_IrregularPairs := con_of (allOK mixed kPr_ok) 10 3 fun args r hh => by
  unfold c_IrregularPairs at hh
  split at hh
  · rename_i n f k s h m e n1 f1 k1 s1 h1 m1 e1 n2 f2 k2 s2 h2
    obtain ⟨hp, hp1, hp2⟩ := (T.is_ask hh).1
    obtain rfl := T.is_ret (T.is_ask hh).2
    refine T.all_of_eq (t_IPairs n f k s h m e n1 f1 k1 s1 h1 m1 e1 n2 f2 k2 s2 h2) ?_
    simp only [lk_eq, smB_refl]
    refine ⟨hp, fun g => rfl, fun g => ⟨hp1, fun g1 => rfl, fun g1 => ⟨hp2, fun g2 => rfl, fun g2 => ?_⟩⟩⟩
    obtain ⟨hn, hm, _⟩ := fw_is (U.not_f.mp g)
    obtain ⟨hn1, hm1, _⟩ := fw_is (U.not_f.mp g1)
    have b : ∀ E x, x ≤ 1000000 → zn E x ≤ 9223372036854775807 := fun E x hx => by have := zn_le E x; omega
    have bm : ∀ gg, mgN gg m e m1 e1 ≤ 1000000 := fun gg => by
      have := mg_len (tkG gg) (nl m e) (nl m1 e1)
      rw [nl_len, nl_len] at this
      have e' : mgN gg m e m1 e1 = (mgL (tkG gg) (nl m e) (nl m1 e1)).length := rfl
      omega
    have bw : wnN n f k s h m e n (diF f f2) k s h ≤ 1000000 := by have := wn_len (n := n) (f := f) (k := k) (s := s) (h := h) (e := e) (N := n) (F := diF f f2) (K := k) (S := s) (H := h) m; omega
    exact ⟨⟨hp, hp2⟩, ⟨hp, hp2⟩, ⟨b _ _ (by omega), b _ _ bw⟩, fun x => absurd (U.not_t.mp x) (by decide), fun _ => ⟨fun x => absurd rfl (U.ne_t.mp x), fun _ => ⟨⟨hp, hp1⟩, ⟨hp, hp1⟩, ⟨b _ _ (by omega), b _ _ (bm _)⟩, fun x => absurd (U.not_t.mp x) (by decide), fun _ => ⟨fun x => absurd rfl (U.ne_t.mp x), fun _ => ⟨⟨hp, hp1⟩, ⟨hp, hp1⟩, ⟨b _ _ (by omega), b _ _ (bm _)⟩, fun x => absurd (U.not_t.mp x) (by decide), fun _ => ⟨fun x => absurd rfl (U.ne_t.mp x), fun _ => ⟨⟨hp, hp1⟩, ⟨hp, hp1⟩, ⟨b _ _ (by omega), b _ _ (bm _)⟩, fun _ => ⟨fun _ => rfl, fun x => absurd rfl (U.eq_f.mp x)⟩, fun x => absurd x (by decide)⟩⟩⟩⟩⟩⟩⟩
  · exact hh.elim
end Go.RX.Span

