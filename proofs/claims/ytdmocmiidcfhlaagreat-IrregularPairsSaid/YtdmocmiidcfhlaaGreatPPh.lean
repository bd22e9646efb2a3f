/- slices.Sort of whole numbers: the library's contract at this program. -/
import Derived.Ground.NamesProg
import Derived.Shelf.Slices.In.SortNone
import Derived.Shelf.Sort.Plain
import Derived.Test.YtdmocmiidcfhlaaGreatProg
import Derived.Test.YtdmocmiidcfhlaaGreatPPg
import Derived.Test.YtdmocmiidcfhlaaGreatPPc
namespace Go.Proofs
open Go.Shelf
def Tryz.laysSort_ren : Go.Shelf.Ren := ⟨fun | 189 => 48 | 125 => 77 | 257 => 76 | 128 => 100 | 129 => 101 | 294 => 91 | 295 => 92 | 296 => 93 | 297 => 94 | 298 => 95 | 299 => 96 | 216 => 97 | 300 => 98 | 301 => 99 | 328 => 105 | 329 => 106 | 330 => 107 | 331 => 108 | 332 => 109 | 215 => 110 | 343 => 111 | n => n, fun | 28 => 27 | 3 => 3 | 46 => 73 | 0 => 0 | 51 => 128 | 53 => 130 | 4 => 4 | 183 => 121 | 182 => 120 | 131 => 63 | 5 => 5 | 9 => 9 | 218 => 134 | 222 => 138 | 228 => 140 | 229 => 131 | n => n, fun | n => n⟩
theorem Tryz.laysSort : Go.Proofs.Lays.n189 Tryz.prog Tryz.laysSort_ren := {
  mixed := by kernel_rfl
  f125 := Tryz.func77.trans (congrArg some (by kernel_rfl))
  f128 := Tryz.func100.trans (congrArg some (by kernel_rfl))
  f129 := Tryz.func101.trans (congrArg some (by kernel_rfl))
  f189 := Tryz.func48.trans (congrArg some (by kernel_rfl))
  f215 := Tryz.func110.trans (congrArg some (by kernel_rfl))
  f216 := Tryz.func97.trans (congrArg some (by kernel_rfl))
  f257 := Tryz.func76.trans (congrArg some (by kernel_rfl))
  f294 := Tryz.func91.trans (congrArg some (by kernel_rfl))
  f295 := Tryz.func92.trans (congrArg some (by kernel_rfl))
  f296 := Tryz.func93.trans (congrArg some (by kernel_rfl))
  f297 := Tryz.func94.trans (congrArg some (by kernel_rfl))
  f298 := Tryz.func95.trans (congrArg some (by kernel_rfl))
  f299 := Tryz.func96.trans (congrArg some (by kernel_rfl))
  f300 := Tryz.func98.trans (congrArg some (by kernel_rfl))
  f301 := Tryz.func99.trans (congrArg some (by kernel_rfl))
  f328 := Tryz.func105.trans (congrArg some (by kernel_rfl))
  f329 := Tryz.func106.trans (congrArg some (by kernel_rfl))
  f330 := Tryz.func107.trans (congrArg some (by kernel_rfl))
  f331 := Tryz.func108.trans (congrArg some (by kernel_rfl))
  f332 := Tryz.func109.trans (congrArg some (by kernel_rfl))
  f343 := Tryz.func111.trans (congrArg some (by kernel_rfl))
  t0 := Tryz.underlying0
  a0 := Tryz.isAgg0
  z0 := Tryz.sizeOf0
  v0 := Tryz.zeroValue0
  t3 := Tryz.underlying3
  a3 := Tryz.isAgg3
  z3 := Tryz.sizeOf3
  v3 := Tryz.zeroValue3
  t4 := Tryz.underlying4
  a4 := Tryz.isAgg4
  z4 := Tryz.sizeOf4
  v4 := Tryz.zeroValue4
  t5 := Tryz.underlying5
  a5 := Tryz.isAgg5
  z5 := Tryz.sizeOf5
  v5 := Tryz.zeroValue5
  t9 := Tryz.underlying9
  a9 := Tryz.isAgg9
  z9 := Tryz.sizeOf9
  v9 := Tryz.zeroValue9
  t28 := Tryz.underlying27
  a28 := Tryz.isAgg27
  z28 := Tryz.sizeOf27
  v28 := Tryz.zeroValue27
  t46 := Tryz.underlying73
  a46 := Tryz.isAgg73
  z46 := Tryz.sizeOf73
  v46 := Tryz.zeroValue73
  t51 := Tryz.underlying128
  a51 := Tryz.isAgg128
  z51 := Tryz.sizeOf128
  v51 := Tryz.zeroValue128
  t53 := Tryz.underlying130
  a53 := Tryz.isAgg130
  z53 := Tryz.sizeOf130
  v53 := Tryz.zeroValue130
  t131 := Tryz.underlying63
  a131 := Tryz.isAgg63
  z131 := Tryz.sizeOf63
  v131 := Tryz.zeroValue63
  t182 := Tryz.underlying120
  a182 := Tryz.isAgg120
  z182 := Tryz.sizeOf120
  v182 := Tryz.zeroValue120
  t183 := Tryz.underlying121
  a183 := Tryz.isAgg121
  z183 := Tryz.sizeOf121
  v183 := Tryz.zeroValue121
  t218 := Tryz.underlying134
  a218 := Tryz.isAgg134
  z218 := Tryz.sizeOf134
  v218 := Tryz.zeroValue134
  t222 := Tryz.underlying138
  a222 := Tryz.isAgg138
  z222 := Tryz.sizeOf138
  v222 := Tryz.zeroValue138
  t228 := Tryz.underlying140
  a228 := Tryz.isAgg140
  z228 := Tryz.sizeOf140
  v228 := Tryz.zeroValue140
  t229 := Tryz.underlying131
  a229 := Tryz.isAgg131
  z229 := Tryz.sizeOf131
  v229 := Tryz.zeroValue131 }
end Go.Proofs
namespace Go.RX.Span
theorem sort_ok : Go.RX.InlOK P 48 X_sort := X_sort_ok Go.Proofs.Tryz.laysSort rfl
end Go.RX.Span

/- Domains: plain specifications. -/
set_option linter.unusedVariables false
set_option linter.unusedSimpArgs false
namespace Go.RX.Span
open Go Go.RX

def rA (r : R3) : Int := r.1
def rB (r : R3) : Int := r.2.1
def rC (r : R3) : Int := r.2.2.1
/-- The error of one range of a domain. -/
def ck1 (r : R3) : Int := if chk (rA r) (rB r) (rC r) ≠ 0 then chk (rA r) (rB r) (rC r) else if rC r < 0 then 2 else 0
/-- Whether a map is right. -/
def fitB (k s h : Int) : Bool := decide ((k = 0 ∧ s = 0 ∧ 0 ≤ h ∧ h < 8) ∨ ((k = 1 ∨ k = 2 ∨ k = 4) ∧ s = 0 ∧ h = 0) ∨ (k = 3 ∧ 1 ≤ s ∧ s ≤ 1000 ∧ h = 0))
/-- The error of a domain. -/
def chD (n : Nat) (f : Nat → R3) (k s h : Int) : Int := if n < 1 ∨ 2 < n then 5 else if ck1 (f 0) ≠ 0 then ck1 (f 0) else if n = 2 ∧ ck1 (f 1) ≠ 0 then ck1 (f 1) else if fitB k s h = true then 0 else 2
def szR (r : R3) : Int := size (rA r) (rB r) (rC r)
def colD (n : Nat) (f : Nat → R3) : Int := if n = 1 then 1 else szR (f 1)
def szD (n : Nat) (f : Nat → R3) (k s h : Int) : Int := if chD n f k s h ≠ 0 then 0 else szR (f 0) * colD n f
def Row64 (n : Nat) (f : Nat → R3) : Prop := ∀ i, i < n → I64 (rA (f i)) ∧ I64 (rB (f i)) ∧ I64 (rC (f i))
def RR (r : R3) : Prop := Right (rA r) (rB r) (rC r) ∧ 0 < rC r
def DR (n : Nat) (f : Nat → R3) : Prop := (n = 1 ∨ n = 2) ∧ ∀ i, i < n → RR (f i)
theorem ck1_zero {r : R3} : ck1 r = 0 ↔ RR r := by
  unfold ck1 RR
  by_cases h : chk (rA r) (rB r) (rC r) = 0
  · rw [if_neg (by simp [h])]
    have hr := chk_zero.1 h
    have hc := right_c hr
    by_cases hn : rC r < 0
    · rw [if_pos hn]
      constructor
      · intro h; omega
      · rintro ⟨_, h⟩; omega
    · rw [if_neg hn]
      exact ⟨fun _ => ⟨hr, by omega⟩, fun _ => rfl⟩
  · rw [if_pos h]
    exact ⟨fun h' => absurd h' h, fun h' => absurd (chk_zero.2 h'.1) h⟩
theorem chD_zero {n : Nat} {f : Nat → R3} {k s h : Int} : chD n f k s h = 0 ↔ DR n f ∧ fitB k s h = true := by
  unfold chD DR
  by_cases h1 : n < 1 ∨ 2 < n
  · rw [if_pos h1]
    exact ⟨fun h => by omega, fun h => by omega⟩
  rw [if_neg h1]
  by_cases h2 : ck1 (f 0) = 0
  · rw [if_neg (by simp [h2])]
    by_cases h3 : n = 2 ∧ ck1 (f 1) ≠ 0
    · rw [if_pos h3]
      exact ⟨fun h => absurd h h3.2, fun h => absurd (ck1_zero.2 (h.1.2 1 (by omega))) h3.2⟩
    · rw [if_neg h3]
      have hall : ∀ i, i < n → RR (f i) := fun i hi => by
        rcases (show i = 0 ∨ i = 1 by omega) with rfl | rfl
        · exact ck1_zero.1 h2
        · exact ck1_zero.1 (Classical.byContradiction fun h => h3 ⟨by omega, h⟩)
      by_cases h4 : fitB k s h = true
      · rw [if_pos h4]
        exact ⟨fun _ => ⟨⟨by omega, hall⟩, h4⟩, fun _ => rfl⟩
      · rw [if_neg h4]
        exact ⟨fun h => by omega, fun h => absurd h.2 h4⟩
  · rw [if_pos h2]
    exact ⟨fun h => absurd h h2, fun h => absurd (ck1_zero.2 (h.1.2 0 (by omega))) h2⟩
theorem rr_size {r : R3} (h : RR r) : szR r = ofC (rA r) (rB r) (rC r) ∧ 0 ≤ szR r ∧ szR r ≤ 2000001 := by
  have e : szR r = ofC (rA r) (rB r) (rC r) := size_eq' h.1
  have := ofC_bnd h.1
  exact ⟨e, by omega, by omega⟩
theorem dr_col {n : Nat} {f : Nat → R3} (h : DR n f) : 0 ≤ colD n f ∧ colD n f ≤ 2000001 := by
  unfold colD
  by_cases h1 : n = 1
  · rw [if_pos h1]; omega
  · rw [if_neg h1]
    have hn := h.1
    have := rr_size (h.2 1 (by omega))
    omega
theorem szD_right {n : Nat} {f : Nat → R3} {k s h : Int} (hr : chD n f k s h = 0) : szD n f k s h = szR (f 0) * colD n f := by unfold szD; rw [if_neg (by simp [hr])]
theorem dr_prod {n : Nat} {f : Nat → R3} (h : DR n f) : 0 ≤ szR (f 0) * colD n f ∧ szR (f 0) * colD n f ≤ 5000000000000 := by
  have hn := h.1
  have h0 := rr_size (h.2 0 (by omega))
  have h1 := dr_col h
  refine ⟨Int.mul_nonneg h0.2.1 h1.1, ?_⟩
  have := Int.mul_le_mul h0.2.2 h1.2 h1.1 (by omega)
  omega
/-- What two ranges have both. -/
def isR (r q : R3) : R3 := (isL (rA r) (rB r) (rC r) (rA q) (rB q) (rC q), isH (rA r) (rB r) (rC r) (rA q) (rB q) (rC q), isS (rA r) (rB r) (rC r) (rA q) (rB q) (rC q), ())
section
variable (n : Nat) (f : Nat → R3) (k s h : Int) (m : Nat) (g : Nat → R3) (k' s' h' : Int)
def boE : Int := if chD n f k s h ≠ 0 then chD n f k s h else if chD m g k' s' h' ≠ 0 then chD m g k' s' h' else if n ≠ m then 5 else 0
def diN : Nat := if boE n f k s h m g k' s' h' ≠ 0 then 0 else n
def diX (x : Int) : Int := if boE n f k s h m g k' s' h' ≠ 0 then 0 else x
end
def diF (f g : Nat → R3) : Nat → R3 := fun i => isR (f i) (g i)

section
variable {n : Nat} {f : Nat → R3} {k s h : Int} {m : Nat} {g : Nat → R3} {k' s' h' : Int}
theorem boE_zero : boE n f k s h m g k' s' h' = 0 ↔ chD n f k s h = 0 ∧ chD m g k' s' h' = 0 ∧ n = m := by
  unfold boE
  by_cases h1 : chD n f k s h = 0
  · rw [if_neg (by simp [h1])]
    by_cases h2 : chD m g k' s' h' = 0
    · rw [if_neg (by simp [h2])]
      by_cases h3 : n = m
      · rw [if_neg (by simp [h3])]; exact ⟨fun _ => ⟨h1, h2, h3⟩, fun _ => rfl⟩
      · rw [if_pos h3]; exact ⟨fun h => by omega, fun h => absurd h.2.2 h3⟩
    · rw [if_pos h2]; exact ⟨fun h => absurd h h2, fun h => absurd h.2.1 h2⟩
  · rw [if_pos h1]; exact ⟨fun h => absurd h h1, fun h => absurd h.1 h1⟩
end
end Go.RX.Span

/- Domains: the contracts of layer 2's functions. -/
set_option linter.unusedVariables false
namespace Go.RX.Span
open Go Go.RX

noncomputable def c_fits : Con := fun args => match args with
  | [.agg [.lit (.int .i64 k), .lit (.int .i64 s), .lit (.int .i64 h)]] => .ret (.lit (.bool (lk fitB k s h)))
  | _ => .stuck 1
noncomputable def c_DCheck : Con := fun args => match args with
  | [.agg [.row [.int .i64, .int .i64, .int .i64] n f, .lit (.int .i64 k), .lit (.int .i64 s), .lit (.int .i64 h)]] => .ask (Row64 n f) (.ret (.lit (.int .i64 (lk chD n f k s h))))
  | _ => .stuck 1
noncomputable def c_columns : Con := fun args => match args with
  | [.agg [.row [.int .i64, .int .i64, .int .i64] n f, .lit (.int .i64 k), .lit (.int .i64 s), .lit (.int .i64 h)]] => .ask (Row64 n f ∧ (n = 1 ∨ n = 2)) (.ret (.lit (.int .i64 (lk colD n f))))
  | _ => .stuck 1
noncomputable def c_DSize : Con := fun args => match args with
  | [.agg [.row [.int .i64, .int .i64, .int .i64] n f, .lit (.int .i64 k), .lit (.int .i64 s), .lit (.int .i64 h)]] => .ask (Row64 n f) (.ret (.lit (.int .i64 (lk szD n f k s h))))
  | _ => .stuck 1
noncomputable def c_both : Con := fun args => match args with
  | [.agg [.row [.int .i64, .int .i64, .int .i64] n f, .lit (.int .i64 k), .lit (.int .i64 s), .lit (.int .i64 h)], .agg [.row [.int .i64, .int .i64, .int .i64] m g, .lit (.int .i64 k'), .lit (.int .i64 s'), .lit (.int .i64 h')]] =>
    .ask (Row64 n f ∧ Row64 m g) (.ret (.lit (.int .i64 (lk boE n f k s h m g k' s' h'))))
  | _ => .stuck 1
noncomputable def c_DIntersect : Con := fun args => match args with
  | [.agg [.row [.int .i64, .int .i64, .int .i64] n f, .lit (.int .i64 k), .lit (.int .i64 s), .lit (.int .i64 h)], .agg [.row [.int .i64, .int .i64, .int .i64] m g, .lit (.int .i64 k'), .lit (.int .i64 s'), .lit (.int .i64 h')]] =>
    .ask (Row64 n f ∧ Row64 m g) (.ret (.tup [.agg [.row [.int .i64, .int .i64, .int .i64] (lk diN n f k s h m g k' s' h') (lk diF f g), .lit (.int .i64 (lk diX n f k s h m g k' s' h' k)), .lit (.int .i64 (lk diX n f k s h m g k' s' h' s)), .lit (.int .i64 (lk diX n f k s h m g k' s' h' h))], .lit (.int .i64 (lk boE n f k s h m g k' s' h'))]))
  | _ => .stuck 1
end Go.RX.Span

/- Domains: Check, Size: the walks. -/
set_option linter.unusedVariables false
set_option linter.unusedSimpArgs false
set_option maxRecDepth 100000
namespace Go.RX.Span
open Go Go.RX
attribute [local irreducible] sx conB

set_option maxRecDepth 100000 in
theorem t_fits (k s h : Int) : conB Go.Proofs.Tryz.prog (conOf []) noLoops 10 53 [.agg [.lit (.int .i64 k), .lit (.int .i64 s), .lit (.int .i64 h)]] =
    T.br (U.eq k (0 : Int)) (.br (U.ge s (0 : Int)) (.br (U.le s (0 : Int)) (.br (U.ge h (0 : Int)) (.ret (.lit (.bool (U.lt h (8 : Int))))) (.ret (.lit (.bool false)))) (.ret (.lit
      (.bool false)))) (.ret (.lit (.bool false)))) (.br (U.eq k (3 : Int)) (.br (U.ge s (1 : Int)) (.br (U.le s (1000 : Int)) (.br (U.ge h (0 : Int)) (.ret (.lit (.bool (U.lt h (1 :
      Int))))) (.ret (.lit (.bool false)))) (.ret (.lit (.bool false)))) (.ret (.lit (.bool false)))) (.br (U.eq k (1 : Int)) (.br (U.ge s (0 : Int)) (.br (U.le s (0 : Int)) (.br (U.ge h
      (0 : Int)) (.ret (.lit (.bool (U.lt h (1 : Int))))) (.ret (.lit (.bool false)))) (.ret (.lit (.bool false)))) (.ret (.lit (.bool false)))) (.br (U.eq k (2 : Int)) (.br (U.ge s (0 :
      Int)) (.br (U.le s (0 : Int)) (.br (U.ge h (0 : Int)) (.ret (.lit (.bool (U.lt h (1 : Int))))) (.ret (.lit (.bool false)))) (.ret (.lit (.bool false)))) (.ret (.lit (.bool false))))
      (.br (U.eq k (4 : Int)) (.br (U.ge s (0 : Int)) (.br (U.le s (0 : Int)) (.br (U.ge h (0 : Int)) (.ret (.lit (.bool (U.lt h (1 : Int))))) (.ret (.lit (.bool false)))) (.ret (.lit
      (.bool false)))) (.ret (.lit (.bool false)))) (.ret (.lit (.bool false))))))) := by kernel_rfl
theorem fits_ok : ConOK P 53 c_fits := con_of (allOK mixed none_ok) 10 53 fun args r h => by
  unfold c_fits at h
  split at h
  · rename_i k s h'
    obtain rfl := T.is_ret h
    rw [t_fits]
    simp only [T.All, U.le_t, U.le_f, U.lt_t, U.lt_f, U.gt_t, U.gt_f, U.ge_t, U.ge_f, U.eq_t, U.eq_f, U.ne_t, U.ne_f, U.not_t, U.not_f, U.andb_t, U.andb_f, SV.lit.injEq, SV.agg.injEq, SV.tup.injEq, List.cons.injEq, Value.int.injEq, Value.bool.injEq, true_and, and_true, lk_eq, fitB]
    repeat' (first | apply And.intro | intro _)
    all_goals first | exact (decide_eq_false (by omega)).symm | (rw [U.lt_eq]; exact decide_eq_decide.2 (by constructor <;> intro _ <;> omega))
  · exact h.elim
noncomputable abbrev d0 : List (Nat × Con) := (53, c_fits) :: (57, c_Intersect) :: k8 --%K
theorem d0_ok : ∀ p ∈ d0, ConOK P p.1 p.2 := by
  intro p hp
  simp only [d0, List.mem_cons] at hp
  rcases hp with rfl | rfl | hp
  · exact fits_ok
  · exact Intersect_ok
  · exact k8_ok p (by simpa [k8] using hp)
noncomputable abbrev lDC : List (Nat × Loops) := [(25, [(4, .un 3)])] --%K
set_option maxRecDepth 100000 in
theorem t_DCheck (n : Nat) (f : Nat → R3) (k s h : Int) : conB Go.Proofs.Tryz.prog (conOf d0) (loopsOf lDC) 10 25 [.agg [.row [.int .i64, .int .i64, .int .i64] n f, .lit (.int .i64 k), .lit (.int .i64 s), .lit (.int .i64 h)]] =
    T.br (U.lt (Int.ofNat n) (1 : Int)) (.ret (.lit (.int .i64 5))) (.br (U.gt (Int.ofNat n) (2 : Int)) (.ret (.lit (.int .i64 5))) (.br (U.lt (0 : Int) (Int.ofNat n)) (.ask ((0 : Int)
      ≤ (0 : Int) ∧ (0 : Int) < ↑n) (.ask (I64 (f (U.toNat (Int.ofNat 0))).1 ∧ I64 (f (U.toNat (Int.ofNat 0))).2.1 ∧ I64 (f (U.toNat (Int.ofNat 0))).2.2.1) (.br (U.ne (lk chk (f (U.toNat
      (Int.ofNat 0))).1 (f (U.toNat (Int.ofNat 0))).2.1 (f (U.toNat (Int.ofNat 0))).2.2.1) (0 : Int)) (.ret (.lit (.int .i64 (lk chk (f (U.toNat (Int.ofNat 0))).1 (f (U.toNat (Int.ofNat
      0))).2.1 (f (U.toNat (Int.ofNat 0))).2.2.1)))) (.br (U.lt (f (U.toNat (Int.ofNat 0))).2.2.1 (0 : Int)) (.ret (.lit (.int .i64 2))) (.br (U.lt (1 : Int) (Int.ofNat n)) (.ask ((0 :
      Int) ≤ (1 : Int) ∧ (1 : Int) < ↑n) (.ask (I64 (f (U.toNat (Int.ofNat 1))).1 ∧ I64 (f (U.toNat (Int.ofNat 1))).2.1 ∧ I64 (f (U.toNat (Int.ofNat 1))).2.2.1) (.br (U.ne (lk chk (f
      (U.toNat (Int.ofNat 1))).1 (f (U.toNat (Int.ofNat 1))).2.1 (f (U.toNat (Int.ofNat 1))).2.2.1) (0 : Int)) (.ret (.lit (.int .i64 (lk chk (f (U.toNat (Int.ofNat 1))).1 (f (U.toNat
      (Int.ofNat 1))).2.1 (f (U.toNat (Int.ofNat 1))).2.2.1)))) (.br (U.lt (f (U.toNat (Int.ofNat 1))).2.2.1 (0 : Int)) (.ret (.lit (.int .i64 2))) (.br (U.lt (2 : Int) (Int.ofNat n))
      (.ask ((0 : Int) ≤ (2 : Int) ∧ (2 : Int) < ↑n) (.ask (I64 (f (U.toNat (Int.ofNat 2))).1 ∧ I64 (f (U.toNat (Int.ofNat 2))).2.1 ∧ I64 (f (U.toNat (Int.ofNat 2))).2.2.1) (.br (U.ne (lk
      chk (f (U.toNat (Int.ofNat 2))).1 (f (U.toNat (Int.ofNat 2))).2.1 (f (U.toNat (Int.ofNat 2))).2.2.1) (0 : Int)) (.ret (.lit (.int .i64 (lk chk (f (U.toNat (Int.ofNat 2))).1 (f
      (U.toNat (Int.ofNat 2))).2.1 (f (U.toNat (Int.ofNat 2))).2.2.1)))) (.br (U.lt (f (U.toNat (Int.ofNat 2))).2.2.1 (0 : Int)) (.ret (.lit (.int .i64 2))) (.stuck (nat_lit 105))))))
      (.br (U.not (lk fitB k s h)) (.ret (.lit (.int .i64 2))) (.ret (.lit (.int .i64 0))))))))) (.br (U.not (lk fitB k s h)) (.ret (.lit (.int .i64 2))) (.ret (.lit (.int .i64 0)))))))))
      (.br (U.not (lk fitB k s h)) (.ret (.lit (.int .i64 2))) (.ret (.lit (.int .i64 0)))))) := by kernel_rfl
theorem lDC_ok : ∀ p ∈ lDC, LoopsOK P p.2 (bodyOf P p.1) := by
  intro p hp
  simp only [lDC, List.mem_singleton] at hp
  subst hp
  exact loopsOK_un fun q hq => by simp only [List.mem_singleton] at hq; subst hq; exact ⟨3, rfl⟩
theorem tn (j : Nat) : U.toNat (Int.ofNat j) = j := by rw [U.toNat_eq]; rfl
theorem r3 (r : R3) : ∃ a b c : Int, r = (a, b, c, ()) := ⟨r.1, r.2.1, r.2.2.1, rfl⟩
theorem DCheck_ok : ConOK P 25 c_DCheck := con_of (allOKL mixed d0_ok lDC_ok) 10 25 fun args r h => by
  unfold c_DCheck at h
  split at h
  · rename_i n f k s h'
    have hp : Row64 n f := (T.is_ask h).1
    have h := (T.is_ask h).2
    obtain rfl := T.is_ret h
    rw [t_DCheck]
    obtain ⟨a0, b0, c0, hf0⟩ := r3 (f 0)
    obtain ⟨a1, b1, c1, hf1⟩ := r3 (f 1)
    have hI0 : 0 < n → I64 a0 ∧ I64 b0 ∧ I64 c0 := fun hn => by have := hp 0 hn; rw [hf0] at this; exact this
    have hI1 : 1 < n → I64 a1 ∧ I64 b1 ∧ I64 c1 := fun hn => by have := hp 1 hn; rw [hf1] at this; exact this
    have k0 : ck1 (f 0) = if chk a0 b0 c0 ≠ 0 then chk a0 b0 c0 else if c0 < 0 then 2 else 0 := by rw [hf0]; rfl
    have k1 : ck1 (f 1) = if chk a1 b1 c1 ≠ 0 then chk a1 b1 c1 else if c1 < 0 then 2 else 0 := by rw [hf1]; rfl
    simp only [tn, lk_eq, hf0, hf1]
    simp only [Int.ofNat_eq_natCast]
    by_cases h1 : n < 1
    · have : n = 0 := by omega
      subst this
      simp [T.All, U.lt_eq, chD]
    by_cases h2 : 2 < n
    · have e : chD n f k s h' = 5 := by unfold chD; rw [if_pos (.inr h2)]
      have g1 : U.lt (n : Int) 1 = false := by rw [U.lt_eq]; exact decide_eq_false (by omega)
      have g2 : U.gt (n : Int) 2 = true := by rw [U.gt_eq]; exact decide_eq_true (by omega)
      simp only [T.All, g1, g2, e]
      simp
    have hn : n = 1 ∨ n = 2 := by omega
    by_cases z0 : chk a0 b0 c0 = 0
    · by_cases m0 : c0 < 0
      · rw [if_neg (by simp [z0]), if_pos m0] at k0
        have e2 : chD n f k s h' = 2 := by unfold chD; rw [if_neg (by omega), if_pos (by omega), k0]
        rcases hn with rfl | rfl <;> simp [T.All, U.lt_eq, U.gt_eq, U.ne_eq, hI0, z0, m0, e2]
      · rw [if_neg (by simp [z0]), if_neg m0] at k0
        rcases hn with rfl | rfl
        · have e2 : chD 1 f k s h' = if fitB k s h' = true then 0 else 2 := by unfold chD; rw [if_neg (by omega), if_neg (by omega), if_neg (by omega)]
          cases hf : fitB k s h' <;> simp [T.All, U.lt_eq, U.gt_eq, U.ne_eq, U.not_eq, hI0, z0, m0, e2, hf]
        · by_cases z1 : chk a1 b1 c1 = 0
          · by_cases m1 : c1 < 0
            · rw [if_neg (by simp [z1]), if_pos m1] at k1
              have e2 : chD 2 f k s h' = 2 := by unfold chD; rw [if_neg (by omega), if_neg (by omega), if_pos ⟨rfl, by omega⟩, k1]
              simp [T.All, U.lt_eq, U.gt_eq, U.ne_eq, hI0, hI1, z0, m0, z1, m1, e2]
            · rw [if_neg (by simp [z1]), if_neg m1] at k1
              have e2 : chD 2 f k s h' = if fitB k s h' = true then 0 else 2 := by unfold chD; rw [if_neg (by omega), if_neg (by omega), if_neg (fun h => h.2 k1)]
              cases hf : fitB k s h' <;> simp [T.All, U.lt_eq, U.gt_eq, U.ne_eq, U.not_eq, hI0, hI1, z0, m0, z1, m1, e2, hf]
          · rw [if_pos z1] at k1
            have e2 : chD 2 f k s h' = chk a1 b1 c1 := by unfold chD; rw [if_neg (by omega), if_neg (by omega), if_pos ⟨rfl, by rw [k1]; exact z1⟩, k1]
            simp [T.All, U.lt_eq, U.gt_eq, U.ne_eq, hI0, hI1, z0, m0, z1, e2]
    · rw [if_pos z0] at k0
      have e2 : chD n f k s h' = chk a0 b0 c0 := by unfold chD; rw [if_neg (by omega), if_pos (by rw [k0]; exact z0), k0]
      rcases hn with rfl | rfl <;> simp [T.All, U.lt_eq, U.gt_eq, U.ne_eq, hI0, z0, e2]
  · exact h.elim
end Go.RX.Span

/- Domains: Intersect, Within, Same: the walks. -/
set_option linter.unusedVariables false
set_option linter.unusedSimpArgs false
set_option maxRecDepth 100000
namespace Go.RX.Span
open Go Go.RX
attribute [local irreducible] sx conB

noncomputable abbrev d1 : List (Nat × Con) := (25, c_DCheck) :: d0 --%K
theorem d1_ok : ∀ p ∈ d1, ConOK P p.1 p.2 := by
  intro p hp
  simp only [d1, List.mem_cons] at hp
  rcases hp with rfl | hp
  · exact DCheck_ok
  · exact d0_ok p (by simpa [d0] using hp)
set_option maxRecDepth 100000 in
theorem t_both (n : Nat) (f : Nat → R3) (k s h : Int) (m : Nat) (g : Nat → R3) (k1 s1 h1 : Int) : conB Go.Proofs.Tryz.prog (conOf d1) noLoops 10 54 [.agg [.row [.int .i64, .int .i64, .int .i64] n f, .lit (.int .i64 k), .lit (.int .i64 s), .lit (.int .i64 h)], .agg [.row [.int .i64, .int .i64, .int .i64] m g, .lit (.int .i64 k1), .lit (.int .i64 s1), .lit (.int .i64 h1)]] =
    T.ask (Row64 n f) (.br (U.ne (lk chD n f k s h) (0 : Int)) (.ret (.lit (.int .i64 (lk chD n f k s h)))) (.ask (Row64 m g) (.br (U.ne (lk chD m g k1 s1 h1) (0 : Int)) (.ret (.lit
      (.int .i64 (lk chD m g k1 s1 h1)))) (.br (U.ne (Int.ofNat n) (Int.ofNat m)) (.ret (.lit (.int .i64 5))) (.ret (.lit (.int .i64 0))))))) := by kernel_rfl
theorem both_ok : ConOK P 54 c_both := con_of (allOK mixed d1_ok) 10 54 fun args r h => by
  unfold c_both at h
  split at h
  · rename_i n f k s h' m g k1 s1 h1
    obtain ⟨hp, hq⟩ := (T.is_ask h).1
    have h := (T.is_ask h).2
    obtain rfl := T.is_ret h
    rw [t_both]
    unfold boE
    by_cases c1 : chD n f k s h' = 0
    · by_cases c2 : chD m g k1 s1 h1 = 0
      · by_cases c3 : n = m
        · subst c3
          simp [T.All, U.ne_eq, lk_eq, hp, hq, c1, c2]
        · have : ¬ ((n : Int) = (m : Int)) := by omega
          simp [T.All, U.ne_eq, lk_eq, hp, hq, c1, c2, c3, this]
      · simp [T.All, U.ne_eq, lk_eq, hp, hq, c1, c2]
    · simp [T.All, U.ne_eq, lk_eq, hp, hq, c1]
  · exact h.elim
set_option maxRecDepth 100000 in
theorem t_columns (n : Nat) (f : Nat → R3) (k s h : Int) : conB Go.Proofs.Tryz.prog (conOf d1) noLoops 10 58 [.agg [.row [.int .i64, .int .i64, .int .i64] n f, .lit (.int .i64 k), .lit (.int .i64 s), .lit (.int .i64 h)]] =
    T.br (U.eq (Int.ofNat n) (1 : Int)) (.ret (.lit (.int .i64 1))) (.ask ((0 : Int) ≤ (1 : Int) ∧ (1 : Int) < ↑n) (.ask (I64 (f (U.toNat (1 : Int))).1 ∧ I64 (f (U.toNat (1 : Int))).2.1
      ∧ I64 (f (U.toNat (1 : Int))).2.2.1) (.ret (.lit (.int .i64 (lk size (f (U.toNat (1 : Int))).1 (f (U.toNat (1 : Int))).2.1 (f (U.toNat (1 : Int))).2.2.1)))))) := by kernel_rfl
theorem tn1 : U.toNat (1 : Int) = 1 := by rw [U.toNat_eq]; rfl
theorem tn0 : U.toNat (0 : Int) = 0 := by rw [U.toNat_eq]; rfl
theorem columns_ok : ConOK P 58 c_columns := con_of (allOK mixed d1_ok) 10 58 fun args r h => by
  unfold c_columns at h
  split at h
  · rename_i n f k s h'
    obtain ⟨hp, hn⟩ := (T.is_ask h).1
    have h := (T.is_ask h).2
    obtain rfl := T.is_ret h
    rw [t_columns]
    simp only [tn1, lk_eq]
    rcases hn with rfl | rfl
    · simp [T.All, U.eq_eq, colD]
    · have hI : I64 (f 1).1 ∧ I64 (f 1).2.1 ∧ I64 (f 1).2.2.1 := hp 1 (by omega)
      refine ⟨fun h => ?_, fun _ => ⟨by omega, hI, rfl⟩⟩
      rw [U.eq_t] at h
      exact absurd h (by decide)
  · exact h.elim
noncomputable abbrev d2 : List (Nat × Con) := (54, c_both) :: (58, c_columns) :: d1 --%K
theorem d2_ok : ∀ p ∈ d2, ConOK P p.1 p.2 := by
  intro p hp
  simp only [d2, List.mem_cons] at hp
  rcases hp with rfl | rfl | hp
  · exact both_ok
  · exact columns_ok
  · exact d1_ok p (by simpa [d1] using hp)
set_option maxRecDepth 100000 in
theorem t_DSize (n : Nat) (f : Nat → R3) (k s h : Int) : conB Go.Proofs.Tryz.prog (conOf d2) noLoops 10 51 [.agg [.row [.int .i64, .int .i64, .int .i64] n f, .lit (.int .i64 k), .lit (.int .i64 s), .lit (.int .i64 h)]] =
    T.ask (Row64 n f) (.br (U.ne (lk chD n f k s h) (0 : Int)) (.ret (.lit (.int .i64 0))) (.ask ((0 : Int) ≤ (0 : Int) ∧ (0 : Int) < ↑n) (.ask (I64 (f (U.toNat (0 : Int))).1 ∧ I64 (f
      (U.toNat (0 : Int))).2.1 ∧ I64 (f (U.toNat (0 : Int))).2.2.1) (.ask (Row64 n f ∧ (n = (1 : Nat) ∨ n = (2 : Nat))) (.ret (.lit (.int .i64 (U.mul .i64 (lk size (f (U.toNat (0 :
      Int))).1 (f (U.toNat (0 : Int))).2.1 (f (U.toNat (0 : Int))).2.2.1) (lk colD n f))))))))) := by kernel_rfl
theorem DSize_ok : ConOK P 51 c_DSize := con_of (allOK mixed d2_ok) 10 51 fun args r h => by
  unfold c_DSize at h
  split at h
  · rename_i n f k s h'
    have hp : Row64 n f := (T.is_ask h).1
    have h := (T.is_ask h).2
    obtain rfl := T.is_ret h
    rw [t_DSize]
    simp only [tn0, lk_eq]
    refine ⟨hp, fun hc => ?_, fun hc => ?_⟩
    · have hc : chD n f k s h' ≠ 0 := U.ne_t.mp hc
      have e : szD n f k s h' = 0 := by unfold szD; rw [if_pos hc]
      rw [e]; exact rfl
    · have hc : chD n f k s h' = 0 := U.ne_f.mp hc
      obtain ⟨d1, d2⟩ := chD_zero.1 hc
      have hn := d1.1
      have hb := dr_prod d1
      refine ⟨by omega, hp 0 (by omega), ⟨hp, hn⟩, ?_⟩
      show SV.lit (.int .i64 (U.mul .i64 (szR (f 0)) (colD n f))) = _
      rw [U.mul64 (by unfold I64; omega), szD_right hc]
  · exact h.elim
noncomputable abbrev lDI : List (Nat × Loops) := [(55, [(4, .un 3)])] --%K
theorem lDI_ok : ∀ p ∈ lDI, LoopsOK P p.2 (bodyOf P p.1) := by
  intro p hp
  simp only [lDI, List.mem_singleton] at hp
  subst hp
  exact loopsOK_un fun q hq => by simp only [List.mem_singleton] at hq; subst hq; exact ⟨3, rfl⟩
set_option maxRecDepth 100000 in
theorem t_DIntersect (n : Nat) (f : Nat → R3) (k s h : Int) (m : Nat) (g : Nat → R3) (k1 s1 h1 : Int) : conB Go.Proofs.Tryz.prog (conOf d2) (loopsOf lDI) 10 26 [.agg [.row [.int .i64, .int .i64, .int .i64] n f, .lit (.int .i64 k), .lit (.int .i64 s), .lit (.int .i64 h)], .agg [.row [.int .i64, .int .i64, .int .i64] m g, .lit (.int .i64 k1), .lit (.int .i64 s1), .lit (.int .i64 h1)]] =
    T.ask (Row64 n f ∧ Row64 m g) (.br (U.ne (lk boE n f k s h m g k1 s1 h1) (0 : Int)) (.ret (.tup [.agg [.lit (.slice none (nat_lit 0) (nat_lit 0)), .lit (.int .i64 0), .lit (.int
      .i64 0), .lit (.int .i64 0)], .lit (.int .i64 (lk boE n f k s h m g k1 s1 h1))])) (.br (U.lt (0 : Int) (Int.ofNat n)) (.ask ((0 : Int) ≤ (0 : Int) ∧ (0 : Int) < ↑n) (.ask ((0 : Int)
      ≤ (0 : Int) ∧ (0 : Int) < ↑m) (.ask (I64 (f (U.toNat (Int.ofNat 0))).1 ∧ I64 (f (U.toNat (Int.ofNat 0))).2.1 ∧ I64 (f (U.toNat (Int.ofNat 0))).2.2.1 ∧ I64 (g (U.toNat (Int.ofNat
      0))).1 ∧ I64 (g (U.toNat (Int.ofNat 0))).2.1 ∧ I64 (g (U.toNat (Int.ofNat 0))).2.2.1) (.br (U.ne (lk isEr (f (U.toNat (Int.ofNat 0))).1 (f (U.toNat (Int.ofNat 0))).2.1 (f (U.toNat
      (Int.ofNat 0))).2.2.1 (g (U.toNat (Int.ofNat 0))).1 (g (U.toNat (Int.ofNat 0))).2.1 (g (U.toNat (Int.ofNat 0))).2.2.1) (0 : Int)) (.br (U.ne (lk isEr (f (U.toNat (Int.ofNat 0))).1
      (f (U.toNat (Int.ofNat 0))).2.1 (f (U.toNat (Int.ofNat 0))).2.2.1 (g (U.toNat (Int.ofNat 0))).1 (g (U.toNat (Int.ofNat 0))).2.1 (g (U.toNat (Int.ofNat 0))).2.2.1) (0 : Int)) (.ret
      (.tup [.agg [.lit (.slice none (nat_lit 0) (nat_lit 0)), .lit (.int .i64 0), .lit (.int .i64 0), .lit (.int .i64 0)], .lit (.int .i64 (lk isEr (f (U.toNat (Int.ofNat 0))).1 (f
      (U.toNat (Int.ofNat 0))).2.1 (f (U.toNat (Int.ofNat 0))).2.2.1 (g (U.toNat (Int.ofNat 0))).1 (g (U.toNat (Int.ofNat 0))).2.1 (g (U.toNat (Int.ofNat 0))).2.2.1))])) (.ret (.tup [.agg
      [.lit (.slice none (nat_lit 0) (nat_lit 0)), .lit (.int .i64 k), .lit (.int .i64 s), .lit (.int .i64 h)], .lit (.int .i64 0)]))) (.ask ((1 : Nat) * nat_lit 24 ≤ nat_lit
      140737488351232) (.br (U.lt (1 : Int) (Int.ofNat n)) (.ask ((0 : Int) ≤ (1 : Int) ∧ (1 : Int) < ↑n) (.ask ((0 : Int) ≤ (1 : Int) ∧ (1 : Int) < ↑m) (.ask (I64 (f (U.toNat (Int.ofNat
      1))).1 ∧ I64 (f (U.toNat (Int.ofNat 1))).2.1 ∧ I64 (f (U.toNat (Int.ofNat 1))).2.2.1 ∧ I64 (g (U.toNat (Int.ofNat 1))).1 ∧ I64 (g (U.toNat (Int.ofNat 1))).2.1 ∧ I64 (g (U.toNat
      (Int.ofNat 1))).2.2.1) (.br (U.ne (lk isEr (f (U.toNat (Int.ofNat 1))).1 (f (U.toNat (Int.ofNat 1))).2.1 (f (U.toNat (Int.ofNat 1))).2.2.1 (g (U.toNat (Int.ofNat 1))).1 (g (U.toNat
      (Int.ofNat 1))).2.1 (g (U.toNat (Int.ofNat 1))).2.2.1) (0 : Int)) (.br (U.ne (lk isEr (f (U.toNat (Int.ofNat 1))).1 (f (U.toNat (Int.ofNat 1))).2.1 (f (U.toNat (Int.ofNat 1))).2.2.1
      (g (U.toNat (Int.ofNat 1))).1 (g (U.toNat (Int.ofNat 1))).2.1 (g (U.toNat (Int.ofNat 1))).2.2.1) (0 : Int)) (.ret (.tup [.agg [.lit (.slice none (nat_lit 0) (nat_lit 0)), .lit (.int
      .i64 0), .lit (.int .i64 0), .lit (.int .i64 0)], .lit (.int .i64 (lk isEr (f (U.toNat (Int.ofNat 1))).1 (f (U.toNat (Int.ofNat 1))).2.1 (f (U.toNat (Int.ofNat 1))).2.2.1 (g
      (U.toNat (Int.ofNat 1))).1 (g (U.toNat (Int.ofNat 1))).2.1 (g (U.toNat (Int.ofNat 1))).2.2.1))])) (.ret (.tup [.agg [.row [.int .i64, .int .i64, .int .i64] (nat_lit 1) fun x => (lk
      isL (f (U.toNat (Int.ofNat 0))).1 (f (U.toNat (Int.ofNat 0))).2.1 (f (U.toNat (Int.ofNat 0))).2.2.1 (g (U.toNat (Int.ofNat 0))).1 (g (U.toNat (Int.ofNat 0))).2.1 (g (U.toNat
      (Int.ofNat 0))).2.2.1, lk isH (f (U.toNat (Int.ofNat 0))).1 (f (U.toNat (Int.ofNat 0))).2.1 (f (U.toNat (Int.ofNat 0))).2.2.1 (g (U.toNat (Int.ofNat 0))).1 (g (U.toNat (Int.ofNat
      0))).2.1 (g (U.toNat (Int.ofNat 0))).2.2.1, lk isS (f (U.toNat (Int.ofNat 0))).1 (f (U.toNat (Int.ofNat 0))).2.1 (f (U.toNat (Int.ofNat 0))).2.2.1 (g (U.toNat (Int.ofNat 0))).1 (g
      (U.toNat (Int.ofNat 0))).2.1 (g (U.toNat (Int.ofNat 0))).2.2.1, PUnit.unit), .lit (.int .i64 k), .lit (.int .i64 s), .lit (.int .i64 h)], .lit (.int .i64 0)]))) (.ask (((1 : Nat) +
      (1 : Nat)) * nat_lit 24 ≤ nat_lit 140737488351232) (.br (U.lt (2 : Int) (Int.ofNat n)) (.ask ((0 : Int) ≤ (2 : Int) ∧ (2 : Int) < ↑n) (.ask ((0 : Int) ≤ (2 : Int) ∧ (2 : Int) < ↑m)
      (.ask (I64 (f (U.toNat (Int.ofNat 2))).1 ∧ I64 (f (U.toNat (Int.ofNat 2))).2.1 ∧ I64 (f (U.toNat (Int.ofNat 2))).2.2.1 ∧ I64 (g (U.toNat (Int.ofNat 2))).1 ∧ I64 (g (U.toNat
      (Int.ofNat 2))).2.1 ∧ I64 (g (U.toNat (Int.ofNat 2))).2.2.1) (.br (U.ne (lk isEr (f (U.toNat (Int.ofNat 2))).1 (f (U.toNat (Int.ofNat 2))).2.1 (f (U.toNat (Int.ofNat 2))).2.2.1 (g
      (U.toNat (Int.ofNat 2))).1 (g (U.toNat (Int.ofNat 2))).2.1 (g (U.toNat (Int.ofNat 2))).2.2.1) (0 : Int)) (.br (U.ne (lk isEr (f (U.toNat (Int.ofNat 2))).1 (f (U.toNat (Int.ofNat
      2))).2.1 (f (U.toNat (Int.ofNat 2))).2.2.1 (g (U.toNat (Int.ofNat 2))).1 (g (U.toNat (Int.ofNat 2))).2.1 (g (U.toNat (Int.ofNat 2))).2.2.1) (0 : Int)) (.ret (.tup [.agg [.lit
      (.slice none (nat_lit 0) (nat_lit 0)), .lit (.int .i64 0), .lit (.int .i64 0), .lit (.int .i64 0)], .lit (.int .i64 (lk isEr (f (U.toNat (Int.ofNat 2))).1 (f (U.toNat (Int.ofNat
      2))).2.1 (f (U.toNat (Int.ofNat 2))).2.2.1 (g (U.toNat (Int.ofNat 2))).1 (g (U.toNat (Int.ofNat 2))).2.1 (g (U.toNat (Int.ofNat 2))).2.2.1))])) (.ret (.tup [.agg [.row [.int .i64,
      .int .i64, .int .i64] (nat_lit 2) (U.cat (nat_lit 1) (fun x => (lk isL (f (U.toNat (Int.ofNat 0))).1 (f (U.toNat (Int.ofNat 0))).2.1 (f (U.toNat (Int.ofNat 0))).2.2.1 (g (U.toNat
      (Int.ofNat 0))).1 (g (U.toNat (Int.ofNat 0))).2.1 (g (U.toNat (Int.ofNat 0))).2.2.1, lk isH (f (U.toNat (Int.ofNat 0))).1 (f (U.toNat (Int.ofNat 0))).2.1 (f (U.toNat (Int.ofNat
      0))).2.2.1 (g (U.toNat (Int.ofNat 0))).1 (g (U.toNat (Int.ofNat 0))).2.1 (g (U.toNat (Int.ofNat 0))).2.2.1, lk isS (f (U.toNat (Int.ofNat 0))).1 (f (U.toNat (Int.ofNat 0))).2.1 (f
      (U.toNat (Int.ofNat 0))).2.2.1 (g (U.toNat (Int.ofNat 0))).1 (g (U.toNat (Int.ofNat 0))).2.1 (g (U.toNat (Int.ofNat 0))).2.2.1, PUnit.unit)) fun x => (lk isL (f (U.toNat (Int.ofNat
      1))).1 (f (U.toNat (Int.ofNat 1))).2.1 (f (U.toNat (Int.ofNat 1))).2.2.1 (g (U.toNat (Int.ofNat 1))).1 (g (U.toNat (Int.ofNat 1))).2.1 (g (U.toNat (Int.ofNat 1))).2.2.1, lk isH (f
      (U.toNat (Int.ofNat 1))).1 (f (U.toNat (Int.ofNat 1))).2.1 (f (U.toNat (Int.ofNat 1))).2.2.1 (g (U.toNat (Int.ofNat 1))).1 (g (U.toNat (Int.ofNat 1))).2.1 (g (U.toNat (Int.ofNat
      1))).2.2.1, lk isS (f (U.toNat (Int.ofNat 1))).1 (f (U.toNat (Int.ofNat 1))).2.1 (f (U.toNat (Int.ofNat 1))).2.2.1 (g (U.toNat (Int.ofNat 1))).1 (g (U.toNat (Int.ofNat 1))).2.1 (g
      (U.toNat (Int.ofNat 1))).2.2.1, PUnit.unit)), .lit (.int .i64 k), .lit (.int .i64 s), .lit (.int .i64 h)], .lit (.int .i64 0)]))) (.ask (((1 : Nat) + (1 : Nat) + (1 : Nat)) *
      nat_lit 24 ≤ nat_lit 140737488351232) (.stuck (nat_lit 105))))))) (.br (U.ne (lk isEr (f (U.toNat (Int.ofNat 1))).1 (f (U.toNat (Int.ofNat 1))).2.1 (f (U.toNat (Int.ofNat 1))).2.2.1
      (g (U.toNat (Int.ofNat 1))).1 (g (U.toNat (Int.ofNat 1))).2.1 (g (U.toNat (Int.ofNat 1))).2.2.1) (0 : Int)) (.ret (.tup [.agg [.lit (.slice none (nat_lit 0) (nat_lit 0)), .lit (.int
      .i64 0), .lit (.int .i64 0), .lit (.int .i64 0)], .lit (.int .i64 (lk isEr (f (U.toNat (Int.ofNat 1))).1 (f (U.toNat (Int.ofNat 1))).2.1 (f (U.toNat (Int.ofNat 1))).2.2.1 (g
      (U.toNat (Int.ofNat 1))).1 (g (U.toNat (Int.ofNat 1))).2.1 (g (U.toNat (Int.ofNat 1))).2.2.1))])) (.ret (.tup [.agg [.row [.int .i64, .int .i64, .int .i64] (nat_lit 2) (U.cat
      (nat_lit 1) (fun x => (lk isL (f (U.toNat (Int.ofNat 0))).1 (f (U.toNat (Int.ofNat 0))).2.1 (f (U.toNat (Int.ofNat 0))).2.2.1 (g (U.toNat (Int.ofNat 0))).1 (g (U.toNat (Int.ofNat
      0))).2.1 (g (U.toNat (Int.ofNat 0))).2.2.1, lk isH (f (U.toNat (Int.ofNat 0))).1 (f (U.toNat (Int.ofNat 0))).2.1 (f (U.toNat (Int.ofNat 0))).2.2.1 (g (U.toNat (Int.ofNat 0))).1 (g
      (U.toNat (Int.ofNat 0))).2.1 (g (U.toNat (Int.ofNat 0))).2.2.1, lk isS (f (U.toNat (Int.ofNat 0))).1 (f (U.toNat (Int.ofNat 0))).2.1 (f (U.toNat (Int.ofNat 0))).2.2.1 (g (U.toNat
      (Int.ofNat 0))).1 (g (U.toNat (Int.ofNat 0))).2.1 (g (U.toNat (Int.ofNat 0))).2.2.1, PUnit.unit)) fun x => (lk isL (f (U.toNat (Int.ofNat 1))).1 (f (U.toNat (Int.ofNat 1))).2.1 (f
      (U.toNat (Int.ofNat 1))).2.2.1 (g (U.toNat (Int.ofNat 1))).1 (g (U.toNat (Int.ofNat 1))).2.1 (g (U.toNat (Int.ofNat 1))).2.2.1, lk isH (f (U.toNat (Int.ofNat 1))).1 (f (U.toNat
      (Int.ofNat 1))).2.1 (f (U.toNat (Int.ofNat 1))).2.2.1 (g (U.toNat (Int.ofNat 1))).1 (g (U.toNat (Int.ofNat 1))).2.1 (g (U.toNat (Int.ofNat 1))).2.2.1, lk isS (f (U.toNat (Int.ofNat
      1))).1 (f (U.toNat (Int.ofNat 1))).2.1 (f (U.toNat (Int.ofNat 1))).2.2.1 (g (U.toNat (Int.ofNat 1))).1 (g (U.toNat (Int.ofNat 1))).2.1 (g (U.toNat (Int.ofNat 1))).2.2.1,
      PUnit.unit)), .lit (.int .i64 k), .lit (.int .i64 s), .lit (.int .i64 h)], .lit (.int .i64 0)]))))))))) (.br (U.ne (lk isEr (f (U.toNat (Int.ofNat 0))).1 (f (U.toNat (Int.ofNat
      0))).2.1 (f (U.toNat (Int.ofNat 0))).2.2.1 (g (U.toNat (Int.ofNat 0))).1 (g (U.toNat (Int.ofNat 0))).2.1 (g (U.toNat (Int.ofNat 0))).2.2.1) (0 : Int)) (.ret (.tup [.agg [.lit
      (.slice none (nat_lit 0) (nat_lit 0)), .lit (.int .i64 0), .lit (.int .i64 0), .lit (.int .i64 0)], .lit (.int .i64 (lk isEr (f (U.toNat (Int.ofNat 0))).1 (f (U.toNat (Int.ofNat
      0))).2.1 (f (U.toNat (Int.ofNat 0))).2.2.1 (g (U.toNat (Int.ofNat 0))).1 (g (U.toNat (Int.ofNat 0))).2.1 (g (U.toNat (Int.ofNat 0))).2.2.1))])) (.ret (.tup [.agg [.row [.int .i64,
      .int .i64, .int .i64] (nat_lit 1) fun x => (lk isL (f (U.toNat (Int.ofNat 0))).1 (f (U.toNat (Int.ofNat 0))).2.1 (f (U.toNat (Int.ofNat 0))).2.2.1 (g (U.toNat (Int.ofNat 0))).1 (g
      (U.toNat (Int.ofNat 0))).2.1 (g (U.toNat (Int.ofNat 0))).2.2.1, lk isH (f (U.toNat (Int.ofNat 0))).1 (f (U.toNat (Int.ofNat 0))).2.1 (f (U.toNat (Int.ofNat 0))).2.2.1 (g (U.toNat
      (Int.ofNat 0))).1 (g (U.toNat (Int.ofNat 0))).2.1 (g (U.toNat (Int.ofNat 0))).2.2.1, lk isS (f (U.toNat (Int.ofNat 0))).1 (f (U.toNat (Int.ofNat 0))).2.1 (f (U.toNat (Int.ofNat
      0))).2.2.1 (g (U.toNat (Int.ofNat 0))).1 (g (U.toNat (Int.ofNat 0))).2.1 (g (U.toNat (Int.ofNat 0))).2.2.1, PUnit.unit), .lit (.int .i64 k), .lit (.int .i64 s), .lit (.int .i64 h)],
      .lit (.int .i64 0)]))))))))) (.ret (.tup [.agg [.lit (.slice none (nat_lit 0) (nat_lit 0)), .lit (.int .i64 k), .lit (.int .i64 s), .lit (.int .i64 h)], .lit (.int .i64 0)])))) := by kernel_rfl
theorem cl_agg {cs cs' : List SV} (h : ClL cs cs') : Cl (.agg cs) (.agg cs') := h
theorem DIntersect_ok : ConOK P 26 c_DIntersect := con_cl (allOKL mixed d2_ok lDI_ok) 10 26 fun args r h => by
  unfold c_DIntersect at h
  split at h
  · rename_i n f k s h' m g k1 s1 h1
    obtain ⟨hp, hq⟩ := (T.is_ask h).1
    have h := (T.is_ask h).2
    obtain rfl := T.is_ret h
    rw [t_DIntersect]
    simp only [tn, lk_eq]
    refine ⟨⟨hp, hq⟩, fun hE => ?_, fun hE => ?_⟩
    · have hE : boE n f k s h' m g k1 s1 h1 ≠ 0 := U.ne_t.mp hE
      have e1 : diN n f k s h' m g k1 s1 h1 = 0 := by unfold diN; rw [if_pos hE]
      have e2 : ∀ x, diX n f k s h' m g k1 s1 h1 x = 0 := fun x => by unfold diX; rw [if_pos hE]
      rw [e1, e2, e2, e2]
      exact ⟨cl_agg ⟨cl_nil0 rfl, cl_lit rfl, cl_lit rfl, cl_lit rfl, rfl⟩, cl_lit rfl, rfl⟩
    · have hE : boE n f k s h' m g k1 s1 h1 = 0 := U.ne_f.mp hE
      obtain ⟨c1, c2, c3⟩ := boE_zero.1 hE
      subst c3
      obtain ⟨d1, d1'⟩ := chD_zero.1 c1
      obtain ⟨d3, d3'⟩ := chD_zero.1 c2
      have e1 : diN n f k s h' n g k1 s1 h1 = n := by unfold diN; rw [if_neg (by simp [hE])]
      have e2 : ∀ x, diX n f k s h' n g k1 s1 h1 x = x := fun x => by unfold diX; rw [if_neg (by simp [hE])]
      rw [e1, e2, e2, e2, hE]
      have ok : ∀ i, i < n → isEr (rA (f i)) (rB (f i)) (rC (f i)) (rA (g i)) (rB (g i)) (rC (g i)) = 0 := fun i hi => (is_set (d1.2 i hi).1 (d3.2 i hi).1).1
      have hn := d1.1
      have o0 : U.ne (isEr (f 0).1 (f 0).2.1 (f 0).2.2.1 (g 0).1 (g 0).2.1 (g 0).2.2.1) 0 = false := U.ne_f.mpr (ok 0 (by omega))
      have hI : ∀ i, i < n → I64 (f i).1 ∧ I64 (f i).2.1 ∧ I64 (f i).2.2.1 ∧ I64 (g i).1 ∧ I64 (g i).2.1 ∧ I64 (g i).2.2.1 := fun i hi => by
        obtain ⟨x1, x2, x3⟩ := hp i hi
        obtain ⟨y1, y2, y3⟩ := hq i hi
        exact ⟨x1, x2, x3, y1, y2, y3⟩
      have l0 : U.lt (0 : Int) (Int.ofNat n) = true := by rw [U.lt_eq]; exact decide_eq_true (by simp only [Int.ofNat_eq_natCast]; omega)
      refine ⟨fun _ => ⟨by omega, by omega, hI 0 (by omega), fun h => (by rw [o0] at h; cases h), fun _ => ⟨by decide, ?_⟩⟩, fun h => (by rw [l0] at h; cases h)⟩
      rcases hn with rfl | rfl
      · refine ⟨fun h => absurd (U.lt_t.mp h) (by decide), fun _ => ⟨fun h => (by rw [o0] at h; cases h), fun _ => ?_⟩⟩
        refine ⟨cl_agg ⟨cl_row' rfl fun i hi => ?_, cl_lit rfl, cl_lit rfl, cl_lit rfl, rfl⟩, cl_lit rfl, rfl⟩
        obtain rfl : i = 0 := by omega
        rfl
      · have o1 : U.ne (isEr (f 1).1 (f 1).2.1 (f 1).2.2.1 (g 1).1 (g 1).2.1 (g 1).2.2.1) 0 = false := U.ne_f.mpr (ok 1 (by omega))
        refine ⟨fun _ => ⟨by omega, by omega, hI 1 (by omega), fun h => (by rw [o1] at h; cases h), fun _ => ⟨by decide, fun h => absurd (U.lt_t.mp h) (by decide), fun _ => ⟨fun h => (by rw [o1] at h; cases h), fun _ => ?_⟩⟩⟩, fun h => absurd (U.lt_f.mp h) (by decide)⟩
        refine ⟨cl_agg ⟨cl_row' rfl fun i hi => ?_, cl_lit rfl, cl_lit rfl, cl_lit rfl, rfl⟩, cl_lit rfl, rfl⟩
        rcases (show i = 0 ∨ i = 1 by omega) with rfl | rfl
        · exact cat_l (by omega)
        · exact cat_r (by omega)
  · exact h.elim
noncomputable abbrev d3 : List (Nat × Con) := (26, c_DIntersect) :: (51, c_DSize) :: (35, c_Equal3) :: d2 --%K
theorem d3_ok : ∀ p ∈ d3, ConOK P p.1 p.2 := by
  intro p hp
  simp only [d3, List.mem_cons] at hp
  rcases hp with rfl | rfl | rfl | hp
  · exact DIntersect_ok
  · exact DSize_ok
  · exact Equal3_ok
  · exact d2_ok p (by simpa [d2] using hp)
end Go.RX.Span

/- Domains: Of, Nth, a slice's copy: the walks. -/
set_option linter.unusedVariables false
set_option linter.unusedSimpArgs false
set_option maxRecDepth 100000
namespace Go.RX.Span
open Go Go.RX
attribute [local irreducible] sx conB

/-- Nth: the error, the index. -/
def dnE (n : Nat) (f : Nat → R3) (k s h q : Int) : Int := if chD n f k s h ≠ 0 then chD n f k s h else if q < 0 ∨ q ≥ szD n f k s h then 4 else 0
def dnN (n : Nat) (f : Nat → R3) (k s h q : Int) : Nat := if dnE n f k s h q ≠ 0 then 0 else n
abbrev R1 := Els [.int .i64]
def dnF (n : Nat) (f : Nat → R3) (q : Int) : Nat → R1 := fun i => ((if i = 0 then nth (rA (f 0)) (rB (f 0)) (rC (f 0)) (q.tdiv (colD n f)) else nth (rA (f 1)) (rB (f 1)) (rC (f 1)) (q.tmod (colD n f)) : Int), ())
noncomputable def c_DNth : Con := fun args => match args with
  | [.agg [.row [.int .i64, .int .i64, .int .i64] n f, .lit (.int .i64 k), .lit (.int .i64 s), .lit (.int .i64 h)], .lit (.int .i64 q)] => .ask (Row64 n f ∧ I64 q) (.ret (.tup [.row [.int .i64] (lk dnN n f k s h q) (lk dnF n f q), .lit (.int .i64 (lk dnE n f k s h q))]))
  | _ => .stuck 1
noncomputable abbrev lNt : List (Nat × Loops) := [(28, [(10, .un 3)])] --%K
theorem lNt_ok : ∀ p ∈ lNt, LoopsOK P p.2 (bodyOf P p.1) := by
  intro p hp
  simp only [lNt, List.mem_singleton] at hp
  subst hp
  exact loopsOK_un fun q hq => by simp only [List.mem_singleton] at hq; subst hq; exact ⟨3, rfl⟩
set_option maxRecDepth 100000 in
theorem t_DNth (n : Nat) (f : Nat → R3) (k s h q : Int) : conB Go.Proofs.Tryz.prog (conOf d3) (loopsOf lNt) 10 28 [.agg [.row [.int .i64, .int .i64, .int .i64] n f, .lit (.int .i64 k), .lit (.int .i64 s), .lit (.int .i64 h)], .lit (.int .i64 q)] =
    T.ask (Row64 n f) (.br (U.ne (lk chD n f k s h) (0 : Int)) (.ret (.tup [.lit (.slice none (nat_lit 0) (nat_lit 0)), .lit (.int .i64 (lk chD n f k s h))])) (.br (U.lt q (0 : Int))
      (.ret (.tup [.lit (.slice none (nat_lit 0) (nat_lit 0)), .lit (.int .i64 4)])) (.ask (Row64 n f) (.br (U.ge q (lk szD n f k s h)) (.ret (.tup [.lit (.slice none (nat_lit 0) (nat_lit
      0)), .lit (.int .i64 4)])) (.ask (Row64 n f ∧ (n = (1 : Nat) ∨ n = (2 : Nat))) (.ask (lk colD n f ≠ (0 : Int)) (.ask (lk colD n f ≠ (0 : Int)) (.br (U.lt (0 : Int) (Int.ofNat n))
      (.ask ((0 : Int) ≤ (0 : Int) ∧ (0 : Int) < ↑n) (.ask (I64 (f (U.toNat (Int.ofNat 0))).1 ∧ I64 (f (U.toNat (Int.ofNat 0))).2.1 ∧ I64 (f (U.toNat (Int.ofNat 0))).2.2.1) (.ask ((1 :
      Nat) * nat_lit 8 ≤ nat_lit 140737488351232) (.br (U.lt (1 : Int) (Int.ofNat n)) (.ask ((0 : Int) ≤ (1 : Int) ∧ (1 : Int) < ↑n) (.ask (I64 (f (U.toNat (Int.ofNat 1))).1 ∧ I64 (f
      (U.toNat (Int.ofNat 1))).2.1 ∧ I64 (f (U.toNat (Int.ofNat 1))).2.2.1) (.ask (((1 : Nat) + (1 : Nat)) * nat_lit 8 ≤ nat_lit 140737488351232) (.br (U.lt (2 : Int) (Int.ofNat n)) (.ask
      ((0 : Int) ≤ (2 : Int) ∧ (2 : Int) < ↑n) (.stuck (nat_lit 40))) (.ret (.tup [.row [.int .i64] (nat_lit 2) (U.cat (nat_lit 1) (fun x => (lk nth (f (U.toNat (Int.ofNat 0))).1 (f
      (U.toNat (Int.ofNat 0))).2.1 (f (U.toNat (Int.ofNat 0))).2.2.1 (U.quo .i64 q (lk colD n f)), PUnit.unit)) fun x => (lk nth (f (U.toNat (Int.ofNat 1))).1 (f (U.toNat (Int.ofNat
      1))).2.1 (f (U.toNat (Int.ofNat 1))).2.2.1 (U.rem q (lk colD n f)), PUnit.unit)), .lit (.int .i64 0)])))))) (.ret (.tup [.row [.int .i64] (nat_lit 1) fun x => (lk nth (f (U.toNat
      (Int.ofNat 0))).1 (f (U.toNat (Int.ofNat 0))).2.1 (f (U.toNat (Int.ofNat 0))).2.2.1 (U.quo .i64 q (lk colD n f)), PUnit.unit), .lit (.int .i64 0)])))))) (.ret (.tup [.lit (.slice
      none (nat_lit 0) (nat_lit 0)), .lit (.int .i64 0)])))))))))) := by kernel_rfl
noncomputable def dnV (n : Nat) (f : Nat → R3) (k s h q : Int) : SV := .tup [.row [.int .i64] (dnN n f k s h q) (dnF n f q), .lit (.int .i64 (dnE n f k s h q))]
theorem dn_err {n : Nat} {f : Nat → R3} {k s h q e : Int} (he : dnE n f k s h q = e) (h0 : e ≠ 0) : Cl (.tup [.lit (.slice none 0 0), .lit (.int .i64 e)]) (dnV n f k s h q) :=
  ⟨.inr ⟨rfl, by unfold dnN; rw [he, if_pos h0]⟩, cl_lit (by rw [he]), rfl⟩
theorem dn_ok {n : Nat} {f : Nat → R3} {k s h q : Int} (he : dnE n f k s h q = 0) {g : Nat → R1} (hg : ∀ i, i < n → g i = dnF n f q i) : Cl (.tup [.row [.int .i64] n g, .lit (.int .i64 0)]) (dnV n f k s h q) :=
  ⟨⟨by unfold dnN; rw [if_neg (by simp [he])], eqShs_refl _, fun i hi => hg i hi⟩, cl_lit (by rw [he]), rfl⟩
theorem cat1_l {n i : Nat} {f g : Nat → R1} (h : i < n) : U.cat n f g i = f i := (U.cat_eq _ _ _ _).trans (if_pos h)
theorem cat1_r {n i : Nat} {f g : Nat → R1} (h : n ≤ i) : U.cat n f g i = g (i - n) := (U.cat_eq _ _ _ _).trans (if_neg (by omega))
theorem DNth_ok : ConOK P 28 c_DNth := con_cl (allOKL mixed d3_ok lNt_ok) 10 28 fun args r h => by
  unfold c_DNth at h
  split at h
  · rename_i n f k s h' q
    obtain ⟨hp, hq⟩ := (T.is_ask h).1
    have h := (T.is_ask h).2
    obtain rfl := T.is_ret h
    rw [t_DNth]
    simp only [tn, lk_eq]
    refine T.all_mono (K := fun v => Cl v (dnV n f k s h' q)) (fun v hv => hv) ?_
    have ie : (Int.ofNat n) = (n : Int) := rfl
    refine ⟨hp, fun z => ?_, fun z => ?_⟩
    · have z : chD n f k s h' ≠ 0 := U.ne_t.mp z
      exact dn_err (by unfold dnE; rw [if_pos z]) z
    have z : chD n f k s h' = 0 := U.ne_f.mp z
    obtain ⟨d1, d1'⟩ := chD_zero.1 z
    have hn := d1.1
    have hc := dr_col d1
    have h0 := rr_size (d1.2 0 (by omega))
    refine ⟨fun g => ?_, fun g => ⟨hp, fun g2 => ?_, fun g2 => ?_⟩⟩
    · have g := U.lt_t.mp g
      exact dn_err (by unfold dnE; rw [if_neg (by simp [z]), if_pos (.inl g)]) (by decide)
    · have g2 := U.ge_t.mp g2
      exact dn_err (by unfold dnE; rw [if_neg (by simp [z]), if_pos (.inr g2)]) (by decide)
    have g := U.lt_f.mp g
    have g2 := U.ge_f.mp g2
    have e0 : dnE n f k s h' q = 0 := by unfold dnE; rw [if_neg (by simp [z]), if_neg (by omega)]
    have hcol : colD n f ≠ 0 := fun hz => by rw [szD_right z, hz, Int.mul_zero] at g2; omega
    have t1 := Int.tdiv_eq_ediv_of_nonneg (b := colD n f) g
    have t2 := Int.ediv_nonneg g hc.1
    have t3 := Int.ediv_le_self (colD n f) g
    have eq1 : U.quo .i64 q (colD n f) = q.tdiv (colD n f) := U.quo64 (by unfold I64 at hq ⊢; omega)
    have eq2 : U.rem q (colD n f) = q.tmod (colD n f) := U.rem_eq _ _
    refine ⟨⟨hp, hn⟩, hcol, hcol, fun _ => ⟨by omega, hp 0 (by omega), by decide, fun g3 => ?_, fun g3 => ?_⟩, fun g3 => ?_⟩
    · have g3 := U.lt_t.mp g3
      rw [ie] at g3
      obtain rfl : n = 2 := by omega
      refine ⟨by omega, hp 1 (by omega), by decide, fun g4 => absurd (U.lt_t.mp g4) (by decide), fun _ => dn_ok e0 fun i hi => ?_⟩
      rcases (show i = 0 ∨ i = 1 by omega) with rfl | rfl
      · refine (cat1_l (by omega)).trans ?_
        rw [eq1]; rfl
      · refine (cat1_r (by omega)).trans ?_
        rw [eq2]; rfl
    · have g3 := U.lt_f.mp g3
      rw [ie] at g3
      obtain rfl : n = 1 := by omega
      refine dn_ok e0 fun i hi => ?_
      obtain rfl : i = 0 := by omega
      rw [eq1]; rfl
    · have g3 := U.lt_f.mp g3
      rw [ie] at g3
      omega
  · exact h.elim

/-- A copy is a slice that is read alone. -/
noncomputable def c_Clone : Con := fun args => match args with
  | [.row [.int .i64, .int .i64, .int .i64] n f] => .ask (0 < n ∧ n ≤ 10000) (.ret (.row [.int .i64, .int .i64, .int .i64] n f))
  | _ => .stuck 1
set_option maxRecDepth 100000 in
theorem t_Clone (n : Nat) (f : Nat → R3) : conB Go.Proofs.Tryz.prog (conOf []) noLoops 10 75 [.row [.int .i64, .int .i64, .int .i64] n f] =
    T.ask ((0 : Nat) < n) (.ask (((0 : Nat) + n) * nat_lit 24 ≤ nat_lit 140737488351232) (.ret (.row [.int .i64, .int .i64, .int .i64] (nat_lit 0 + n) (U.cat (nat_lit 0) (fun x => ((0 :
      Int), (0 : Int), (0 : Int), PUnit.unit)) f)))) := by kernel_rfl
theorem Clone_ok : ConOK P 75 c_Clone := con_cl (allOK mixed none_ok) 10 75 fun args r h => by
  unfold c_Clone at h
  split at h
  · rename_i n f
    obtain ⟨h0, h1⟩ := (T.is_ask h).1
    have h := (T.is_ask h).2
    obtain rfl := T.is_ret h
    rw [t_Clone]
    refine ⟨h0, ?_, cl_row' (Nat.zero_add n) fun i hi => cat_r (Nat.zero_le i)⟩
    show (0 + n) * 24 ≤ 140737488351232
    omega
  · exact h.elim
end Go.RX.Span

/- Domains: the examples of the chapter. -/
set_option linter.unusedVariables false
set_option linter.unusedSimpArgs false
set_option maxRecDepth 100000
namespace Go.RX.Span
open Go Go.RX
attribute [local irreducible] sx conB

noncomputable abbrev d6 : List (Nat × Con) := (28, c_DNth) :: (23, c_Equal) :: d3
theorem d6_ok : ∀ p ∈ d6, ConOK P p.1 p.2 := by
  intro p hp
  simp only [d6, List.mem_cons] at hp
  rcases hp with rfl | rfl | hp
  · exact DNth_ok
  · exact Equal_ok
  · exact d3_ok p (by simpa [d3] using hp)
end Go.RX.Span

/- Domains: Position, Has: plain; contracts. -/
set_option linter.unusedVariables false
set_option linter.unusedSimpArgs false
set_option maxRecDepth 100000
namespace Go.RX.Span
open Go Go.RX
attribute [local irreducible] sx conB

abbrev hasR (r : R3) (v : Int) : Bool := has (rA r) (rB r) (rC r) v
abbrev posR (r : R3) (v : Int) : Int := pos (rA r) (rB r) (rC r) v
section
variable (n : Nat) (f : Nat → R3) (k s h : Int) (m : Nat) (e : Nat → R1)
def hasD : Bool := decide (chD n f k s h = 0 ∧ m = n ∧ hasR (f 0) (e 0).1 = true ∧ (n = 2 → hasR (f 1) (e 1).1 = true))
def posD : Int := if hasD n f k s h m e = true then (if n = 1 then posR (f 0) (e 0).1 else posR (f 0) (e 0).1 * szR (f 1) + posR (f 1) (e 1).1) else 0
end
theorem pos_bnd {a b c n : Int} (h : has a b c n = true) : 0 ≤ pos a b c n ∧ pos a b c n ≤ 2000000 := by
  unfold pos
  rw [if_pos h]
  unfold has at h
  obtain ⟨h0, h1, h2, h3⟩ := of_decide_eq_true h
  have hr := chk_zero.1 h0
  have hl := hr.1
  by_cases hc : c < 0
  · rw [if_pos hc]
    have e1 := Int.ediv_nonneg (show 0 ≤ b - n by omega) (show 0 ≤ -c by omega)
    have e2 := Int.ediv_le_self (-c) (show 0 ≤ b - n by omega)
    omega
  · rw [if_neg hc]
    have hc0 := right_c hr
    have e1 := Int.ediv_nonneg (show 0 ≤ n - a by omega) (show 0 ≤ c by omega)
    have e2 := Int.ediv_le_self c (show 0 ≤ n - a by omega)
    omega
noncomputable def c_DPosition : Con := fun args => match args with
  | [.agg [.row [.int .i64, .int .i64, .int .i64] n f, .lit (.int .i64 k), .lit (.int .i64 s), .lit (.int .i64 h)], .row [.int .i64] m e] => .ask (Row64 n f) (.ret (.tup [.lit (.int .i64 (lk posD n f k s h m e)), .lit (.bool (lk hasD n f k s h m e))]))
  | _ => .stuck 1
noncomputable def c_DHas : Con := fun args => match args with
  | [.agg [.row [.int .i64, .int .i64, .int .i64] n f, .lit (.int .i64 k), .lit (.int .i64 s), .lit (.int .i64 h)], .row [.int .i64] m e] => .ask (Row64 n f) (.ret (.lit (.bool (lk hasD n f k s h m e))))
  | _ => .stuck 1
theorem hasD_f {n : Nat} {f : Nat → R3} {k s h : Int} {m : Nat} {e : Nat → R1} (hc : ¬ (chD n f k s h = 0 ∧ m = n ∧ hasR (f 0) (e 0).1 = true ∧ (n = 2 → hasR (f 1) (e 1).1 = true))) : hasD n f k s h m e = false ∧ posD n f k s h m e = 0 := by
  have : hasD n f k s h m e = false := decide_eq_false hc
  exact ⟨this, by unfold posD; rw [this]; rfl⟩
theorem hasD_t {n : Nat} {f : Nat → R3} {k s h : Int} {m : Nat} {e : Nat → R1} (hc : chD n f k s h = 0 ∧ m = n ∧ hasR (f 0) (e 0).1 = true ∧ (n = 2 → hasR (f 1) (e 1).1 = true)) : hasD n f k s h m e = true ∧ posD n f k s h m e = (if n = 1 then posR (f 0) (e 0).1 else posR (f 0) (e 0).1 * szR (f 1) + posR (f 1) (e 1).1) := by
  have : hasD n f k s h m e = true := decide_eq_true hc
  exact ⟨this, by unfold posD; rw [this]; rfl⟩
end Go.RX.Span

/- Domains: the reference's functions: the walks. -/
set_option linter.unusedVariables false
set_option linter.unusedSimpArgs false
set_option maxRecDepth 100000
namespace Go.RX.Span
open Go Go.RX
attribute [local irreducible] sx conB
noncomputable abbrev d7 : List (Nat × Con) := d6 --%K
theorem d7_ok : ∀ p ∈ d7, ConOK P p.1 p.2 := by
  intro p hp
  exact d6_ok p (by simpa [d6] using hp)
set_option maxRecDepth 100000 in
theorem t_DPosition (n : Nat) (f : Nat → R3) (k s h : Int) (m : Nat) (e : Nat → R1) : conB Go.Proofs.Tryz.prog (conOf d7) noLoops 10 29 [.agg [.row [.int .i64, .int .i64, .int .i64] n f, .lit (.int .i64 k), .lit (.int .i64 s), .lit (.int .i64 h)], .row [.int .i64] m e] =
    T.ask (Row64 n f) (.br (U.ne (lk chD n f k s h) (0 : Int)) (.ret (.tup [.lit (.int .i64 0), .lit (.bool false)])) (.br (U.ne (Int.ofNat m) (Int.ofNat n)) (.ret (.tup [.lit (.int
      .i64 0), .lit (.bool false)])) (.br (U.eq (Int.ofNat m) (1 : Int)) (.ask ((0 : Int) ≤ (0 : Int) ∧ (0 : Int) < ↑n) (.ask ((0 : Int) ≤ (0 : Int) ∧ (0 : Int) < ↑m) (.ask (I64 (f
      (U.toNat (0 : Int))).1 ∧ I64 (f (U.toNat (0 : Int))).2.1 ∧ I64 (f (U.toNat (0 : Int))).2.2.1) (.ret (.tup [.lit (.int .i64 (lk pos (f (U.toNat (0 : Int))).1 (f (U.toNat (0 :
      Int))).2.1 (f (U.toNat (0 : Int))).2.2.1 (e (U.toNat (0 : Int))).1)), .lit (.bool (lk has (f (U.toNat (0 : Int))).1 (f (U.toNat (0 : Int))).2.1 (f (U.toNat (0 : Int))).2.2.1 (e
      (U.toNat (0 : Int))).1))]))))) (.ask (nat_lit 1 + (1 : Nat) ≤ m) (.ask ((0 : Int) ≤ (0 : Int) ∧ (0 : Int) < ↑n) (.ask (I64 (f (U.toNat (0 : Int))).1 ∧ I64 (f (U.toNat (0 :
      Int))).2.1 ∧ I64 (f (U.toNat (0 : Int))).2.2.1) (.ask ((0 : Int) ≤ (1 : Int) ∧ (1 : Int) < ↑n) (.ask (I64 (f (U.toNat (1 : Int))).1 ∧ I64 (f (U.toNat (1 : Int))).2.1 ∧ I64 (f
      (U.toNat (1 : Int))).2.2.1) (.br (U.not (lk has (f (U.toNat (0 : Int))).1 (f (U.toNat (0 : Int))).2.1 (f (U.toNat (0 : Int))).2.2.1 (e (0 : Nat)).1)) (.ret (.tup [.lit (.int .i64
      0), .lit (.bool false)])) (.br (U.not (lk has (f (U.toNat (1 : Int))).1 (f (U.toNat (1 : Int))).2.1 (f (U.toNat (1 : Int))).2.2.1 (e ((0 : Nat) + (1 : Nat))).1)) (.ret (.tup [.lit
      (.int .i64 0), .lit (.bool false)])) (.ask (Row64 n f ∧ (n = (1 : Nat) ∨ n = (2 : Nat))) (.ret (.tup [.lit (.int .i64 (U.add .i64 (U.mul .i64 (lk pos (f (U.toNat (0 : Int))).1 (f
      (U.toNat (0 : Int))).2.1 (f (U.toNat (0 : Int))).2.2.1 (e (0 : Nat)).1) (lk colD n f)) (lk pos (f (U.toNat (1 : Int))).1 (f (U.toNat (1 : Int))).2.1 (f (U.toNat (1 : Int))).2.2.1 (e
      ((0 : Nat) + (1 : Nat))).1))), .lit (.bool true)]))))))))))))) := by kernel_rfl
theorem pv_eq {x y : Int} {b c : Bool} (h1 : x = y) (h2 : b = c) : SV.tup [.lit (.int .i64 x), .lit (.bool b)] = SV.tup [.lit (.int .i64 y), .lit (.bool c)] := by rw [h1, h2]
theorem mul_add_bnd {x y z X : Int} (hx0 : 0 ≤ x) (hx : x ≤ X) (hy0 : 0 ≤ y) (hy : y ≤ 2000001) (hX : X ≤ 2000001) (hz0 : 0 ≤ z) (hz : z ≤ 2000001) : 0 ≤ x * y ∧ x * y ≤ 5000000000000 ∧ 0 ≤ x * y + z ∧ x * y + z ≤ 6000000000000 := by
  have h1 := Int.mul_nonneg hx0 hy0
  have h2 := Int.mul_le_mul (show x ≤ 2000001 by omega) hy hy0 (by omega)
  omega
theorem DPosition_ok : ConOK P 29 c_DPosition := con_of (allOK mixed d7_ok) 10 29 fun args r h => by
  unfold c_DPosition at h
  split at h
  · rename_i n f k s h' m e
    have hp : Row64 n f := (T.is_ask h).1
    have h := (T.is_ask h).2
    obtain rfl := T.is_ret h
    rw [t_DPosition]
    simp only [tn0, tn1, lk_eq]
    have no : ¬ (chD n f k s h' = 0 ∧ m = n ∧ hasR (f 0) (e 0).1 = true ∧ (n = 2 → hasR (f 1) (e 1).1 = true)) → SV.tup [.lit (.int .i64 0), .lit (.bool false)] = SV.tup [.lit (.int .i64 (posD n f k s h' m e)), .lit (.bool (hasD n f k s h' m e))] :=
      fun h => pv_eq (hasD_f h).2.symm (hasD_f h).1.symm
    refine ⟨hp, fun z => ?_, fun z => ⟨fun g => ?_, fun g => ?_⟩⟩
    · have z := U.ne_t.mp z
      exact no fun h => z h.1
    · have g := U.ne_t.mp g
      exact no fun h => g (by rw [h.2.1])
    have z : chD n f k s h' = 0 := U.ne_f.mp z
    have g : (m : Int) = n := U.ne_f.mp g
    obtain rfl : m = n := by omega
    obtain ⟨d1, d1'⟩ := chD_zero.1 z
    have hn := d1.1
    refine ⟨fun g1 => ?_, fun g1 => ?_⟩
    · have g1 : (m : Int) = 1 := U.eq_t.mp g1
      obtain rfl : m = 1 := by omega
      refine ⟨⟨by omega, by omega⟩, ⟨by omega, by omega⟩, hp 0 (by omega), ?_⟩
      by_cases hh : hasR (f 0) (e 0).1 = true
      · obtain ⟨h1, h2⟩ := hasD_t (k := k) (s := s) (h := h') (m := 1) (e := e) ⟨z, rfl, hh, fun h => by omega⟩
        exact pv_eq (by rw [h2, if_pos rfl]; rfl) (by rw [h1]; exact hh)
      · have hf : hasR (f 0) (e 0).1 = false := by simpa using hh
        obtain ⟨h1, h2⟩ := hasD_f (k := k) (s := s) (h := h') (m := 1) (e := e) (n := 1) (f := f) (fun h => hh h.2.2.1)
        have hp0 : posR (f 0) (e 0).1 = 0 := by unfold posR pos; rw [if_neg hh]
        exact pv_eq (by rw [h2]; exact hp0) (by rw [h1]; exact hf)
    · have g1 : (m : Int) ≠ 1 := U.eq_f.mp g1
      obtain rfl : m = 2 := by omega
      refine ⟨by omega, ⟨by omega, by omega⟩, hp 0 (by omega), ⟨by omega, by omega⟩, hp 1 (by omega), fun q => ?_, fun q => ⟨fun q2 => ?_, fun q2 => ⟨⟨hp, .inr rfl⟩, ?_⟩⟩⟩
      · have q : hasR (f 0) (e 0).1 = false := U.not_t.mp q
        exact no fun h => by rw [h.2.2.1] at q; cases q
      · have q2 : hasR (f 1) (e 1).1 = false := U.not_t.mp q2
        exact no fun h => by rw [h.2.2.2 rfl] at q2; cases q2
      · have q : hasR (f 0) (e 0).1 = true := U.not_f.mp q
        have q2 : hasR (f 1) (e 1).1 = true := U.not_f.mp q2
        obtain ⟨h1, h2⟩ := hasD_t (k := k) (s := s) (h := h') (m := 2) (e := e) ⟨z, rfl, q, fun _ => q2⟩
        have b0 : 0 ≤ posR (f 0) (e 0).1 ∧ posR (f 0) (e 0).1 ≤ 2000000 := pos_bnd q
        have b1 : 0 ≤ posR (f 1) (e 1).1 ∧ posR (f 1) (e 1).1 ≤ 2000000 := pos_bnd q2
        have c1 := (rr_size (d1.2 1 (by omega))).2
        have hb := mul_add_bnd (x := posR (f 0) (e 0).1) (y := szR (f 1)) (z := posR (f 1) (e 1).1) b0.1 b0.2 c1.1 c1.2 (by omega) b1.1 (by omega)
        refine pv_eq ?_ h1.symm
        rw [h2, if_neg (by omega)]
        show U.add .i64 (U.mul .i64 (posR (f 0) (e 0).1) (colD 2 f)) (posR (f 1) (e 1).1) = _
        have ec : colD 2 f = szR (f 1) := rfl
        rw [ec, U.mul64 (by unfold I64; omega), U.add64 (by unfold I64; omega)]
  · exact h.elim
set_option maxRecDepth 100000 in
theorem t_qmapped (k s h : Int) : conB Go.Proofs.Tryz.prog (conOf []) noLoops 10 62 [.agg [.lit (.int .i64 k), .lit (.int .i64 s), .lit (.int .i64 h)]] =
    T.br (U.eq k (0 : Int)) (.br (U.eq s (0 : Int)) (.br (U.ge h (0 : Int)) (.ret (.lit (.bool (U.lt h (8 : Int))))) (.ret (.lit (.bool false)))) (.ret (.lit (.bool false)))) (.br (U.eq
      k (1 : Int)) (.br (U.eq s (0 : Int)) (.ret (.lit (.bool (U.eq h (0 : Int))))) (.ret (.lit (.bool false)))) (.br (U.eq k (2 : Int)) (.br (U.eq s (0 : Int)) (.ret (.lit (.bool (U.eq h
      (0 : Int))))) (.ret (.lit (.bool false)))) (.br (U.eq k (4 : Int)) (.br (U.eq s (0 : Int)) (.ret (.lit (.bool (U.eq h (0 : Int))))) (.ret (.lit (.bool false)))) (.br (U.eq k (3 :
      Int)) (.br (U.ge s (1 : Int)) (.br (U.le s (1000 : Int)) (.ret (.lit (.bool (U.eq h (0 : Int))))) (.ret (.lit (.bool false)))) (.ret (.lit (.bool false)))) (.ret (.lit (.bool
      false))))))) := by kernel_rfl
theorem qmapped_ok : ConOK P 62 c_fits := con_of (allOK mixed none_ok) 10 62 fun args r h => by
  unfold c_fits at h
  split at h
  · rename_i k s h'
    obtain rfl := T.is_ret h
    rw [t_qmapped]
    unfold fitB
    have key : ∀ {p : Prop} [Decidable p] {b : Bool}, (b = true ↔ p) → SV.lit (.bool b) = SV.lit (.bool (decide p)) := fun h => by
      rw [SV.lit.injEq, Value.bool.injEq, Bool.eq_iff_iff, decide_eq_true_iff]; exact h
    simp only [T.All, lk_eq]
    refine ⟨fun h0 => ?_, fun h0 => ⟨fun h1 => ?_, fun h1 => ⟨fun h2 => ?_, fun h2 => ⟨fun h3 => ?_, fun h3 => ⟨fun h4 => ?_, fun h4 => ?_⟩⟩⟩⟩⟩
    all_goals (try refine ⟨fun h5 => ?_, fun h5 => ?_⟩)
    all_goals (try refine ⟨fun h6 => ?_, fun h6 => ?_⟩)
    all_goals
      refine key ?_
      simp only [U.eq_t, U.eq_f, U.ge_t, U.ge_f, U.lt_t, U.le_t, U.le_f, Bool.false_eq_true, false_iff] at *
      omega
  · exact h.elim
noncomputable abbrev lrC : List (Nat × Loops) := [(31, [(4, .un 3)])] --%K
noncomputable abbrev lrS : List (Nat × Loops) := [(65, [(5, .un 3)])] --%K
noncomputable abbrev lrH : List (Nat × Loops) := [(66, [(4, .un 3)])] --%K
noncomputable abbrev lrP : List (Nat × Loops) := [(34, [(5, .un 3)])] --%K
noncomputable abbrev d8 : List (Nat × Con) := (62, c_fits) :: d7 --%K
noncomputable abbrev d9 : List (Nat × Con) := (31, c_DCheck) :: d8 --%K
noncomputable abbrev d10 : List (Nat × Con) := (65, c_DSize) :: (66, c_DHas) :: d9 --%K
set_option maxRecDepth 100000 in
theorem t_qCheck (n : Nat) (f : Nat → R3) (k s h : Int) : conB Go.Proofs.Tryz.prog (conOf d8) (loopsOf lrC) 10 31 [.agg [.row [.int .i64, .int .i64, .int .i64] n f, .lit (.int .i64 k), .lit (.int .i64 s), .lit (.int .i64 h)]] =
    T.br (U.lt (Int.ofNat n) (1 : Int)) (.ret (.lit (.int .i64 5))) (.br (U.gt (Int.ofNat n) (2 : Int)) (.ret (.lit (.int .i64 5))) (.br (U.lt (0 : Int) (Int.ofNat n)) (.ask ((0 : Int)
      ≤ (0 : Int) ∧ (0 : Int) < ↑n) (.ask (I64 (f (U.toNat (Int.ofNat 0))).1 ∧ I64 (f (U.toNat (Int.ofNat 0))).2.1 ∧ I64 (f (U.toNat (Int.ofNat 0))).2.2.1) (.br (U.ne (lk chk (f (U.toNat
      (Int.ofNat 0))).1 (f (U.toNat (Int.ofNat 0))).2.1 (f (U.toNat (Int.ofNat 0))).2.2.1) (0 : Int)) (.ret (.lit (.int .i64 (lk chk (f (U.toNat (Int.ofNat 0))).1 (f (U.toNat (Int.ofNat
      0))).2.1 (f (U.toNat (Int.ofNat 0))).2.2.1)))) (.ask ((0 : Int) ≤ (0 : Int) ∧ (0 : Int) < ↑n) (.br (U.lt (f (U.toNat (Int.ofNat 0))).2.2.1 (0 : Int)) (.ret (.lit (.int .i64 2)))
      (.br (U.lt (1 : Int) (Int.ofNat n)) (.ask ((0 : Int) ≤ (1 : Int) ∧ (1 : Int) < ↑n) (.ask (I64 (f (U.toNat (Int.ofNat 1))).1 ∧ I64 (f (U.toNat (Int.ofNat 1))).2.1 ∧ I64 (f (U.toNat
      (Int.ofNat 1))).2.2.1) (.br (U.ne (lk chk (f (U.toNat (Int.ofNat 1))).1 (f (U.toNat (Int.ofNat 1))).2.1 (f (U.toNat (Int.ofNat 1))).2.2.1) (0 : Int)) (.ret (.lit (.int .i64 (lk chk
      (f (U.toNat (Int.ofNat 1))).1 (f (U.toNat (Int.ofNat 1))).2.1 (f (U.toNat (Int.ofNat 1))).2.2.1)))) (.ask ((0 : Int) ≤ (1 : Int) ∧ (1 : Int) < ↑n) (.br (U.lt (f (U.toNat (Int.ofNat
      1))).2.2.1 (0 : Int)) (.ret (.lit (.int .i64 2))) (.br (U.lt (2 : Int) (Int.ofNat n)) (.ask ((0 : Int) ≤ (2 : Int) ∧ (2 : Int) < ↑n) (.ask (I64 (f (U.toNat (Int.ofNat 2))).1 ∧ I64
      (f (U.toNat (Int.ofNat 2))).2.1 ∧ I64 (f (U.toNat (Int.ofNat 2))).2.2.1) (.br (U.ne (lk chk (f (U.toNat (Int.ofNat 2))).1 (f (U.toNat (Int.ofNat 2))).2.1 (f (U.toNat (Int.ofNat
      2))).2.2.1) (0 : Int)) (.ret (.lit (.int .i64 (lk chk (f (U.toNat (Int.ofNat 2))).1 (f (U.toNat (Int.ofNat 2))).2.1 (f (U.toNat (Int.ofNat 2))).2.2.1)))) (.ask ((0 : Int) ≤ (2 :
      Int) ∧ (2 : Int) < ↑n) (.br (U.lt (f (U.toNat (Int.ofNat 2))).2.2.1 (0 : Int)) (.ret (.lit (.int .i64 2))) (.stuck (nat_lit 105))))))) (.br (U.not (lk fitB k s h)) (.ret (.lit (.int
      .i64 2))) (.ret (.lit (.int .i64 0)))))))))) (.br (U.not (lk fitB k s h)) (.ret (.lit (.int .i64 2))) (.ret (.lit (.int .i64 0)))))))))) (.br (U.not (lk fitB k s h)) (.ret (.lit
      (.int .i64 2))) (.ret (.lit (.int .i64 0)))))) := by kernel_rfl
set_option maxRecDepth 100000 in
theorem t_qSize (n : Nat) (f : Nat → R3) (k s h : Int) : conB Go.Proofs.Tryz.prog (conOf d9) (loopsOf lrS) 10 65 [.agg [.row [.int .i64, .int .i64, .int .i64] n f, .lit (.int .i64 k), .lit (.int .i64 s), .lit (.int .i64 h)]] =
    T.ask (Row64 n f) (.br (U.ne (lk chD n f k s h) (0 : Int)) (.ret (.lit (.int .i64 0))) (.br (U.lt (0 : Int) (Int.ofNat n)) (.ask ((0 : Int) ≤ (0 : Int) ∧ (0 : Int) < ↑n) (.ask (I64
      (f (U.toNat (Int.ofNat 0))).1 ∧ I64 (f (U.toNat (Int.ofNat 0))).2.1 ∧ I64 (f (U.toNat (Int.ofNat 0))).2.2.1) (.br (U.lt (1 : Int) (Int.ofNat n)) (.ask ((0 : Int) ≤ (1 : Int) ∧ (1 :
      Int) < ↑n) (.ask (I64 (f (U.toNat (Int.ofNat 1))).1 ∧ I64 (f (U.toNat (Int.ofNat 1))).2.1 ∧ I64 (f (U.toNat (Int.ofNat 1))).2.2.1) (.br (U.lt (2 : Int) (Int.ofNat n)) (.ask ((0 :
      Int) ≤ (2 : Int) ∧ (2 : Int) < ↑n) (.ask (I64 (f (U.toNat (Int.ofNat 2))).1 ∧ I64 (f (U.toNat (Int.ofNat 2))).2.1 ∧ I64 (f (U.toNat (Int.ofNat 2))).2.2.1) (.stuck (nat_lit 105))))
      (.ret (.lit (.int .i64 (U.mul .i64 (U.mul .i64 1 (lk size (f (U.toNat (Int.ofNat 0))).1 (f (U.toNat (Int.ofNat 0))).2.1 (f (U.toNat (Int.ofNat 0))).2.2.1)) (lk size (f (U.toNat
      (Int.ofNat 1))).1 (f (U.toNat (Int.ofNat 1))).2.1 (f (U.toNat (Int.ofNat 1))).2.2.1)))))))) (.ret (.lit (.int .i64 (U.mul .i64 1 (lk size (f (U.toNat (Int.ofNat 0))).1 (f (U.toNat
      (Int.ofNat 0))).2.1 (f (U.toNat (Int.ofNat 0))).2.2.1)))))))) (.ret (.lit (.int .i64 1))))) := by kernel_rfl
set_option maxRecDepth 100000 in
theorem t_qHas (n : Nat) (f : Nat → R3) (k s h : Int) (m : Nat) (e : Nat → R1) : conB Go.Proofs.Tryz.prog (conOf d9) (loopsOf lrH) 10 66 [.agg [.row [.int .i64, .int .i64, .int .i64] n f, .lit (.int .i64 k), .lit (.int .i64 s), .lit (.int .i64 h)], .row [.int .i64] m e] =
    T.ask (Row64 n f) (.br (U.ne (lk chD n f k s h) (0 : Int)) (.ret (.lit (.bool false))) (.br (U.ne (Int.ofNat m) (Int.ofNat n)) (.ret (.lit (.bool false))) (.br (U.lt (0 : Int)
      (Int.ofNat m)) (.ask ((0 : Int) ≤ (0 : Int) ∧ (0 : Int) < ↑n) (.ask ((0 : Int) ≤ (0 : Int) ∧ (0 : Int) < ↑m) (.ask (I64 (f (U.toNat (Int.ofNat 0))).1 ∧ I64 (f (U.toNat (Int.ofNat
      0))).2.1 ∧ I64 (f (U.toNat (Int.ofNat 0))).2.2.1) (.br (U.not (lk has (f (U.toNat (Int.ofNat 0))).1 (f (U.toNat (Int.ofNat 0))).2.1 (f (U.toNat (Int.ofNat 0))).2.2.1 (e (U.toNat
      (Int.ofNat 0))).1)) (.ret (.lit (.bool false))) (.br (U.lt (1 : Int) (Int.ofNat m)) (.ask ((0 : Int) ≤ (1 : Int) ∧ (1 : Int) < ↑n) (.ask ((0 : Int) ≤ (1 : Int) ∧ (1 : Int) < ↑m)
      (.ask (I64 (f (U.toNat (Int.ofNat 1))).1 ∧ I64 (f (U.toNat (Int.ofNat 1))).2.1 ∧ I64 (f (U.toNat (Int.ofNat 1))).2.2.1) (.br (U.not (lk has (f (U.toNat (Int.ofNat 1))).1 (f (U.toNat
      (Int.ofNat 1))).2.1 (f (U.toNat (Int.ofNat 1))).2.2.1 (e (U.toNat (Int.ofNat 1))).1)) (.ret (.lit (.bool false))) (.br (U.lt (2 : Int) (Int.ofNat m)) (.ask ((0 : Int) ≤ (2 : Int) ∧
      (2 : Int) < ↑n) (.ask ((0 : Int) ≤ (2 : Int) ∧ (2 : Int) < ↑m) (.ask (I64 (f (U.toNat (Int.ofNat 2))).1 ∧ I64 (f (U.toNat (Int.ofNat 2))).2.1 ∧ I64 (f (U.toNat (Int.ofNat
      2))).2.2.1) (.br (U.not (lk has (f (U.toNat (Int.ofNat 2))).1 (f (U.toNat (Int.ofNat 2))).2.1 (f (U.toNat (Int.ofNat 2))).2.2.1 (e (U.toNat (Int.ofNat 2))).1)) (.ret (.lit (.bool
      false))) (.stuck (nat_lit 105)))))) (.ret (.lit (.bool true)))))))) (.ret (.lit (.bool true)))))))) (.ret (.lit (.bool true)))))) := by kernel_rfl
set_option maxRecDepth 100000 in
theorem t_qPos (n : Nat) (f : Nat → R3) (k s h : Int) (m : Nat) (e : Nat → R1) : conB Go.Proofs.Tryz.prog (conOf d10) (loopsOf lrP) 10 34 [.agg [.row [.int .i64, .int .i64, .int .i64] n f, .lit (.int .i64 k), .lit (.int .i64 s), .lit (.int .i64 h)], .row [.int .i64] m e] =
    T.ask (Row64 n f) (.br (U.not (lk hasD n f k s h m e)) (.ret (.tup [.lit (.int .i64 0), .lit (.bool false)])) (.br (U.lt (0 : Int) (Int.ofNat m)) (.ask ((0 : Int) ≤ (0 : Int) ∧ (0 :
      Int) < ↑n) (.ask ((0 : Int) ≤ (0 : Int) ∧ (0 : Int) < ↑m) (.ask (I64 (f (U.toNat (Int.ofNat 0))).1 ∧ I64 (f (U.toNat (Int.ofNat 0))).2.1 ∧ I64 (f (U.toNat (Int.ofNat 0))).2.2.1)
      (.ask ((0 : Int) ≤ (0 : Int) ∧ (0 : Int) < ↑n) (.ask (I64 (f (U.toNat (Int.ofNat 0))).1 ∧ I64 (f (U.toNat (Int.ofNat 0))).2.1 ∧ I64 (f (U.toNat (Int.ofNat 0))).2.2.1) (.br (U.lt (1
      : Int) (Int.ofNat m)) (.ask ((0 : Int) ≤ (1 : Int) ∧ (1 : Int) < ↑n) (.ask ((0 : Int) ≤ (1 : Int) ∧ (1 : Int) < ↑m) (.ask (I64 (f (U.toNat (Int.ofNat 1))).1 ∧ I64 (f (U.toNat
      (Int.ofNat 1))).2.1 ∧ I64 (f (U.toNat (Int.ofNat 1))).2.2.1) (.ask ((0 : Int) ≤ (1 : Int) ∧ (1 : Int) < ↑n) (.ask (I64 (f (U.toNat (Int.ofNat 1))).1 ∧ I64 (f (U.toNat (Int.ofNat
      1))).2.1 ∧ I64 (f (U.toNat (Int.ofNat 1))).2.2.1) (.br (U.lt (2 : Int) (Int.ofNat m)) (.ask ((0 : Int) ≤ (2 : Int) ∧ (2 : Int) < ↑n) (.ask ((0 : Int) ≤ (2 : Int) ∧ (2 : Int) < ↑m)
      (.ask (I64 (f (U.toNat (Int.ofNat 2))).1 ∧ I64 (f (U.toNat (Int.ofNat 2))).2.1 ∧ I64 (f (U.toNat (Int.ofNat 2))).2.2.1) (.ask ((0 : Int) ≤ (2 : Int) ∧ (2 : Int) < ↑n) (.ask (I64 (f
      (U.toNat (Int.ofNat 2))).1 ∧ I64 (f (U.toNat (Int.ofNat 2))).2.1 ∧ I64 (f (U.toNat (Int.ofNat 2))).2.2.1) (.stuck (nat_lit 105))))))) (.ret (.tup [.lit (.int .i64 (U.add .i64 (U.mul
      .i64 (U.add .i64 (U.mul .i64 0 (lk size (f (U.toNat (Int.ofNat 0))).1 (f (U.toNat (Int.ofNat 0))).2.1 (f (U.toNat (Int.ofNat 0))).2.2.1)) (lk pos (f (U.toNat (Int.ofNat 0))).1 (f
      (U.toNat (Int.ofNat 0))).2.1 (f (U.toNat (Int.ofNat 0))).2.2.1 (e (U.toNat (Int.ofNat 0))).1)) (lk size (f (U.toNat (Int.ofNat 1))).1 (f (U.toNat (Int.ofNat 1))).2.1 (f (U.toNat
      (Int.ofNat 1))).2.2.1)) (lk pos (f (U.toNat (Int.ofNat 1))).1 (f (U.toNat (Int.ofNat 1))).2.1 (f (U.toNat (Int.ofNat 1))).2.2.1 (e (U.toNat (Int.ofNat 1))).1))), .lit (.bool
      true)])))))))) (.ret (.tup [.lit (.int .i64 (U.add .i64 (U.mul .i64 0 (lk size (f (U.toNat (Int.ofNat 0))).1 (f (U.toNat (Int.ofNat 0))).2.1 (f (U.toNat (Int.ofNat 0))).2.2.1)) (lk
      pos (f (U.toNat (Int.ofNat 0))).1 (f (U.toNat (Int.ofNat 0))).2.1 (f (U.toNat (Int.ofNat 0))).2.2.1 (e (U.toNat (Int.ofNat 0))).1))), .lit (.bool true)])))))))) (.ret (.tup [.lit
      (.int .i64 0), .lit (.bool true)])))) := by kernel_rfl
set_option maxRecDepth 100000 in
theorem t_qNth (n : Nat) (f : Nat → R3) (k s h q : Int) : conB Go.Proofs.Tryz.prog (conOf d10) noLoops 10 61 [.agg [.row [.int .i64, .int .i64, .int .i64] n f, .lit (.int .i64 k), .lit (.int .i64 s), .lit (.int .i64 h)], .lit (.int .i64 q)] =
    T.ask (Row64 n f) (.br (U.ne (lk chD n f k s h) (0 : Int)) (.ret (.tup [.lit (.slice none (nat_lit 0) (nat_lit 0)), .lit (.int .i64 (lk chD n f k s h))])) (.br (U.lt q (0 : Int))
      (.ret (.tup [.lit (.slice none (nat_lit 0) (nat_lit 0)), .lit (.int .i64 4)])) (.ask (Row64 n f) (.br (U.ge q (lk szD n f k s h)) (.ret (.tup [.lit (.slice none (nat_lit 0) (nat_lit
      0)), .lit (.int .i64 4)])) (.br (U.eq (Int.ofNat n) (1 : Int)) (.ask ((0 : Int) ≤ (0 : Int) ∧ (0 : Int) < ↑n) (.ask (I64 (f (U.toNat (0 : Int))).1 ∧ I64 (f (U.toNat (0 : Int))).2.1
      ∧ I64 (f (U.toNat (0 : Int))).2.2.1) (.ret (.tup [.row [.int .i64] (nat_lit 1) fun x => (lk nth (f (U.toNat (0 : Int))).1 (f (U.toNat (0 : Int))).2.1 (f (U.toNat (0 : Int))).2.2.1
      q, PUnit.unit), .lit (.int .i64 0)])))) (.ask ((0 : Int) ≤ (1 : Int) ∧ (1 : Int) < ↑n) (.ask (I64 (f (U.toNat (1 : Int))).1 ∧ I64 (f (U.toNat (1 : Int))).2.1 ∧ I64 (f (U.toNat (1 :
      Int))).2.2.1) (.ask ((0 : Int) ≤ (0 : Int) ∧ (0 : Int) < ↑n) (.ask (lk size (f (U.toNat (1 : Int))).1 (f (U.toNat (1 : Int))).2.1 (f (U.toNat (1 : Int))).2.2.1 ≠ (0 : Int)) (.ask
      (I64 (f (U.toNat (0 : Int))).1 ∧ I64 (f (U.toNat (0 : Int))).2.1 ∧ I64 (f (U.toNat (0 : Int))).2.2.1) (.ask ((0 : Int) ≤ (1 : Int) ∧ (1 : Int) < ↑n) (.ask (lk size (f (U.toNat (1 :
      Int))).1 (f (U.toNat (1 : Int))).2.1 (f (U.toNat (1 : Int))).2.2.1 ≠ (0 : Int)) (.ask (I64 (f (U.toNat (1 : Int))).1 ∧ I64 (f (U.toNat (1 : Int))).2.1 ∧ I64 (f (U.toNat (1 :
      Int))).2.2.1) (.ret (.tup [.row [.int .i64] (nat_lit 2) (ofList [(lk nth (f (U.toNat (1 : Int))).1 (f (U.toNat (1 : Int))).2.1 (f (U.toNat (1 : Int))).2.2.1 (U.rem q (lk size (f
      (U.toNat (1 : Int))).1 (f (U.toNat (1 : Int))).2.1 (f (U.toNat (1 : Int))).2.2.1)), ()), (lk nth (f (U.toNat (0 : Int))).1 (f (U.toNat (0 : Int))).2.1 (f (U.toNat (0 : Int))).2.2.1
      (U.quo .i64 q (lk size (f (U.toNat (1 : Int))).1 (f (U.toNat (1 : Int))).2.1 (f (U.toNat (1 : Int))).2.2.1)), ())].reverse), .lit (.int .i64 0)]))))))))))))))) := by kernel_rfl
theorem lrC_ok : ∀ p ∈ lrC, LoopsOK P p.2 (bodyOf P p.1) := by
  intro p hp
  simp only [lrC, List.mem_singleton] at hp
  subst hp
  exact loopsOK_un fun q hq => by simp only [List.mem_singleton] at hq; subst hq; exact ⟨3, rfl⟩
theorem lrS_ok : ∀ p ∈ lrS, LoopsOK P p.2 (bodyOf P p.1) := by
  intro p hp
  simp only [lrS, List.mem_singleton] at hp
  subst hp
  exact loopsOK_un fun q hq => by simp only [List.mem_singleton] at hq; subst hq; exact ⟨3, rfl⟩
theorem lrH_ok : ∀ p ∈ lrH, LoopsOK P p.2 (bodyOf P p.1) := by
  intro p hp
  simp only [lrH, List.mem_singleton] at hp
  subst hp
  exact loopsOK_un fun q hq => by simp only [List.mem_singleton] at hq; subst hq; exact ⟨3, rfl⟩
theorem lrP_ok : ∀ p ∈ lrP, LoopsOK P p.2 (bodyOf P p.1) := by
  intro p hp
  simp only [lrP, List.mem_singleton] at hp
  subst hp
  exact loopsOK_un fun q hq => by simp only [List.mem_singleton] at hq; subst hq; exact ⟨3, rfl⟩
theorem d8_ok : ∀ p ∈ d8, ConOK P p.1 p.2 := by
  intro p hp
  simp only [d8, List.mem_cons] at hp
  rcases hp with rfl | hp
  · exact qmapped_ok
  · exact d7_ok p (by simpa [d7] using hp)
theorem qCheck_ok : ConOK P 31 c_DCheck := con_of (allOKL mixed d8_ok lrC_ok) 10 31 fun args r h => by
  unfold c_DCheck at h
  split at h
  · rename_i n f k s h'
    have hp : Row64 n f := (T.is_ask h).1
    have h := (T.is_ask h).2
    obtain rfl := T.is_ret h
    rw [t_qCheck]
    obtain ⟨a0, b0, c0, hf0⟩ := r3 (f 0)
    obtain ⟨a1, b1, c1, hf1⟩ := r3 (f 1)
    have hI0 : 0 < n → I64 a0 ∧ I64 b0 ∧ I64 c0 := fun hn => by have := hp 0 hn; rw [hf0] at this; exact this
    have hI1 : 1 < n → I64 a1 ∧ I64 b1 ∧ I64 c1 := fun hn => by have := hp 1 hn; rw [hf1] at this; exact this
    have k0 : ck1 (f 0) = if chk a0 b0 c0 ≠ 0 then chk a0 b0 c0 else if c0 < 0 then 2 else 0 := by rw [hf0]; rfl
    have k1 : ck1 (f 1) = if chk a1 b1 c1 ≠ 0 then chk a1 b1 c1 else if c1 < 0 then 2 else 0 := by rw [hf1]; rfl
    simp only [tn, lk_eq, hf0, hf1]
    simp only [Int.ofNat_eq_natCast]
    by_cases h1 : n < 1
    · have : n = 0 := by omega
      subst this
      simp [T.All, U.lt_eq, chD]
    by_cases h2 : 2 < n
    · have e : chD n f k s h' = 5 := by unfold chD; rw [if_pos (.inr h2)]
      have g1 : U.lt (n : Int) 1 = false := by rw [U.lt_eq]; exact decide_eq_false (by omega)
      have g2 : U.gt (n : Int) 2 = true := by rw [U.gt_eq]; exact decide_eq_true (by omega)
      simp only [T.All, g1, g2, e]
      simp
    have hn : n = 1 ∨ n = 2 := by omega
    by_cases z0 : chk a0 b0 c0 = 0
    · by_cases m0 : c0 < 0
      · rw [if_neg (by simp [z0]), if_pos m0] at k0
        have e2 : chD n f k s h' = 2 := by unfold chD; rw [if_neg (by omega), if_pos (by omega), k0]
        rcases hn with rfl | rfl <;> simp [T.All, U.lt_eq, U.gt_eq, U.ne_eq, hI0, z0, m0, e2]
      · rw [if_neg (by simp [z0]), if_neg m0] at k0
        rcases hn with rfl | rfl
        · have e2 : chD 1 f k s h' = if fitB k s h' = true then 0 else 2 := by unfold chD; rw [if_neg (by omega), if_neg (by omega), if_neg (by omega)]
          cases hf : fitB k s h' <;> simp [T.All, U.lt_eq, U.gt_eq, U.ne_eq, U.not_eq, hI0, z0, m0, e2, hf]
        · by_cases z1 : chk a1 b1 c1 = 0
          · by_cases m1 : c1 < 0
            · rw [if_neg (by simp [z1]), if_pos m1] at k1
              have e2 : chD 2 f k s h' = 2 := by unfold chD; rw [if_neg (by omega), if_neg (by omega), if_pos ⟨rfl, by omega⟩, k1]
              simp [T.All, U.lt_eq, U.gt_eq, U.ne_eq, hI0, hI1, z0, m0, z1, m1, e2]
            · rw [if_neg (by simp [z1]), if_neg m1] at k1
              have e2 : chD 2 f k s h' = if fitB k s h' = true then 0 else 2 := by unfold chD; rw [if_neg (by omega), if_neg (by omega), if_neg (fun h => h.2 k1)]
              cases hf : fitB k s h' <;> simp [T.All, U.lt_eq, U.gt_eq, U.ne_eq, U.not_eq, hI0, hI1, z0, m0, z1, m1, e2, hf]
          · rw [if_pos z1] at k1
            have e2 : chD 2 f k s h' = chk a1 b1 c1 := by unfold chD; rw [if_neg (by omega), if_neg (by omega), if_pos ⟨rfl, by rw [k1]; exact z1⟩, k1]
            simp [T.All, U.lt_eq, U.gt_eq, U.ne_eq, hI0, hI1, z0, m0, z1, e2]
    · rw [if_pos z0] at k0
      have e2 : chD n f k s h' = chk a0 b0 c0 := by unfold chD; rw [if_neg (by omega), if_pos (by rw [k0]; exact z0), k0]
      rcases hn with rfl | rfl <;> simp [T.All, U.lt_eq, U.gt_eq, U.ne_eq, hI0, z0, e2]
  · exact h.elim
theorem d9_ok : ∀ p ∈ d9, ConOK P p.1 p.2 := by
  intro p hp
  simp only [d9, List.mem_cons] at hp
  rcases hp with rfl | hp
  · exact qCheck_ok
  · exact d8_ok p (by simpa [d8] using hp)
theorem qSize_ok : ConOK P 65 c_DSize := con_of (allOKL mixed d9_ok lrS_ok) 10 65 fun args r h => by
  unfold c_DSize at h
  split at h
  · rename_i n f k s h'
    have hp : Row64 n f := (T.is_ask h).1
    have h := (T.is_ask h).2
    obtain rfl := T.is_ret h
    rw [t_qSize]
    simp only [tn, lk_eq]
    refine ⟨hp, fun hc => ?_, fun hc => ?_⟩
    · have hc : chD n f k s h' ≠ 0 := U.ne_t.mp hc
      have e : szD n f k s h' = 0 := by unfold szD; rw [if_pos hc]
      rw [e]; exact rfl
    · have hc : chD n f k s h' = 0 := U.ne_f.mp hc
      obtain ⟨d1, d2⟩ := chD_zero.1 hc
      have hn := d1.1
      have hb := dr_prod d1
      have h0 := rr_size (d1.2 0 (by omega))
      refine ⟨fun _ => ⟨⟨by omega, by omega⟩, hp 0 (by omega), fun g => ?_, fun g => ?_⟩, fun g => absurd (U.lt_f.mp g) (by simp only [Int.ofNat_eq_natCast]; omega)⟩
      · have g := U.lt_t.mp g
        simp only [Int.ofNat_eq_natCast] at g
        obtain rfl : n = 2 := by omega
        refine ⟨⟨by omega, by omega⟩, hp 1 (by omega), fun g => absurd (U.lt_t.mp g) (by decide), fun _ => ?_⟩
        show SV.lit (.int .i64 (U.mul .i64 (U.mul .i64 1 (szR (f 0))) (szR (f 1)))) = _
        have ec : colD 2 f = szR (f 1) := rfl
        rw [ec] at hb
        rw [U.mul64 (a := 1) (by unfold I64; omega), Int.one_mul, U.mul64 (by unfold I64; omega), szD_right hc, ec]
      · have g := U.lt_f.mp g
        simp only [Int.ofNat_eq_natCast] at g
        obtain rfl : n = 1 := by omega
        show SV.lit (.int .i64 (U.mul .i64 1 (szR (f 0)))) = _
        have ec : colD 1 f = 1 := rfl
        rw [U.mul64 (a := 1) (by unfold I64; omega), szD_right hc, ec, Int.one_mul, Int.mul_one]
  · exact h.elim
theorem qHas_ok : ConOK P 66 c_DHas := con_of (allOKL mixed d9_ok lrH_ok) 10 66 fun args r h => by
  unfold c_DHas at h
  split at h
  · rename_i n f k s h' m e
    have hp : Row64 n f := (T.is_ask h).1
    have h := (T.is_ask h).2
    obtain rfl := T.is_ret h
    rw [t_qHas]
    simp only [tn, lk_eq]
    have no : ¬ (chD n f k s h' = 0 ∧ m = n ∧ hasR (f 0) (e 0).1 = true ∧ (n = 2 → hasR (f 1) (e 1).1 = true)) → SV.lit (.bool false) = SV.lit (.bool (hasD n f k s h' m e)) :=
      fun h => by rw [(hasD_f h).1]
    refine ⟨hp, fun z => ?_, fun z => ⟨fun g => ?_, fun g => ?_⟩⟩
    · have z := U.ne_t.mp z
      exact no fun h => z h.1
    · have g := U.ne_t.mp g
      exact no fun h => g (by rw [h.2.1])
    have z : chD n f k s h' = 0 := U.ne_f.mp z
    have g : (m : Int) = n := U.ne_f.mp g
    obtain rfl : m = n := by omega
    obtain ⟨d1, d1'⟩ := chD_zero.1 z
    have hn := d1.1
    refine ⟨fun _ => ⟨⟨by omega, by omega⟩, ⟨by omega, by omega⟩, hp 0 (by omega), fun q => ?_, fun q => ⟨fun g1 => ?_, fun g1 => ?_⟩⟩, fun g => absurd (U.lt_f.mp g) (by simp only [Int.ofNat_eq_natCast]; omega)⟩
    · have q : hasR (f 0) (e 0).1 = false := U.not_t.mp q
      exact no fun h => by rw [h.2.2.1] at q; cases q
    · have q : hasR (f 0) (e 0).1 = true := U.not_f.mp q
      have g1 := U.lt_t.mp g1
      simp only [Int.ofNat_eq_natCast] at g1
      obtain rfl : m = 2 := by omega
      refine ⟨⟨by omega, by omega⟩, ⟨by omega, by omega⟩, hp 1 (by omega), fun q2 => ?_, fun q2 => ⟨fun g => absurd (U.lt_t.mp g) (by decide), fun _ => ?_⟩⟩
      · have q2 : hasR (f 1) (e 1).1 = false := U.not_t.mp q2
        exact no fun h => by rw [h.2.2.2 rfl] at q2; cases q2
      · have q2 : hasR (f 1) (e 1).1 = true := U.not_f.mp q2
        rw [(hasD_t (k := k) (s := s) (h := h') (m := 2) (e := e) ⟨z, rfl, q, fun _ => q2⟩).1]; exact rfl
    · have q : hasR (f 0) (e 0).1 = true := U.not_f.mp q
      have g1 := U.lt_f.mp g1
      simp only [Int.ofNat_eq_natCast] at g1
      obtain rfl : m = 1 := by omega
      rw [(hasD_t (k := k) (s := s) (h := h') (m := 1) (e := e) ⟨z, rfl, q, fun h => by omega⟩).1]; exact rfl
  · exact h.elim
theorem d10_ok : ∀ p ∈ d10, ConOK P p.1 p.2 := by
  intro p hp
  simp only [d10, List.mem_cons] at hp
  rcases hp with rfl | rfl | hp
  · exact qSize_ok
  · exact qHas_ok
  · exact d9_ok p (by simpa [d9] using hp)
theorem qPos_ok : ConOK P 34 c_DPosition := con_of (allOKL mixed d10_ok lrP_ok) 10 34 fun args r h => by
  unfold c_DPosition at h
  split at h
  · rename_i n f k s h' m e
    have hp : Row64 n f := (T.is_ask h).1
    have h := (T.is_ask h).2
    obtain rfl := T.is_ret h
    rw [t_qPos]
    simp only [tn, lk_eq]
    refine ⟨hp, fun z => ?_, fun z => ?_⟩
    · have z : hasD n f k s h' m e = false := U.not_t.mp z
      refine pv_eq ?_ z.symm
      unfold posD; rw [z]; rfl
    have z : hasD n f k s h' m e = true := U.not_f.mp z
    obtain ⟨h1, h2, h3, h4⟩ : chD n f k s h' = 0 ∧ m = n ∧ hasR (f 0) (e 0).1 = true ∧ (n = 2 → hasR (f 1) (e 1).1 = true) := of_decide_eq_true z
    subst h2
    have e2 := (hasD_t (k := k) (s := s) (h := h') (m := m) (e := e) ⟨h1, rfl, h3, h4⟩).2
    obtain ⟨d1, d1'⟩ := chD_zero.1 h1
    have hn := d1.1
    have b0 : 0 ≤ posR (f 0) (e 0).1 ∧ posR (f 0) (e 0).1 ≤ 2000000 := pos_bnd h3
    refine ⟨fun _ => ⟨⟨by omega, by omega⟩, ⟨by omega, by omega⟩, hp 0 (by omega), ⟨by omega, by omega⟩, hp 0 (by omega), fun g1 => ?_, fun g1 => ?_⟩, fun g => absurd (U.lt_f.mp g) (by simp only [Int.ofNat_eq_natCast]; omega)⟩
    · have g1 := U.lt_t.mp g1
      simp only [Int.ofNat_eq_natCast] at g1
      obtain rfl : m = 2 := by omega
      refine ⟨⟨by omega, by omega⟩, ⟨by omega, by omega⟩, hp 1 (by omega), ⟨by omega, by omega⟩, hp 1 (by omega), fun g => absurd (U.lt_t.mp g) (by decide), fun _ => pv_eq ?_ z.symm⟩
      have b1 : 0 ≤ posR (f 1) (e 1).1 ∧ posR (f 1) (e 1).1 ≤ 2000000 := pos_bnd (h4 rfl)
      have c1 := (rr_size (d1.2 1 (by omega))).2
      have hb := mul_add_bnd (x := posR (f 0) (e 0).1) (y := szR (f 1)) (z := posR (f 1) (e 1).1) b0.1 b0.2 c1.1 c1.2 (by omega) b1.1 (by omega)
      rw [e2, if_neg (by omega)]
      show U.add .i64 (U.mul .i64 (U.add .i64 (U.mul .i64 0 (szR (f 0))) (posR (f 0) (e 0).1)) (szR (f 1))) (posR (f 1) (e 1).1) = _
      rw [U.mul64 (a := 0) (by unfold I64; omega), Int.zero_mul, U.add64 (a := 0) (by unfold I64; omega), Int.zero_add, U.mul64 (by unfold I64; omega), U.add64 (by unfold I64; omega)]
    · have g1 := U.lt_f.mp g1
      simp only [Int.ofNat_eq_natCast] at g1
      obtain rfl : m = 1 := by omega
      refine pv_eq ?_ z.symm
      rw [e2, if_pos rfl]
      show U.add .i64 (U.mul .i64 0 (szR (f 0))) (posR (f 0) (e 0).1) = _
      rw [U.mul64 (a := 0) (by unfold I64; omega), Int.zero_mul, U.add64 (a := 0) (by unfold I64; omega), Int.zero_add]
  · exact h.elim
theorem qNth_ok : ConOK P 61 c_DNth := con_cl (allOK mixed d10_ok) 10 61 fun args r h => by
  unfold c_DNth at h
  split at h
  · rename_i n f k s h' q
    obtain ⟨hp, hq⟩ := (T.is_ask h).1
    have h := (T.is_ask h).2
    obtain rfl := T.is_ret h
    rw [t_qNth]
    simp only [tn0, tn1, lk_eq]
    refine T.all_mono (K := fun v => Cl v (dnV n f k s h' q)) (fun v hv => hv) ?_
    have ie : (Int.ofNat n) = (n : Int) := rfl
    refine ⟨hp, fun z => ?_, fun z => ?_⟩
    · have z : chD n f k s h' ≠ 0 := U.ne_t.mp z
      exact dn_err (by unfold dnE; rw [if_pos z]) z
    have z : chD n f k s h' = 0 := U.ne_f.mp z
    obtain ⟨d1, d1'⟩ := chD_zero.1 z
    have hn := d1.1
    have hc := dr_col d1
    refine ⟨fun g => ?_, fun g => ⟨hp, fun g2 => ?_, fun g2 => ?_⟩⟩
    · have g := U.lt_t.mp g
      exact dn_err (by unfold dnE; rw [if_neg (by simp [z]), if_pos (.inl g)]) (by decide)
    · have g2 := U.ge_t.mp g2
      exact dn_err (by unfold dnE; rw [if_neg (by simp [z]), if_pos (.inr g2)]) (by decide)
    have g := U.lt_f.mp g
    have g2 := U.ge_f.mp g2
    have e0 : dnE n f k s h' q = 0 := by unfold dnE; rw [if_neg (by simp [z]), if_neg (by omega)]
    have hcol : colD n f ≠ 0 := fun hz => by rw [szD_right z, hz, Int.mul_zero] at g2; omega
    refine ⟨fun g3 => ?_, fun g3 => ?_⟩
    · have g3 : (n : Int) = 1 := U.eq_t.mp g3
      obtain rfl : n = 1 := by omega
      refine ⟨⟨by omega, by omega⟩, hp 0 (by omega), dn_ok e0 fun i hi => ?_⟩
      obtain rfl : i = 0 := by omega
      have ec : colD 1 f = 1 := rfl
      show _ = dnF 1 f q 0
      unfold dnF
      rw [if_pos rfl, ec, Int.tdiv_one]; rfl
    · have g3 : (n : Int) ≠ 1 := U.eq_f.mp g3
      obtain rfl : n = 2 := by omega
      have t1 := Int.tdiv_eq_ediv_of_nonneg (b := szR (f 1)) g
      have t2 := Int.ediv_nonneg g hc.1
      have t3 := Int.ediv_le_self (szR (f 1)) g
      have ec : colD 2 f = szR (f 1) := rfl
      rw [ec] at t2 hcol
      have eq1 : U.quo .i64 q (szR (f 1)) = q.tdiv (szR (f 1)) := U.quo64 (by unfold I64 at hq ⊢; omega)
      have eq2 : U.rem q (szR (f 1)) = q.tmod (szR (f 1)) := U.rem_eq _ _
      refine ⟨⟨by omega, by omega⟩, hp 1 (by omega), ⟨by omega, by omega⟩, hcol, hp 0 (by omega), ⟨by omega, by omega⟩, hcol, hp 1 (by omega), dn_ok e0 fun i hi => ?_⟩
      rcases (show i = 0 ∨ i = 1 by omega) with rfl | rfl
      · show ((nth (rA (f 0)) (rB (f 0)) (rC (f 0)) (U.quo .i64 q (szR (f 1))), ()) : R1) = _
        rw [eq1]; unfold dnF; rw [if_pos rfl, ec]
      · show ((nth (rA (f 1)) (rB (f 1)) (rC (f 1)) (U.rem q (szR (f 1))), ()) : R1) = _
        rw [eq2]; unfold dnF; rw [if_neg (by decide), ec]
  · exact h.elim
end Go.RX.Span

/- Domains: what the law of Of and its like returns. -/
set_option linter.unusedVariables false
set_option linter.unusedSimpArgs false
set_option maxRecDepth 100000
namespace Go.RX.Span
open Go Go.RX
attribute [local irreducible] sx conB

noncomputable abbrev d11 : List (Nat × Con) := (29, c_DPosition) :: (34, c_DPosition) :: (61, c_DNth) :: d10
theorem d11_ok : ∀ p ∈ d11, ConOK P p.1 p.2 := by
  intro p hp
  simp only [d11, List.mem_cons] at hp
  rcases hp with rfl | rfl | rfl | hp
  · exact DPosition_ok
  · exact qPos_ok
  · exact qNth_ok
  · exact d10_ok p (by simpa [d10] using hp)
end Go.RX.Span

/- Domains: Subtract: plain. -/
set_option linter.unusedVariables false
set_option linter.unusedSimpArgs false
set_option maxRecDepth 100000
namespace Go.RX.Span
open Go Go.RX
attribute [local irreducible] sx conB

noncomputable abbrev d14 : List (Nat × Con) := (75, c_Clone) :: (64, c_Intersect) :: d11
theorem d14_ok : ∀ p ∈ d14, ConOK P p.1 p.2 := by
  intro p hp
  simp only [d14, List.mem_cons] at hp
  rcases hp with rfl | rfl | hp
  · exact Clone_ok
  · exact rIntersect_ok
  · exact d11_ok p (by simpa [d11] using hp)
end Go.RX.Span

/- Domains: the reference's Subtract: the loops' states. -/
set_option linter.unusedVariables false
set_option linter.unusedSimpArgs false
set_option maxRecDepth 100000
namespace Go.RX.Span
open Go Go.RX
attribute [local irreducible] sx conB

noncomputable abbrev lqI : List (Nat × Loops) := [(32, [(6, .un 3)])]
noncomputable abbrev d14p : List (Nat × Con) := (63, c_both) :: d14
end Go.RX.Span

/- Domains: the reference's Intersect and Subtract: the walks. -/
set_option linter.unusedVariables false
set_option linter.unusedSimpArgs false
set_option maxRecDepth 100000
namespace Go.RX.Span
open Go Go.RX
attribute [local irreducible] sx conB

--%R ofList\s+\[ => ofList (ss := [.int .i64, .int .i64, .int .i64]) [
--%R ↑n ≤ ↑n => (n : Int) ≤ (n : Int)
set_option maxRecDepth 100000 in
theorem t_qpair (n : Nat) (f : Nat → R3) (k s h : Int) (m : Nat) (g : Nat → R3) (k1 s1 h1 : Int) : conB Go.Proofs.Tryz.prog (conOf d14) noLoops 10 63 [.agg [.row [.int .i64, .int .i64, .int .i64] n f, .lit (.int .i64 k), .lit (.int .i64 s), .lit (.int .i64 h)], .agg [.row [.int .i64, .int .i64, .int .i64] m g, .lit (.int .i64 k1), .lit (.int .i64 s1), .lit (.int .i64 h1)]] =
    T.ask (Row64 n f) (.br (U.ne (lk chD n f k s h) (0 : Int)) (.ret (.lit (.int .i64 (lk chD n f k s h)))) (.ask (Row64 m g) (.br (U.ne (lk chD m g k1 s1 h1) (0 : Int)) (.ret (.lit
      (.int .i64 (lk chD m g k1 s1 h1)))) (.br (U.ne (Int.ofNat n) (Int.ofNat m)) (.ret (.lit (.int .i64 5))) (.ret (.lit (.int .i64 0))))))) := by kernel_rfl
set_option maxRecDepth 100000 in
theorem t_qDIntersect (n : Nat) (f : Nat → R3) (k s h : Int) (m : Nat) (g : Nat → R3) (k1 s1 h1 : Int) : conB Go.Proofs.Tryz.prog (conOf d14p) (loopsOf lqI) 10 32 [.agg [.row [.int .i64, .int .i64, .int .i64] n f, .lit (.int .i64 k), .lit (.int .i64 s), .lit (.int .i64 h)], .agg [.row [.int .i64, .int .i64, .int .i64] m g, .lit (.int .i64 k1), .lit (.int .i64 s1), .lit (.int .i64 h1)]] =
    T.ask (Row64 n f ∧ Row64 m g) (.br (U.ne (lk boE n f k s h m g k1 s1 h1) (0 : Int)) (.ret (.tup [.agg [.lit (.slice none (nat_lit 0) (nat_lit 0)), .lit (.int .i64 0), .lit (.int
      .i64 0), .lit (.int .i64 0)], .lit (.int .i64 (lk boE n f k s h m g k1 s1 h1))])) (.br (U.lt (0 : Int) (Int.ofNat n)) (.ask ((0 : Int) ≤ (0 : Int) ∧ (0 : Int) < ↑n) (.ask ((0 : Int)
      ≤ (0 : Int) ∧ (0 : Int) < ↑m) (.ask (I64 (f (U.toNat (Int.ofNat 0))).1 ∧ I64 (f (U.toNat (Int.ofNat 0))).2.1 ∧ I64 (f (U.toNat (Int.ofNat 0))).2.2.1 ∧ I64 (g (U.toNat (Int.ofNat
      0))).1 ∧ I64 (g (U.toNat (Int.ofNat 0))).2.1 ∧ I64 (g (U.toNat (Int.ofNat 0))).2.2.1) (.ask ((1 : Nat) * nat_lit 24 ≤ nat_lit 140737488351232) (.br (U.lt (1 : Int) (Int.ofNat n))
      (.ask ((0 : Int) ≤ (1 : Int) ∧ (1 : Int) < ↑n) (.ask ((0 : Int) ≤ (1 : Int) ∧ (1 : Int) < ↑m) (.ask (I64 (f (U.toNat (Int.ofNat 1))).1 ∧ I64 (f (U.toNat (Int.ofNat 1))).2.1 ∧ I64 (f
      (U.toNat (Int.ofNat 1))).2.2.1 ∧ I64 (g (U.toNat (Int.ofNat 1))).1 ∧ I64 (g (U.toNat (Int.ofNat 1))).2.1 ∧ I64 (g (U.toNat (Int.ofNat 1))).2.2.1) (.ask (((1 : Nat) + (1 : Nat)) *
      nat_lit 24 ≤ nat_lit 140737488351232) (.br (U.lt (2 : Int) (Int.ofNat n)) (.ask ((0 : Int) ≤ (2 : Int) ∧ (2 : Int) < ↑n) (.ask ((0 : Int) ≤ (2 : Int) ∧ (2 : Int) < ↑m) (.ask (I64 (f
      (U.toNat (Int.ofNat 2))).1 ∧ I64 (f (U.toNat (Int.ofNat 2))).2.1 ∧ I64 (f (U.toNat (Int.ofNat 2))).2.2.1 ∧ I64 (g (U.toNat (Int.ofNat 2))).1 ∧ I64 (g (U.toNat (Int.ofNat 2))).2.1 ∧
      I64 (g (U.toNat (Int.ofNat 2))).2.2.1) (.ask (((1 : Nat) + (1 : Nat) + (1 : Nat)) * nat_lit 24 ≤ nat_lit 140737488351232) (.stuck (nat_lit 105)))))) (.ret (.tup [.agg [.row [.int
      .i64, .int .i64, .int .i64] (nat_lit 2) (U.cat (nat_lit 1) (fun x => (lk isL (f (U.toNat (Int.ofNat 0))).1 (f (U.toNat (Int.ofNat 0))).2.1 (f (U.toNat (Int.ofNat 0))).2.2.1 (g
      (U.toNat (Int.ofNat 0))).1 (g (U.toNat (Int.ofNat 0))).2.1 (g (U.toNat (Int.ofNat 0))).2.2.1, lk isH (f (U.toNat (Int.ofNat 0))).1 (f (U.toNat (Int.ofNat 0))).2.1 (f (U.toNat
      (Int.ofNat 0))).2.2.1 (g (U.toNat (Int.ofNat 0))).1 (g (U.toNat (Int.ofNat 0))).2.1 (g (U.toNat (Int.ofNat 0))).2.2.1, lk isS (f (U.toNat (Int.ofNat 0))).1 (f (U.toNat (Int.ofNat
      0))).2.1 (f (U.toNat (Int.ofNat 0))).2.2.1 (g (U.toNat (Int.ofNat 0))).1 (g (U.toNat (Int.ofNat 0))).2.1 (g (U.toNat (Int.ofNat 0))).2.2.1, PUnit.unit)) fun x => (lk isL (f (U.toNat
      (Int.ofNat 1))).1 (f (U.toNat (Int.ofNat 1))).2.1 (f (U.toNat (Int.ofNat 1))).2.2.1 (g (U.toNat (Int.ofNat 1))).1 (g (U.toNat (Int.ofNat 1))).2.1 (g (U.toNat (Int.ofNat 1))).2.2.1,
      lk isH (f (U.toNat (Int.ofNat 1))).1 (f (U.toNat (Int.ofNat 1))).2.1 (f (U.toNat (Int.ofNat 1))).2.2.1 (g (U.toNat (Int.ofNat 1))).1 (g (U.toNat (Int.ofNat 1))).2.1 (g (U.toNat
      (Int.ofNat 1))).2.2.1, lk isS (f (U.toNat (Int.ofNat 1))).1 (f (U.toNat (Int.ofNat 1))).2.1 (f (U.toNat (Int.ofNat 1))).2.2.1 (g (U.toNat (Int.ofNat 1))).1 (g (U.toNat (Int.ofNat
      1))).2.1 (g (U.toNat (Int.ofNat 1))).2.2.1, PUnit.unit)), .lit (.int .i64 k), .lit (.int .i64 s), .lit (.int .i64 h)], .lit (.int .i64 0)]))))))) (.ret (.tup [.agg [.row [.int .i64,
      .int .i64, .int .i64] (nat_lit 1) fun x => (lk isL (f (U.toNat (Int.ofNat 0))).1 (f (U.toNat (Int.ofNat 0))).2.1 (f (U.toNat (Int.ofNat 0))).2.2.1 (g (U.toNat (Int.ofNat 0))).1 (g
      (U.toNat (Int.ofNat 0))).2.1 (g (U.toNat (Int.ofNat 0))).2.2.1, lk isH (f (U.toNat (Int.ofNat 0))).1 (f (U.toNat (Int.ofNat 0))).2.1 (f (U.toNat (Int.ofNat 0))).2.2.1 (g (U.toNat
      (Int.ofNat 0))).1 (g (U.toNat (Int.ofNat 0))).2.1 (g (U.toNat (Int.ofNat 0))).2.2.1, lk isS (f (U.toNat (Int.ofNat 0))).1 (f (U.toNat (Int.ofNat 0))).2.1 (f (U.toNat (Int.ofNat
      0))).2.2.1 (g (U.toNat (Int.ofNat 0))).1 (g (U.toNat (Int.ofNat 0))).2.1 (g (U.toNat (Int.ofNat 0))).2.2.1, PUnit.unit), .lit (.int .i64 k), .lit (.int .i64 s), .lit (.int .i64 h)],
      .lit (.int .i64 0)]))))))) (.ret (.tup [.agg [.lit (.slice none (nat_lit 0) (nat_lit 0)), .lit (.int .i64 k), .lit (.int .i64 s), .lit (.int .i64 h)], .lit (.int .i64 0)])))) := by kernel_rfl
end Go.RX.Span

/- Domains: the reference's pair, Intersect, Within, Same. -/
set_option linter.unusedVariables false
set_option linter.unusedSimpArgs false
set_option maxRecDepth 100000
namespace Go.RX.Span
open Go Go.RX
attribute [local irreducible] sx conB

theorem qpair_ok : ConOK P 63 c_both := con_of (allOK mixed d14_ok) 10 63 fun args r h => by
  unfold c_both at h
  split at h
  · rename_i n f k s h' m g k1 s1 h1
    obtain ⟨hp, hq⟩ := (T.is_ask h).1
    have h := (T.is_ask h).2
    obtain rfl := T.is_ret h
    rw [t_qpair]
    unfold boE
    by_cases c1 : chD n f k s h' = 0
    · by_cases c2 : chD m g k1 s1 h1 = 0
      · by_cases c3 : n = m
        · subst c3
          simp [T.All, U.ne_eq, lk_eq, hp, hq, c1, c2]
        · have : ¬ ((n : Int) = (m : Int)) := by omega
          simp [T.All, U.ne_eq, lk_eq, hp, hq, c1, c2, c3, this]
      · simp [T.All, U.ne_eq, lk_eq, hp, hq, c1, c2]
    · simp [T.All, U.ne_eq, lk_eq, hp, hq, c1]
  · exact h.elim
theorem d14p_ok : ∀ p ∈ d14p, ConOK P p.1 p.2 := by
  intro p hp
  rcases List.mem_cons.1 hp with rfl | hp
  · exact qpair_ok
  · exact d14_ok p hp
theorem lqI_ok : ∀ p ∈ lqI, LoopsOK P p.2 (bodyOf P p.1) := by
  intro p hp
  simp only [lqI, List.mem_singleton] at hp
  subst hp
  exact loopsOK_un fun q hq => by simp only [List.mem_singleton] at hq; subst hq; exact ⟨3, rfl⟩
theorem qDIntersect_ok : ConOK P 32 c_DIntersect := con_cl (allOKL mixed d14p_ok lqI_ok) 10 32 fun args r h => by
  unfold c_DIntersect at h
  split at h
  · rename_i n f k s h' m g k1 s1 h1
    obtain ⟨hp, hq⟩ := (T.is_ask h).1
    have h := (T.is_ask h).2
    obtain rfl := T.is_ret h
    rw [t_qDIntersect]
    simp only [tn, lk_eq]
    refine ⟨⟨hp, hq⟩, fun hE => ?_, fun hE => ?_⟩
    · have hE : boE n f k s h' m g k1 s1 h1 ≠ 0 := U.ne_t.mp hE
      have e1 : diN n f k s h' m g k1 s1 h1 = 0 := by unfold diN; rw [if_pos hE]
      have e2 : ∀ x, diX n f k s h' m g k1 s1 h1 x = 0 := fun x => by unfold diX; rw [if_pos hE]
      rw [e1, e2, e2, e2]
      exact ⟨cl_agg ⟨cl_nil0 rfl, cl_lit rfl, cl_lit rfl, cl_lit rfl, rfl⟩, cl_lit rfl, rfl⟩
    · have hE : boE n f k s h' m g k1 s1 h1 = 0 := U.ne_f.mp hE
      obtain ⟨c1, c2, c3⟩ := boE_zero.1 hE
      subst c3
      obtain ⟨d1, d1'⟩ := chD_zero.1 c1
      have e1 : diN n f k s h' n g k1 s1 h1 = n := by unfold diN; rw [if_neg (by simp [hE])]
      have e2 : ∀ x, diX n f k s h' n g k1 s1 h1 x = x := fun x => by unfold diX; rw [if_neg (by simp [hE])]
      rw [e1, e2, e2, e2, hE]
      have hn := d1.1
      have hI : ∀ i, i < n → I64 (f i).1 ∧ I64 (f i).2.1 ∧ I64 (f i).2.2.1 ∧ I64 (g i).1 ∧ I64 (g i).2.1 ∧ I64 (g i).2.2.1 := fun i hi => by
        obtain ⟨x1, x2, x3⟩ := hp i hi
        obtain ⟨y1, y2, y3⟩ := hq i hi
        exact ⟨x1, x2, x3, y1, y2, y3⟩
      have l0 : U.lt (0 : Int) (Int.ofNat n) = true := by rw [U.lt_eq]; exact decide_eq_true (by simp only [Int.ofNat_eq_natCast]; omega)
      refine ⟨fun _ => ⟨by omega, by omega, hI 0 (by omega), by omega, ?_⟩, fun h => (by rw [l0] at h; cases h)⟩
      rcases hn with rfl | rfl
      · refine ⟨fun h => absurd (U.lt_t.mp h) (by decide), fun _ => ?_⟩
        refine ⟨cl_agg ⟨cl_row' rfl fun i hi => ?_, cl_lit rfl, cl_lit rfl, cl_lit rfl, rfl⟩, cl_lit rfl, rfl⟩
        obtain rfl : i = 0 := by omega
        rfl
      · refine ⟨fun _ => ⟨by omega, by omega, hI 1 (by omega), by omega, fun h => absurd (U.lt_t.mp h) (by decide), fun _ => ?_⟩, fun h => absurd (U.lt_f.mp h) (by decide)⟩
        refine ⟨cl_agg ⟨cl_row' rfl fun i hi => ?_, cl_lit rfl, cl_lit rfl, cl_lit rfl, rfl⟩, cl_lit rfl, rfl⟩
        rcases (show i = 0 ∨ i = 1 by omega) with rfl | rfl
        · exact cat_l (by omega)
        · exact cat_r (by omega)
  · exact h.elim
end Go.RX.Span

/- Domain maps: plain specifications. -/
set_option linter.unusedVariables false
set_option linter.unusedSimpArgs false
namespace Go.RX.Span
open Go Go.RX

/-- A number of a list. -/
def nv (e : Nat → R1) (j : Nat) : Int := (e j).1
end Go.RX.Span

/- The hash of an index: the contracts. -/
set_option linter.unusedVariables false
set_option linter.unusedSimpArgs false
set_option maxRecDepth 100000
namespace Go.RX.Span
open Go Go.RX
attribute [local irreducible] sx conB

theorem row1H {n : Nat} {f g : Nat → R1} (h : ∀ i, i < n → f i = g i) : sameRow n f g := ⟨eqShs_refl _, fun i hi => h i hi⟩
theorem tnH (j : Nat) : U.toNat (j : Int) = j := tn j
end Go.RX.Span

/- Domain maps: Global, Local: plain; BinarySearch: its loop. -/
set_option linter.unusedVariables false
set_option linter.unusedSimpArgs false
set_option maxRecDepth 100000
namespace Go.RX.Span
open Go Go.RX
attribute [local irreducible] sx conB

/-- How many numbers of an ascending list are less. -/
def bsI (n : Nat) (e : Nat → R1) (x : Int) : Nat := ((List.range n).filter fun i => decide (nv e i < x)).length
noncomputable def bsB (n : Nat) (e : Nat → R1) (x : Int) : Bool := open Classical in decide (∃ i, i < n ∧ nv e i = x)
def BsAsk (n : Nat) (e : Nat → R1) : Prop := n ≤ 100000 ∧ ∀ i j, i < j → j < n → nv e i < nv e j
end Go.RX.Span

/- Domain maps: Global, Local, BinarySearch: the contracts. -/
set_option linter.unusedVariables false
set_option linter.unusedSimpArgs false
set_option maxRecDepth 100000
namespace Go.RX.Span
open Go Go.RX
attribute [local irreducible] sx conB

theorem bsI_of {n : Nat} {e : Nat → R1} {x : Int} {lo : Nat} (hn : lo ≤ n) (h1 : ∀ i, i < lo → nv e i < x) (h2 : ∀ i, lo ≤ i → i < n → x ≤ nv e i) : bsI n e x = lo := by
  unfold bsI
  have : n = lo + (n - lo) := by omega
  rw [this, List.range_add, List.filter_append, List.length_append]
  rw [List.filter_eq_self.2 fun i hi => decide_eq_true (h1 i (List.mem_range.1 hi)), List.length_range]
  have : ((List.range (n - lo)).map (lo + ·)).filter (fun i => decide (nv e i < x)) = [] := List.filter_eq_nil_iff.2 fun i hi => by
    obtain ⟨j, hj, rfl⟩ := List.mem_map.1 hi
    have hj := List.mem_range.1 hj
    have := h2 (lo + j) (by omega) (by omega)
    simp only [decide_eq_true_eq]; omega
  rw [this]; rfl
/-- What is known of the place that is found. -/
theorem bs_spec {n : Nat} {e : Nat → R1} (h : BsAsk n e) (x : Int) : bsI n e x ≤ n ∧ (∀ i, i < bsI n e x → nv e i < x) ∧ ∀ i, bsI n e x ≤ i → i < n → x ≤ nv e i := by
  have key : ∀ m, m ≤ n → ∃ lo, lo ≤ m ∧ (∀ i, i < lo → nv e i < x) ∧ ∀ i, lo ≤ i → i < m → x ≤ nv e i := by
    intro m
    induction m with
    | zero => exact fun _ => ⟨0, Nat.le_refl _, fun i hi => absurd hi (Nat.not_lt_zero i), fun i _ hi => absurd hi (Nat.not_lt_zero i)⟩
    | succ m ih =>
      intro hm
      obtain ⟨lo, a1, a2, a3⟩ := ih (by omega)
      by_cases hx : nv e m < x
      · refine ⟨m + 1, Nat.le_refl _, fun i hi => ?_, fun i h1 h2 => by omega⟩
        by_cases e : i = m
        · subst e; exact hx
        · exact Int.lt_trans (h.2 i m (by omega) (by omega)) hx
      · refine ⟨lo, by omega, a2, fun i h1 h2 => ?_⟩
        by_cases e : i = m
        · subst e; omega
        · exact a3 i h1 (by omega)
  obtain ⟨lo, a1, a2, a3⟩ := key n (Nat.le_refl _)
  rw [bsI_of a1 a2 a3]
  exact ⟨a1, a2, a3⟩
end Go.RX.Span

/- Sparse domains: plain; small contracts. -/
set_option linter.unusedVariables false
set_option linter.unusedSimpArgs false
set_option maxRecDepth 100000
namespace Go.RX.Span
open Go Go.RX
attribute [local irreducible] sx conB

section
variable (n : Nat) (f : Nat → R3) (k s h : Int) (m : Nat) (e : Nat → R1)
/-- The error of a parent. -/
def pdE : Int := if chD n f k s h ≠ 0 then chD n f k s h else if 1000000 < szD n f k s h then 7 else 0
/-- Positions in order. -/
def SpAt (N : Int) (m : Nat) (e : Nat → R1) : Prop := ∀ i, i < m → 0 ≤ nv e i ∧ nv e i < N ∧ (0 < i → nv e (i - 1) < nv e i)
open Classical in
/-- The error of a sparse domain. -/
noncomputable def spE : Int := if pdE n f k s h ≠ 0 then pdE n f k s h else if 5000 < m then 5 else if SpAt (szD n f k s h) m e then 0 else 51
end
noncomputable def c_parented : Con := fun args => match args with
  | [.agg [.row [.int .i64, .int .i64, .int .i64] n f, .lit (.int .i64 k), .lit (.int .i64 s), .lit (.int .i64 h)]] => .ask (Row64 n f) (.ret (.lit (.int .i64 (lk pdE n f k s h))))
  | _ => .stuck 1
noncomputable def c_SpCheck : Con := fun args => match args with
  | [.agg [.row [.int .i64, .int .i64, .int .i64] n f, .lit (.int .i64 k), .lit (.int .i64 s), .lit (.int .i64 h), .row [.int .i64] m e]] => .ask (Row64 n f) (.ret (.lit (.int .i64 (lk spE n f k s h m e))))
  | _ => .stuck 1
noncomputable def c_copied : Con := fun args => match args with
  | [.agg [.row [.int .i64, .int .i64, .int .i64] n f, .lit (.int .i64 k), .lit (.int .i64 s), .lit (.int .i64 h)]] => .ask (0 < n ∧ n ≤ 10000) (.ret (.agg [.row [.int .i64, .int .i64, .int .i64] n f, .lit (.int .i64 k), .lit (.int .i64 s), .lit (.int .i64 h)]))
  | _ => .stuck 1
theorem pdE_zero {n : Nat} {f : Nat → R3} {k s h : Int} : pdE n f k s h = 0 ↔ chD n f k s h = 0 ∧ szD n f k s h ≤ 1000000 := by
  unfold pdE
  by_cases h1 : chD n f k s h = 0
  · rw [if_neg (fun g => g h1)]
    by_cases h2 : 1000000 < szD n f k s h
    · rw [if_pos h2]; exact ⟨fun g => absurd g (by decide), fun g => absurd g.2 (by omega)⟩
    · rw [if_neg h2]; exact ⟨fun _ => ⟨h1, by omega⟩, fun _ => rfl⟩
  · rw [if_pos h1]; exact ⟨fun g => absurd g h1, fun g => absurd g.1 h1⟩
theorem spE_zero {n : Nat} {f : Nat → R3} {k s h : Int} {m : Nat} {e : Nat → R1} : spE n f k s h m e = 0 ↔ pdE n f k s h = 0 ∧ m ≤ 5000 ∧ SpAt (szD n f k s h) m e := by
  unfold spE
  by_cases h1 : pdE n f k s h = 0
  · rw [if_neg (fun g => g h1)]
    by_cases h2 : 5000 < m
    · rw [if_pos h2]; exact ⟨fun g => absurd g (by decide), fun g => absurd g.2.1 (by omega)⟩
    · rw [if_neg h2]
      by_cases h3 : SpAt (szD n f k s h) m e
      · rw [if_pos h3]; exact ⟨fun _ => ⟨h1, by omega, h3⟩, fun _ => rfl⟩
      · rw [if_neg h3]; exact ⟨fun g => absurd g (by decide), fun g => absurd g.2.2 h3⟩
  · rw [if_pos h1]; exact ⟨fun g => absurd g h1, fun g => absurd g.1 h1⟩
noncomputable abbrev kI0 : List (Nat × Con) := [(25, c_DCheck), (51, c_DSize), (31, c_DCheck), (65, c_DSize), (75, c_Clone)] --%K
theorem kI0_ok : ∀ p ∈ kI0, ConOK P p.1 p.2 := by
  intro p hp
  simp only [kI0, List.mem_cons, List.not_mem_nil, or_false] at hp
  rcases hp with rfl | rfl | rfl | rfl | rfl
  · exact DCheck_ok
  · exact DSize_ok
  · exact qCheck_ok
  · exact qSize_ok
  · exact Clone_ok
noncomputable abbrev kI1 : List (Nat × Con) := (27, c_parented) :: kI0 --%K
end Go.RX.Span

/- Sparse domains: Check: the loops' states. -/
set_option linter.unusedVariables false
set_option linter.unusedSimpArgs false
set_option maxRecDepth 100000
namespace Go.RX.Span
open Go Go.RX
attribute [local irreducible] sx conB

noncomputable def okAt (N : Int) (m : Nat) (e : Nat → R1) : Bool := @decide (SpAt N m e) (Classical.propDecidable _)
theorem okAt_t {N : Int} {m : Nat} {e : Nat → R1} : okAt N m e = true ↔ SpAt N m e := by unfold okAt; exact @decide_eq_true_iff _ (Classical.propDecidable _)
theorem okAt_f {N : Int} {m : Nat} {e : Nat → R1} : okAt N m e = false ↔ ¬ SpAt N m e := by unfold okAt; exact @decide_eq_false_iff_not _ (Classical.propDecidable _)
noncomputable abbrev slCk (l N : Int) (m : Nat) (e : Nat → R1) (i : Int) : List SV := [.any, .lit (.int .i64 l), .lit (.int .i64 N), .row [.int .i64] m e, .lit (.int .i64 (m : Int)), .lit (.int .i64 i)]
noncomputable def gCk : Nat → Few → T (Ex × Few)
  | n0, ([_, .ki .i64 l, .lit (.int .i64 N), .row [.int .i64] m e, .lit (.int .i64 m'), .ki .i64 0], [_]) =>
    .ask (n0 = 0 ∧ l = -1 ∧ m' = (m : Int) ∧ m ≤ 5000) (.br (lk okAt N m e) (.ret (.exit 0, ([.any, .any, .any, .any, .any, .any], [(0, none)]))) (.ret (.ret, ([.ki .i64 51, .any, .any, .any, .any, .any], [(0, none)]))))
  | _, _ => .stuck 1
noncomputable abbrev slCq (N i : Int) : List SV := [.ptr 0 0, .any, .lit (.int .i64 N), .lit (.int .i64 i)]
noncomputable abbrev memCq (n : Nat) (f : Nat → R3) (k s h : Int) (m : Nat) (e : Nat → R1) : Mem := [(0, some (.cells [.row [.int .i64, .int .i64, .int .i64] n f, .lit (.int .i64 k), .lit (.int .i64 s), .lit (.int .i64 h), .row [.int .i64] m e] 29))]
noncomputable def gCq : Nat → Few → T (Ex × Few)
  | n0, ([.ptr p q, _, .lit (.int .i64 N), .ki .i64 0], [(_, some (.cells [.row [.int .i64, .int .i64, .int .i64] n f, .lit (.int .i64 k), .lit (.int .i64 s), .lit (.int .i64 h), .row [.int .i64] m e] t))]) =>
    .ask (n0 = 0 ∧ p = 0 ∧ q = 0 ∧ t = 29 ∧ m ≤ 5000) (.br (lk okAt N m e) (.ret (.exit 0, ([.any, .any, .any, .any], [(0, none)]))) (.ret (.ret, ([.any, .ki .i64 51, .any, .any], [(0, none)]))))
  | _, _ => .stuck 1
noncomputable abbrev lCk : List (Nat × Loops) := [(24, [(8, .sum (few 38 [2,4,5,22,23,24] gCk))]), (33, [(10, .sum (few 61 [1,2,4,5] gCq))])] --%K
end Go.RX.Span

/- Sparse domains: Check: the walks. -/
set_option linter.unusedVariables false
set_option linter.unusedSimpArgs false
set_option maxRecDepth 100000
namespace Go.RX.Span
open Go Go.RX
attribute [local irreducible] sx conB

--%R ↑m = ↑m => ((m : Nat) : Int) = ((m : Nat) : Int)
set_option maxRecDepth 100000 in
theorem t_Ck (l N : Int) (m : Nat) (e : Nat → R1) (i : Int) : (sx E0 [] 0 (loopOf P 24 8) (mkS 38 [2,4,5,22,23,24] (slCk l N m e i), [(0, none)])).bind (proj 38 [2,4,5,22,23,24]) =
    T.br (U.lt i (Int.ofNat m)) (.ask ((0 : Int) ≤ i ∧ i < ↑m) (.br (U.le (e (U.toNat i)).1 l) (.ret (Ex.ret, [SV.ki .i64 51, .lit (.int .i64 l), .lit (.int .i64 N), .row [.int .i64] m
      e, .lit (.int .i64 (Int.ofNat m)), .lit (.int .i64 i)], [(nat_lit 0, none)])) (.br (U.ge (e (U.toNat i)).1 N) (.ret (Ex.ret, [SV.ki .i64 51, .lit (.int .i64 l), .lit (.int .i64 N),
      .row [.int .i64] m e, .lit (.int .i64 (Int.ofNat m)), .lit (.int .i64 i)], [(nat_lit 0, none)])) (.ret (Ex.normal, [SV.any, .lit (.int .i64 (e (U.toNat i)).1), .lit (.int .i64 N),
      .row [.int .i64] m e, .lit (.int .i64 (Int.ofNat m)), .lit (.int .i64 (U.add .i64 i (1 : Int)))], [(nat_lit 0, none)]))))) (.ret (Ex.exit (nat_lit 0), [SV.any, .lit (.int .i64 l),
      .lit (.int .i64 N), .row [.int .i64] m e, .lit (.int .i64 (Int.ofNat m)), .lit (.int .i64 i)], [(nat_lit 0, none)])) := by kernel_rfl
set_option maxRecDepth 100000 in
theorem t_Cq (N : Int) (n : Nat) (f : Nat → R3) (k s h : Int) (m : Nat) (e : Nat → R1) (i : Int) : (sx E0 [] 0 (loopOf P 33 10) (mkS 61 [1,2,4,5] (slCq N i), memCq n f k s h m e)).bind (proj 61 [1,2,4,5]) =
    T.br (U.lt i (Int.ofNat m)) (.ask ((0 : Int) ≤ i ∧ i < ↑m) (.br (U.lt (e (U.toNat i)).1 (0 : Int)) (.ret (Ex.ret, [SV.ptr (nat_lit 0) (nat_lit 0), SV.ki .i64 51, .lit (.int .i64 N),
      .lit (.int .i64 i)], [(nat_lit 0, some (Blk.cells [.row [.int .i64, .int .i64, .int .i64] n f, .lit (.int .i64 k), .lit (.int .i64 s), .lit (.int .i64 h), .row [.int .i64] m e]
      (nat_lit 29)))])) (.ask ((0 : Int) ≤ i ∧ i < ↑m) (.br (U.ge (e (U.toNat i)).1 N) (.ret (Ex.ret, [SV.ptr (nat_lit 0) (nat_lit 0), SV.ki .i64 51, .lit (.int .i64 N), .lit (.int .i64
      i)], [(nat_lit 0, some (Blk.cells [.row [.int .i64, .int .i64, .int .i64] n f, .lit (.int .i64 k), .lit (.int .i64 s), .lit (.int .i64 h), .row [.int .i64] m e] (nat_lit 29)))]))
      (.br (U.gt i (0 : Int)) (.ask ((0 : Int) ≤ i ∧ i < ↑m) (.ask ((0 : Int) ≤ U.sub .i64 i (1 : Int) ∧ U.sub .i64 i (1 : Int) < ↑m) (.br (U.le (e (U.toNat i)).1 (e (U.toNat (U.sub .i64
      i (1 : Int)))).1) (.ret (Ex.ret, [SV.ptr (nat_lit 0) (nat_lit 0), SV.ki .i64 51, .lit (.int .i64 N), .lit (.int .i64 i)], [(nat_lit 0, some (Blk.cells [.row [.int .i64, .int .i64,
      .int .i64] n f, .lit (.int .i64 k), .lit (.int .i64 s), .lit (.int .i64 h), .row [.int .i64] m e] (nat_lit 29)))])) (.ret (Ex.normal, [SV.ptr (nat_lit 0) (nat_lit 0), SV.any, .lit
      (.int .i64 N), .lit (.int .i64 (U.add .i64 i (1 : Int)))], [(nat_lit 0, some (Blk.cells [.row [.int .i64, .int .i64, .int .i64] n f, .lit (.int .i64 k), .lit (.int .i64 s), .lit
      (.int .i64 h), .row [.int .i64] m e] (nat_lit 29)))]))))) (.ret (Ex.normal, [SV.ptr (nat_lit 0) (nat_lit 0), SV.any, .lit (.int .i64 N), .lit (.int .i64 (U.add .i64 i (1 : Int)))],
      [(nat_lit 0, some (Blk.cells [.row [.int .i64, .int .i64, .int .i64] n f, .lit (.int .i64 k), .lit (.int .i64 s), .lit (.int .i64 h), .row [.int .i64] m e] (nat_lit 29)))])))))))
      (.ret (Ex.exit (nat_lit 0), [SV.ptr (nat_lit 0) (nat_lit 0), SV.any, .lit (.int .i64 N), .lit (.int .i64 i)], [(nat_lit 0, some (Blk.cells [.row [.int .i64, .int .i64, .int .i64] n
      f, .lit (.int .i64 k), .lit (.int .i64 s), .lit (.int .i64 h), .row [.int .i64] m e] (nat_lit 29)))])) := by kernel_rfl
set_option maxRecDepth 100000 in
theorem t_SpC (n : Nat) (f : Nat → R3) (k s h : Int) (m : Nat) (e : Nat → R1) : conB Go.Proofs.Tryz.prog (conOf kI1) (loopsOf lCk) 10 24 [.agg [.row [.int .i64, .int .i64, .int .i64] n f, .lit (.int .i64 k), .lit (.int .i64 s), .lit (.int .i64 h), .row [.int .i64] m e]] =
    T.ask (Row64 n f) (.br (U.ne (lk pdE n f k s h) (0 : Int)) (.ret (.lit (.int .i64 (lk pdE n f k s h)))) (.br (U.gt (Int.ofNat m) (5000 : Int)) (.ret (.lit (.int .i64 5))) (.ask
      (Row64 n f) (.ask (nat_lit 0 = (0 : Nat) ∧ (-1 : Int) = (-1 : Int) ∧ ((m : Nat) : Int) = ((m : Nat) : Int) ∧ m ≤ (5000 : Nat)) (.br (lk okAt (lk szD n f k s h) m e) (.ret (.lit
      (.int .i64 0))) (.ret (.lit (.int .i64 51)))))))) := by kernel_rfl
set_option maxRecDepth 100000 in
theorem t_SpQ (n : Nat) (f : Nat → R3) (k s h : Int) (m : Nat) (e : Nat → R1) : conB Go.Proofs.Tryz.prog (conOf kI1) (loopsOf lCk) 10 33 [.agg [.row [.int .i64, .int .i64, .int .i64] n f, .lit (.int .i64 k), .lit (.int .i64 s), .lit (.int .i64 h), .row [.int .i64] m e]] =
    T.ask (Row64 n f) (.br (U.ne (lk chD n f k s h) (0 : Int)) (.ret (.lit (.int .i64 (lk chD n f k s h)))) (.ask (Row64 n f) (.br (U.gt (lk szD n f k s h) (1000000 : Int)) (.ret (.lit
      (.int .i64 7))) (.br (U.gt (Int.ofNat m) (5000 : Int)) (.ret (.lit (.int .i64 5))) (.ask (nat_lit 0 = (0 : Nat) ∧ (0 : Nat) = (0 : Nat) ∧ (0 : Nat) = (0 : Nat) ∧ (29 : Nat) = (29 :
      TypeId) ∧ m ≤ (5000 : Nat)) (.br (lk okAt (lk szD n f k s h) m e) (.ret (.lit (.int .i64 0))) (.ret (.lit (.int .i64 51))))))))) := by kernel_rfl
set_option maxRecDepth 100000 in
theorem t_Par (n : Nat) (f : Nat → R3) (k s h : Int) : conB Go.Proofs.Tryz.prog (conOf kI0) noLoops 10 27 [.agg [.row [.int .i64, .int .i64, .int .i64] n f, .lit (.int .i64 k), .lit (.int .i64 s), .lit (.int .i64 h)]] =
    T.ask (Row64 n f) (.br (U.ne (lk chD n f k s h) (0 : Int)) (.ret (.lit (.int .i64 (lk chD n f k s h)))) (.ask (Row64 n f) (.br (U.gt (lk szD n f k s h) (1000000 : Int)) (.ret (.lit
      (.int .i64 7))) (.ret (.lit (.int .i64 0)))))) := by kernel_rfl
set_option maxRecDepth 100000 in
theorem t_Cpd (n : Nat) (f : Nat → R3) (k s h : Int) : conB Go.Proofs.Tryz.prog (conOf kI0) noLoops 10 46 [.agg [.row [.int .i64, .int .i64, .int .i64] n f, .lit (.int .i64 k), .lit (.int .i64 s), .lit (.int .i64 h)]] =
    T.ask ((0 : Nat) < n ∧ n ≤ (10000 : Nat)) (.ret (.agg [.row [.int .i64, .int .i64, .int .i64] n f, .lit (.int .i64 k), .lit (.int .i64 s), .lit (.int .i64 h)])) := by kernel_rfl
end Go.RX.Span

/- Sparse domains: Check, parents. -/
set_option linter.unusedVariables false
set_option linter.unusedSimpArgs false
set_option maxRecDepth 100000
namespace Go.RX.Span
open Go Go.RX
attribute [local irreducible] sx conB

theorem spAt_s {N : Int} {k : Nat} {e : Nat → R1} : SpAt N (k + 1) e ↔ SpAt N k e ∧ 0 ≤ nv e k ∧ nv e k < N ∧ (0 < k → nv e (k - 1) < nv e k) := by
  constructor
  · intro h
    exact ⟨fun i hi => h i (by omega), h k (by omega)⟩
  · rintro ⟨h1, h2⟩ i hi
    by_cases g : i = k
    · subst g; exact h2
    · exact h1 i (by omega)
theorem spAt_le {N : Int} {k m : Nat} {e : Nat → R1} (h : SpAt N m e) (hk : k ≤ m) : SpAt N k e := fun i hi => h i (by omega)
/-- The number ahead of the k-th. -/
def lastE (e : Nat → R1) (k : Nat) : Int := if k = 0 then -1 else nv e (k - 1)
theorem spAt_step {N : Int} {k : Nat} {e : Nat → R1} (h : SpAt N k e) (g1 : lastE e k < nv e k) (g2 : nv e k < N) : SpAt N (k + 1) e := by
  refine spAt_s.2 ⟨h, ?_, g2, fun hk => ?_⟩
  · unfold lastE at g1
    by_cases hk : k = 0
    · rw [if_pos hk] at g1; omega
    · rw [if_neg hk] at g1
      have := (h (k - 1) (by omega)).1
      omega
  · unfold lastE at g1
    rw [if_neg (by omega)] at g1
    exact g1
theorem spAt_last {N : Int} {k : Nat} {e : Nat → R1} (h : SpAt N (k + 1) e) : lastE e k < nv e k ∧ nv e k < N := by
  obtain ⟨_, h1, h2, h3⟩ := spAt_s.1 h
  refine ⟨?_, h2⟩
  unfold lastE
  by_cases hk : k = 0
  · rw [if_pos hk]; omega
  · rw [if_neg hk]; exact h3 (by omega)
structure XCk where
  (N : Int) (m : Nat) (e : Nat → R1) (k : Nat)
noncomputable abbrev VCk (q : XCk) : Few := (slCk (lastE q.e q.k) q.N q.m q.e q.k, [(0, none)])
noncomputable def O1Ck : Ex × Few := (.exit 0, ([.any, .any, .any, .any, .any, .any], [(0, none)]))
noncomputable def O2Ck : Ex × Few := (.ret, ([.ki .i64 51, .any, .any, .any, .any, .any], [(0, none)]))
def PhiCk (n0 : Nat) (q : XCk) : Prop := n0 = 0 ∧ q.m ≤ 5000 ∧ q.k ≤ q.m ∧ SpAt q.N q.k q.e
def ZCk (q : XCk) (o : Ex × Few) : Prop := (SpAt q.N q.m q.e → o = O1Ck) ∧ (¬ SpAt q.N q.m q.e → o = O2Ck)
theorem add1p {j : Nat} (h : j ≤ 1000000) : U.add .i64 (j : Int) 1 = ((j + 1 : Nat) : Int) := by rw [U.add64 (by unfold I64; omega)]; omega
theorem w1C {keep : List Nat} {N : Nat} {vs vs' : List SV} {m : Mem} (h : RlL [none] vs vs') : Wk N keep 0 (vs, m) (vs', [(0, none)]) := wk_of [none] rfl (Nat.zero_le _) (fun b hb => by omega) h trivial
theorem roundCk (n0 : Nat) (q : XCk) (hq : PhiCk n0 q) : ((sx E0 [] n0 (loopOf P 24 8) (mkS 38 [2,4,5,22,23,24] (VCk q).1, (VCk q).2)).bind (proj 38 [2,4,5,22,23,24])).All fun r => match r.1 with
      | .normal => ∃ q', PhiCk n0 q' ∧ q'.m - q'.k < q.m - q.k ∧ Wk 38 [2,4,5,22,23,24] n0 r.2 (VCk q') ∧ ∀ o, ZCk q' o → ZCk q o
      | e => ∃ s, ZCk q (e, s) ∧ Wk 38 [2,4,5,22,23,24] n0 r.2 s := by
  obtain ⟨N, m, e, k⟩ := q
  obtain ⟨h0, hm, hk, hs⟩ := hq
  have hm : m ≤ 5000 := hm
  have hk : k ≤ m := hk
  have hs : SpAt N k e := hs
  have h0 : n0 = 0 := h0
  subst h0
  refine T.all_of_eq (t_Ck (lastE e k) N m e (k : Int)) ?_
  by_cases hlt : k < m
  · rw [add1p (j := k) (by omega), tnH]
    have bad : ¬ SpAt N (k + 1) e → ¬ SpAt N m e := fun h g => h (spAt_le g hlt)
    refine ⟨fun _ => ⟨⟨by omega, by omega⟩, fun g => ?_, fun g => ⟨fun g2 => ?_, fun g2 => ?_⟩⟩, fun g => absurd (U.lt_f.mp g) (by simp only [Int.ofNat_eq_natCast]; omega)⟩
    · have g : nv e k ≤ lastE e k := U.le_t.mp g
      have b := bad fun h => by have := (spAt_last h).1; omega
      exact ⟨O2Ck.2, ⟨fun h => absurd h b, fun _ => rfl⟩, w1C ⟨⟨rfl, rfl⟩, rl_any _, rl_any _, rl_any _, rl_any _, rl_any _, trivial⟩⟩
    · have g2 : nv e k ≥ N := U.ge_t.mp g2
      have b := bad fun h => by have := (spAt_last h).2; omega
      exact ⟨O2Ck.2, ⟨fun h => absurd h b, fun _ => rfl⟩, w1C ⟨⟨rfl, rfl⟩, rl_any _, rl_any _, rl_any _, rl_any _, rl_any _, trivial⟩⟩
    · have g : lastE e k < nv e k := U.le_f.mp g
      have g2 : nv e k < N := U.ge_f.mp g2
      refine ⟨⟨N, m, e, k + 1⟩, ⟨rfl, hm, hlt, spAt_step hs g g2⟩, (show m - (k + 1) < m - k by omega), w1C ⟨rl_any _, ?_, rfl, ⟨rfl, row1H fun _ _ => rfl⟩, rfl, rfl, trivial⟩, fun o ho => ho⟩
      show Value.int .i64 (nv e k) = Value.int .i64 (lastE e (k + 1))
      unfold lastE; rw [if_neg (by omega), Nat.add_sub_cancel]
  · obtain rfl : k = m := by omega
    exact ⟨fun g => absurd (U.lt_t.mp g) (by simp only [Int.ofNat_eq_natCast]; omega), fun _ => ⟨O1Ck.2, ⟨fun _ => rfl, fun h => absurd hs h⟩, w1C ⟨rl_any _, rl_any _, rl_any _, rl_any _, rl_any _, rl_any _, trivial⟩⟩⟩
theorem loopCk : LoopOK P (loopOf P 24 8) (few 38 [2,4,5,22,23,24] gCk) :=
  loop_few (E := E0) mixed E0_ok loopsOK_none 38 [2,4,5,22,23,24] (X := XCk) gCk (fun _ x => VCk x) PhiCk (fun q => q.m - q.k) (fun _ x o => ZCk x o)
    (fun n0 st r h => by
      unfold gCk at h
      split at h
      · rename_i n0 s1 l N m e m' b
        obtain ⟨h0, rfl, rfl, hm⟩ := (T.is_ask h).1
        have hb := (T.is_ask h).2
        subst h0
        have en : Wk 38 [2,4,5,22,23,24] 0 ([s1, .ki .i64 (-1), .lit (.int .i64 N), .row [.int .i64] m e, .lit (.int .i64 (m : Int)), .ki .i64 0], [b]) (VCk ⟨N, m, e, 0⟩) := w1C ⟨rl_any _, rfl, rfl, ⟨rfl, row1H fun _ _ => rfl⟩, rfl, rfl, trivial⟩
        have ph : PhiCk 0 ⟨N, m, e, 0⟩ := ⟨rfl, hm, Nat.zero_le _, fun i hi => absurd hi (Nat.not_lt_zero i)⟩
        rcases hb with ⟨he, hb⟩ | ⟨he, hb⟩
        · rw [lk_eq] at he
          obtain rfl := T.is_ret hb
          exact ⟨_, ph, en, fun o ho => ho.1 (okAt_t.1 he)⟩
        · rw [lk_eq] at he
          obtain rfl := T.is_ret hb
          exact ⟨_, ph, en, fun o ho => ho.2 (okAt_f.1 he)⟩
      · exact h.elim)
    roundCk
structure XCq where
  (N : Int) (n : Nat) (f : Nat → R3) (kk s h : Int) (m : Nat) (e : Nat → R1) (k : Nat)
noncomputable abbrev VCq (q : XCq) : Few := (slCq q.N q.k, memCq q.n q.f q.kk q.s q.h q.m q.e)
noncomputable def O1Cq : Ex × Few := (.exit 0, ([.any, .any, .any, .any], [(0, none)]))
noncomputable def O2Cq : Ex × Few := (.ret, ([.any, .ki .i64 51, .any, .any], [(0, none)]))
def PhiCq (n0 : Nat) (q : XCq) : Prop := n0 = 0 ∧ q.m ≤ 5000 ∧ q.k ≤ q.m ∧ SpAt q.N q.k q.e
def ZCq (q : XCq) (o : Ex × Few) : Prop := (SpAt q.N q.m q.e → o = O1Cq) ∧ (¬ SpAt q.N q.m q.e → o = O2Cq)
theorem cells_rl {ρ : Ren} {n : Nat} {f : Nat → R3} {k s h : Int} {m : Nat} {e : Nat → R1} : RlL ρ [.row [.int .i64, .int .i64, .int .i64] n f, .lit (.int .i64 k), .lit (.int .i64 s), .lit (.int .i64 h), .row [.int .i64] m e] [.row [.int .i64, .int .i64, .int .i64] n f, .lit (.int .i64 k), .lit (.int .i64 s), .lit (.int .i64 h), .row [.int .i64] m e] :=
  ⟨⟨rfl, sameRow_refl _ _⟩, rfl, rfl, rfl, ⟨rfl, sameRow_refl _ _⟩, trivial⟩
theorem wCq {vs vs' : List SV} {n : Nat} {f : Nat → R3} {k s h : Int} {m : Nat} {e : Nat → R1} (g : RlL [some 0] vs vs') : Wk 61 [1,2,4,5] 0 (vs, memCq n f k s h m e) (vs', memCq n f k s h m e) := wk_of [some 0] rfl (Nat.zero_le _) (fun b hb => by omega) g ⟨⟨rfl, cells_rl⟩, trivial⟩
theorem roundCq (n0 : Nat) (q : XCq) (hq : PhiCq n0 q) : ((sx E0 [] n0 (loopOf P 33 10) (mkS 61 [1,2,4,5] (VCq q).1, (VCq q).2)).bind (proj 61 [1,2,4,5])).All fun r => match r.1 with
      | .normal => ∃ q', PhiCq n0 q' ∧ q'.m - q'.k < q.m - q.k ∧ Wk 61 [1,2,4,5] n0 r.2 (VCq q') ∧ ∀ o, ZCq q' o → ZCq q o
      | e => ∃ s, ZCq q (e, s) ∧ Wk 61 [1,2,4,5] n0 r.2 s := by
  obtain ⟨N, n, f, kk, s, h, m, e, k⟩ := q
  obtain ⟨h0, hm, hk, hs⟩ := hq
  have hm : m ≤ 5000 := hm
  have hk : k ≤ m := hk
  have hs : SpAt N k e := hs
  have h0 : n0 = 0 := h0
  subst h0
  refine T.all_of_eq (t_Cq N n f kk s h m e (k : Int)) ?_
  by_cases hlt : k < m
  · have es : 0 < k → U.sub .i64 (k : Int) 1 = ((k - 1 : Nat) : Int) := fun hk0 => by rw [U.sub64 (by unfold I64; omega)]; omega
    rw [add1p (j := k) (by omega), tnH]
    have no : ∀ {vs : List SV} {m' : Mem}, ¬ SpAt N (k + 1) e → RlL [none] vs O2Cq.2.1 → ∃ s', ZCq ⟨N, n, f, kk, s, h, m, e, k⟩ (.ret, s') ∧ Wk 61 [1,2,4,5] 0 (vs, m') s' := fun h g => ⟨O2Cq.2, ⟨fun g => absurd (spAt_le g hlt) h, fun _ => rfl⟩, w1C g⟩
    refine ⟨fun _ => ⟨⟨by omega, by omega⟩, fun g => no (fun h => ?_) ⟨rl_any _, ⟨rfl, rfl⟩, rl_any _, rl_any _, trivial⟩, fun g => ⟨⟨by omega, by omega⟩, fun g2 => no (fun h => ?_) ⟨rl_any _, ⟨rfl, rfl⟩, rl_any _, rl_any _, trivial⟩, fun g2 => ⟨fun g3 => ?_, fun g3 => ?_⟩⟩⟩, fun g => absurd (U.lt_f.mp g) (by simp only [Int.ofNat_eq_natCast]; omega)⟩
    · have g : nv e k < 0 := U.lt_t.mp g
      have := (spAt_s.1 h).2.1
      omega
    · have g2 : nv e k ≥ N := U.ge_t.mp g2
      have := (spAt_last h).2
      omega
    · have g : 0 ≤ nv e k := U.lt_f.mp g
      have g2 : nv e k < N := U.ge_f.mp g2
      have g3 : (k : Int) > 0 := U.gt_t.mp g3
      rw [es (by omega), tnH]
      refine ⟨⟨by omega, by omega⟩, ⟨by omega, by omega⟩, fun g4 => no (fun h => ?_) ⟨rl_any _, ⟨rfl, rfl⟩, rl_any _, rl_any _, trivial⟩, fun g4 => ?_⟩
      · have g4 : nv e k ≤ nv e (k - 1) := U.le_t.mp g4
        have := (spAt_s.1 h).2.2.2 (by omega)
        omega
      · have g4 : nv e (k - 1) < nv e k := U.le_f.mp g4
        exact ⟨⟨N, n, f, kk, s, h, m, e, k + 1⟩, ⟨rfl, hm, hlt, spAt_s.2 ⟨hs, by omega, by omega, fun _ => by omega⟩⟩, (show m - (k + 1) < m - k by omega), wCq ⟨⟨rfl, rfl⟩, rl_any _, rfl, rfl, trivial⟩, fun o ho => ho⟩
    · have g : 0 ≤ nv e k := U.lt_f.mp g
      have g2 : nv e k < N := U.ge_f.mp g2
      have g3 : (k : Int) ≤ 0 := U.gt_f.mp g3
      exact ⟨⟨N, n, f, kk, s, h, m, e, k + 1⟩, ⟨rfl, hm, hlt, spAt_s.2 ⟨hs, by omega, by omega, fun _ => by omega⟩⟩, (show m - (k + 1) < m - k by omega), wCq ⟨⟨rfl, rfl⟩, rl_any _, rfl, rfl, trivial⟩, fun o ho => ho⟩
  · obtain rfl : k = m := by omega
    exact ⟨fun g => absurd (U.lt_t.mp g) (by simp only [Int.ofNat_eq_natCast]; omega), fun _ => ⟨O1Cq.2, ⟨fun _ => rfl, fun h => absurd hs h⟩, w1C ⟨rl_any _, rl_any _, rl_any _, rl_any _, trivial⟩⟩⟩
theorem loopCq : LoopOK P (loopOf P 33 10) (few 61 [1,2,4,5] gCq) :=
  loop_few (E := E0) mixed E0_ok loopsOK_none 61 [1,2,4,5] (X := XCq) gCq (fun _ x => VCq x) PhiCq (fun q => q.m - q.k) (fun _ x o => ZCq x o)
    (fun n0 st r h => by
      unfold gCq at h
      split at h
      · rename_i n0 p q s1 N e0 n f kk s hh m e t
        obtain ⟨h0, rfl, rfl, rfl, hm⟩ := (T.is_ask h).1
        have hb := (T.is_ask h).2
        subst h0
        have en : Wk 61 [1,2,4,5] 0 ([.ptr 0 0, s1, .lit (.int .i64 N), .ki .i64 0], [(e0, some (.cells [.row [.int .i64, .int .i64, .int .i64] n f, .lit (.int .i64 kk), .lit (.int .i64 s), .lit (.int .i64 hh), .row [.int .i64] m e] 29))]) (VCq ⟨N, n, f, kk, s, hh, m, e, 0⟩) :=
          wk_of [some 0] rfl (Nat.zero_le _) (fun b hb => by omega) ⟨⟨rfl, rfl⟩, rl_any _, rfl, rfl, trivial⟩ ⟨⟨rfl, cells_rl⟩, trivial⟩
        have ph : PhiCq 0 ⟨N, n, f, kk, s, hh, m, e, 0⟩ := ⟨rfl, hm, Nat.zero_le _, fun i hi => absurd hi (Nat.not_lt_zero i)⟩
        rcases hb with ⟨he, hb⟩ | ⟨he, hb⟩
        · rw [lk_eq] at he
          obtain rfl := T.is_ret hb
          exact ⟨_, ph, en, fun o ho => ho.1 (okAt_t.1 he)⟩
        · rw [lk_eq] at he
          obtain rfl := T.is_ret hb
          exact ⟨_, ph, en, fun o ho => ho.2 (okAt_f.1 he)⟩
      · exact h.elim)
    roundCq
theorem lCk_ok : ∀ p ∈ lCk, LoopsOK P p.2 (bodyOf P p.1) := by
  intro p hp
  simp only [lCk, List.mem_cons, List.not_mem_nil, or_false] at hp
  rcases hp with rfl | rfl
  · refine loopsOK_of (by kernel_rfl) fun k g hk => ?_
    simp only [List.mem_singleton, Prod.mk.injEq, LoopC.sum.injEq] at hk
    obtain ⟨rfl, rfl⟩ := hk
    exact loopCk
  · refine loopsOK_of (by kernel_rfl) fun k g hk => ?_
    simp only [List.mem_singleton, Prod.mk.injEq, LoopC.sum.injEq] at hk
    obtain ⟨rfl, rfl⟩ := hk
    exact loopCq
theorem i64_eq {x y : Int} (h : x = y) : SV.lit (.int .i64 x) = SV.lit (.int .i64 y) := by rw [h]
theorem parented_ok : ConOK P 27 c_parented := con_of (allOK mixed kI0_ok) 10 27 fun args r h => by
  unfold c_parented at h
  split at h
  · rename_i n f k s h'
    have hp := (T.is_ask h).1
    obtain rfl := T.is_ret (T.is_ask h).2
    refine T.all_of_eq (t_Par n f k s h') ?_
    simp only [lk_eq]
    refine ⟨hp, fun g => ?_, fun g => ⟨hp, fun g2 => ?_, fun g2 => ?_⟩⟩
    · exact i64_eq (by unfold pdE; rw [if_pos (U.ne_t.mp g)])
    · exact i64_eq (by unfold pdE; rw [if_neg (fun x => x (U.ne_f.mp g)), if_pos (U.gt_t.mp g2)])
    · exact i64_eq (by unfold pdE; rw [if_neg (fun x => x (U.ne_f.mp g)), if_neg (by have := U.gt_f.mp g2; omega)])
  · exact h.elim
theorem kI1_ok : ∀ p ∈ kI1, ConOK P p.1 p.2 := by
  intro p hp
  rcases List.mem_cons.1 hp with rfl | hp
  · exact parented_ok
  · exact kI0_ok p hp
theorem SpCheck_ok : ConOK P 24 c_SpCheck := con_of (allOKL mixed kI1_ok lCk_ok) 10 24 fun args r h => by
  unfold c_SpCheck at h
  split at h
  · rename_i n f k s h' m e
    have hp := (T.is_ask h).1
    obtain rfl := T.is_ret (T.is_ask h).2
    refine T.all_of_eq (t_SpC n f k s h' m e) ?_
    simp only [lk_eq, Int.ofNat_eq_natCast]
    refine ⟨hp, fun g => ?_, fun g => ⟨fun g2 => ?_, fun g2 => ⟨hp, ⟨trivial, trivial, trivial, ?_⟩, fun g3 => ?_, fun g3 => ?_⟩⟩⟩
    · exact i64_eq (by unfold spE; rw [if_pos (U.ne_t.mp g)])
    · have g2 := U.gt_t.mp g2
      exact i64_eq (by unfold spE; rw [if_neg (fun x => x (U.ne_f.mp g)), if_pos (by omega)])
    · have g2 := U.gt_f.mp g2; omega
    · have g2 := U.gt_f.mp g2
      exact i64_eq (by unfold spE; rw [if_neg (fun x => x (U.ne_f.mp g)), if_neg (by omega), if_pos (okAt_t.1 g3)])
    · have g2 := U.gt_f.mp g2
      exact i64_eq (by unfold spE; rw [if_neg (fun x => x (U.ne_f.mp g)), if_neg (by omega), if_neg (okAt_f.1 g3)])
  · exact h.elim
theorem SpQCheck_ok : ConOK P 33 c_SpCheck := con_of (allOKL mixed kI1_ok lCk_ok) 10 33 fun args r h => by
  unfold c_SpCheck at h
  split at h
  · rename_i n f k s h' m e
    have hp := (T.is_ask h).1
    obtain rfl := T.is_ret (T.is_ask h).2
    refine T.all_of_eq (t_SpQ n f k s h' m e) ?_
    simp only [lk_eq, Int.ofNat_eq_natCast]
    have p0 : ∀ {x : Int}, x = pdE n f k s h' → x ≠ 0 → x = spE n f k s h' m e := fun hx h0 => by unfold spE; rw [if_pos (by rw [← hx]; exact h0)]; exact hx
    refine ⟨hp, fun g => ?_, fun g => ⟨hp, fun g1 => ?_, fun g1 => ⟨fun g2 => ?_, fun g2 => ⟨⟨trivial, trivial, trivial, trivial, ?_⟩, fun g3 => ?_, fun g3 => ?_⟩⟩⟩⟩
    · exact i64_eq (p0 (by unfold pdE; rw [if_pos (U.ne_t.mp g)]) (U.ne_t.mp g))
    · exact i64_eq (p0 (by unfold pdE; rw [if_neg (fun x => x (U.ne_f.mp g)), if_pos (U.gt_t.mp g1)]) (by decide))
    all_goals have z : pdE n f k s h' = 0 := pdE_zero.2 ⟨U.ne_f.mp g, by have := U.gt_f.mp g1; omega⟩
    · have g2 := U.gt_t.mp g2
      exact i64_eq (by unfold spE; rw [if_neg (fun x => x z), if_pos (by omega)])
    · have g2 := U.gt_f.mp g2; omega
    · have g2 := U.gt_f.mp g2
      exact i64_eq (by unfold spE; rw [if_neg (fun x => x z), if_neg (by omega), if_pos (okAt_t.1 g3)])
    · have g2 := U.gt_f.mp g2
      exact i64_eq (by unfold spE; rw [if_neg (fun x => x z), if_neg (by omega), if_neg (okAt_f.1 g3)])
  · exact h.elim
theorem copied_ok : ConOK P 46 c_copied := con_cl (allOK mixed kI0_ok) 10 46 fun args r h => by
  unfold c_copied at h
  split at h
  · rename_i n f k s h'
    have hp := (T.is_ask h).1
    obtain rfl := T.is_ret (T.is_ask h).2
    refine T.all_of_eq (t_Cpd n f k s h') ?_
    exact ⟨hp, ⟨⟨rfl, sameRow_refl _ _⟩, .inl rfl, .inl rfl, .inl rfl, rfl⟩⟩
  · exact h.elim
end Go.RX.Span

/- Sparse domains: Of: what it calls. -/
set_option linter.unusedVariables false
set_option linter.unusedSimpArgs false
set_option maxRecDepth 100000
namespace Go.RX.Span
open Go Go.RX
attribute [local irreducible] sx conB

noncomputable abbrev kOf : List (Nat × Con) := [(27, c_parented), (46, c_copied), (29, c_DPosition)] --%K
theorem kOf_ok : ∀ p ∈ kOf, ConOK P p.1 p.2 := by
  intro p hp
  simp only [kOf, List.mem_cons, List.not_mem_nil, or_false] at hp
  rcases hp with rfl | rfl | rfl
  · exact parented_ok
  · exact copied_ok
  · exact DPosition_ok
noncomputable abbrev EOf : Env := ⟨P, conOf kOf, scall P (conOf kOf) noLoops 10⟩
theorem EOf_ok : EnvOK EOf := envOK (allOK mixed kOf_ok) 10
end Go.RX.Span

/- Sparse domains: Of: plain; the loop's states. -/
set_option linter.unusedVariables false
set_option linter.unusedSimpArgs false
set_option maxRecDepth 100000
namespace Go.RX.Span
open Go Go.RX
attribute [local irreducible] sx conB

abbrev RL := Els [.sl [.int .i64]]
theorem rowRL {n : Nat} {f g : Nat → RL} (h : ∀ i, i < n → f i = g i) : sameRow n f g := ⟨eqShs_refl _, fun i hi => h i hi⟩
theorem ren1z (ρ : Ren) : ∀ b, b < 0 → ρ.of b = some b := fun b hb => absurd hb (Nat.not_lt_zero b)
theorem isz_s (j : Nat) : U.isz (j + 1) = false := by rw [U.isz_eq]; simp
/-! Lists of numbers as rows. -/
def lF (l : List Int) (i : Nat) : R1 := (l.getD i 0, ())
def nl (n : Nat) (e : Nat → R1) : List Int := (List.range n).map (nv e)
theorem nl_len (n : Nat) (e : Nat → R1) : (nl n e).length = n := by unfold nl; simp
theorem nl_get {n : Nat} {e : Nat → R1} {i : Nat} (h : i < n) : (nl n e).getD i 0 = nv e i := by unfold nl; simp [List.getD_eq_getElem?_getD, h]
theorem nl_lF (l : List Int) : nl l.length (lF l) = l := by
  apply List.ext_getElem
  · simp [nl]
  · intro i h1 h2
    simp [nl, nv, lF, List.getD_eq_getElem?_getD, h2]
theorem nl_s (n : Nat) (e : Nat → R1) : nl (n + 1) e = nl n e ++ [nv e n] := by unfold nl; rw [List.range_succ, List.map_append]; rfl
/-- The parts of a list, each once, where it comes first. -/
def ddS (a : List Int) (p : Int) : List Int := if p ∈ a then a else a ++ [p]
def ddL (ps : List Int) : List Int := ps.foldl ddS []
theorem ddL_s (ps : List Int) (p : Int) : ddL (ps ++ [p]) = ddS (ddL ps) p := by unfold ddL; rw [List.foldl_append]; rfl
section
variable (n : Nat) (f : Nat → R3) (k s h : Int) (M : Nat) (F : Nat → RL)
abbrev ofH (i : Nat) : Bool := hasD n f k s h (F i).1.1 (F i).1.2
def ofP (i : Nat) : Int := posD n f k s h (F i).1.1 (F i).1.2
/-- All are in the parent. -/
noncomputable def ofOk : Bool := @decide (∀ i, i < M → hasD n f k s h (F i).1.1 (F i).1.2 = true) (Classical.propDecidable _)
def psL : List Int := (List.range M).map (ofP n f k s h F)
def daN : Nat := (ddL (psL n f k s h M F)).length
def daF : Nat → R1 := lF (ddL (psL n f k s h M F))
def PreOf : Prop := Row64 n f ∧ chD n f k s h = 0 ∧ M ≤ 20000
/-- The keys of the map. -/
def keyX (i : Nat) : Int × Int := (nv (F i).1.2 0, if (F i).1.1 = 1 then 0 else nv (F i).1.2 1)
end
theorem ofOk_t {n : Nat} {f : Nat → R3} {k s h : Int} {M : Nat} {F : Nat → RL} : ofOk n f k s h M F = true ↔ ∀ i, i < M → hasD n f k s h (F i).1.1 (F i).1.2 = true := by unfold ofOk; exact @decide_eq_true_iff _ (Classical.propDecidable _)
theorem ofOk_f {n : Nat} {f : Nat → R3} {k s h : Int} {M : Nat} {F : Nat → RL} : ofOk n f k s h M F = false ↔ ¬ ∀ i, i < M → hasD n f k s h (F i).1.1 (F i).1.2 = true := by unfold ofOk; exact @decide_eq_false_iff_not _ (Classical.propDecidable _)
theorem psL_s (n : Nat) (f : Nat → R3) (k s h : Int) (M : Nat) (F : Nat → RL) : psL n f k s h (M + 1) F = psL n f k s h M F ++ [ofP n f k s h F M] := by unfold psL; rw [List.range_succ, List.map_append]; rfl
noncomputable abbrev zeV : List SV := [.lit (.slice none 0 0), .lit (.int .i64 0), .lit (.int .i64 0), .lit (.int .i64 0), .lit (.slice none 0 0)]
noncomputable abbrev slOf (M : Nat) (F : Nat → RL) (i : Int) : List SV := [.ptr 0 0, .ptr 1 0, .any, .mp 2, .ptr 3 0, .row [.sl [.int .i64]] M F, .lit (.int .i64 (M : Int)), .lit (.int .i64 i)]
noncomputable abbrev memOf (n : Nat) (f : Nat → R3) (k s h : Int) (l : List ((Int × Int) × El .bool)) (u : Bool) (N : Nat) (G : Nat → R1) : Mem :=
  [(0, some (.cells [.row [.int .i64, .int .i64, .int .i64] n f, .lit (.int .i64 k), .lit (.int .i64 s), .lit (.int .i64 h)] 26)),
   (0, some (.cells zeV 33)), (0, some (.mp true .bool l)),
   (0, some (.cells [.row [.int .i64, .int .i64, .int .i64] n f, .lit (.int .i64 k), .lit (.int .i64 s), .lit (.int .i64 h), .own u 4 N] 33)),
   (0, some (.row u N [.int .i64] G 3))]
noncomputable def gOf : Nat → Few → T (Ex × Few)
  | n0, ([.ptr p0 q0, .ptr p1 q1, _, .mp p2, .ptr p3 q3, .row [.sl [.int .i64]] M F, .lit (.int .i64 M'), .ki .i64 z], [(_, some (.cells [.row [.int .i64, .int .i64, .int .i64] n f, .lit (.int .i64 k), .lit (.int .i64 s), .lit (.int .i64 h)] t0)), (_, some (.cells [.lit (.slice none 0 0), .lit (.int .i64 z1), .lit (.int .i64 z2), .lit (.int .i64 z3), .lit (.slice none 0 0)] t1)), (_, some (.mp true .bool [])), (_, some (.cells [.row [.int .i64, .int .i64, .int .i64] n' f', .lit (.int .i64 k'), .lit (.int .i64 s'), .lit (.int .i64 h'), .lit (.slice none 0 0)] t2))]) =>
    .ask (n0 = 0 ∧ lk PreOf n f k s h M ∧ p0 = 0 ∧ q0 = 0 ∧ p1 = 1 ∧ q1 = 0 ∧ p2 = 2 ∧ p3 = 3 ∧ q3 = 0 ∧ M' = (M : Int) ∧ z = 0 ∧ t0 = 26 ∧ z1 = 0 ∧ z2 = 0 ∧ z3 = 0 ∧ t1 = 33 ∧ t2 = 33 ∧ n' = n ∧ f' = f ∧ k' = k ∧ s' = s ∧ h' = h)
      (.br (lk ofOk n f k s h M F)
        (.ret (.exit 0, ([.any, .ptr 1 0, .any, .any, .ptr 3 0, .any, .any, .any], [(0, none), (0, some (.cells zeV 33)), (0, none),
          (0, some (.cells [.row [.int .i64, .int .i64, .int .i64] n f, .lit (.int .i64 k), .lit (.int .i64 s), .lit (.int .i64 h), .own (U.isz (lk daN n f k s h M F)) 4 (lk daN n f k s h M F)] 33)),
          (0, some (.row (U.isz (lk daN n f k s h M F)) (lk daN n f k s h M F) [.int .i64] (lk daF n f k s h M F) 3))])))
        (.ret (.ret, ([.any, .ptr 1 0, .ki .i64 22, .any, .any, .any, .any, .any], [(0, none), (0, some (.cells zeV 33)), (0, none), (0, none), (0, none)]))))
  | _, _ => .stuck 1
noncomputable abbrev lOf : List (Nat × Loops) := [(21, [(9, .sum (few 72 [2,4,5,7,8,28,29,30] gOf))]), (48, [(0, .call X_sort)])] --%K
end Go.RX.Span

/- Sparse domains: Of: the walks. -/
set_option linter.unusedVariables false
set_option linter.unusedSimpArgs false
set_option maxRecDepth 100000
namespace Go.RX.Span
open Go Go.RX
attribute [local irreducible] sx conB

--%R ↑M = ↑M => ((M : Nat) : Int) = ((M : Nat) : Int)
set_option maxRecDepth 100000 in
theorem t_Of (n : Nat) (f : Nat → R3) (k s h : Int) (M : Nat) (F : Nat → RL) (i : Int) (l : List ((Int × Int) × El .bool)) (u : Bool) (N : Nat) (G : Nat → R1) : (sx EOf [] 0 (loopOf P 21 9) (mkS 72 [2,4,5,7,8,28,29,30] (slOf M F i), memOf n f k s h l u N G)).bind (proj 72 [2,4,5,7,8,28,29,30]) =
    T.br (U.lt i (Int.ofNat M)) (.ask ((0 : Int) ≤ i ∧ i < ↑M) (.ask (Row64 n f) (.br (U.not (lk hasD n f k s h (F (U.toNat i)).fst.1 (F (U.toNat i)).fst.2)) (.ret (Ex.ret, [SV.ptr
      (nat_lit 0) (nat_lit 0), SV.ptr (nat_lit 1) (nat_lit 0), SV.ki .i64 22, SV.mp (nat_lit 2), SV.ptr (nat_lit 3) (nat_lit 0), .row [.sl [.int .i64]] M F, .lit (.int .i64 (Int.ofNat
      M)), .lit (.int .i64 i)], [(nat_lit 0, some (Blk.cells [.row [.int .i64, .int .i64, .int .i64] n f, .lit (.int .i64 k), .lit (.int .i64 s), .lit (.int .i64 h)] (nat_lit 26))),
      (nat_lit 1, some (Blk.cells [.lit (.slice none (nat_lit 0) (nat_lit 0)), .lit (.int .i64 0), .lit (.int .i64 0), .lit (.int .i64 0), .lit (.slice none (nat_lit 0) (nat_lit 0))]
      (nat_lit 33))), (nat_lit 0, some (Blk.mp true Sh.bool l)), (nat_lit 0, some (Blk.cells [.row [.int .i64, .int .i64, .int .i64] n f, .lit (.int .i64 k), .lit (.int .i64 s), .lit
      (.int .i64 h), SV.own u (nat_lit 4) N] (nat_lit 33))), (nat_lit 0, some (Blk.row u N [.int .i64] G (nat_lit 3)))])) (.ask ((0 : Nat) < (F (U.toNat i)).fst.1) (.ask (((0 : Nat) + (F
      (U.toNat i)).fst.1) * nat_lit 8 ≤ nat_lit 140737488351232) (.ask (((0 : Nat) + (F (U.toNat i)).fst.1 + (1 : Nat)) * nat_lit 8 ≤ nat_lit 140737488351232) (.ask ((0 : Int) ≤ (0 : Int)
      ∧ (0 : Int) ≤ (2 : Int) ∧ (2 : Int) ≤ ↑((0 : Nat) + (F (U.toNat i)).fst.1 + (1 : Nat))) (.ask (nat_lit 1 + (1 : Nat) ≤ U.toNat (2 : Int)) (.br (U.not (U.mget Sh.bool l (cutF none
      (U.cat ((0 : Nat) + (F (U.toNat i)).fst.fst) (U.cat (0 : Nat) (fun x => zeroEs [.int .i64]) (castEls rfl (F (U.toNat i)).fst.snd)) (ofList [((0 : Int), ())].reverse)) (0 : Int) (0 :
      Nat)).1 (cutF none (U.cat ((0 : Nat) + (F (U.toNat i)).fst.fst) (U.cat (0 : Nat) (fun x => zeroEs [.int .i64]) (castEls rfl (F (U.toNat i)).fst.snd)) (ofList [((0 : Int),
      ())].reverse)) (0 : Int) ((0 : Nat) + (1 : Nat))).1)) (.ask ((N + (1 : Nat)) * nat_lit 8 ≤ nat_lit 140737488351232) (.ret (Ex.normal, [SV.ptr (nat_lit 0) (nat_lit 0), SV.ptr
      (nat_lit 1) (nat_lit 0), SV.any, SV.mp (nat_lit 2), SV.ptr (nat_lit 3) (nat_lit 0), .row [.sl [.int .i64]] M F, .lit (.int .i64 (Int.ofNat M)), .lit (.int .i64 (U.add .i64 i (1 :
      Int)))], [(nat_lit 0, some (Blk.cells [.row [.int .i64, .int .i64, .int .i64] n f, .lit (.int .i64 k), .lit (.int .i64 s), .lit (.int .i64 h)] (nat_lit 26))), (nat_lit 0, some
      (Blk.cells [.lit (.slice none (nat_lit 0) (nat_lit 0)), .lit (.int .i64 0), .lit (.int .i64 0), .lit (.int .i64 0), .lit (.slice none (nat_lit 0) (nat_lit 0))] (nat_lit 33))),
      (nat_lit 1, some (Blk.mp true Sh.bool (U.mput Sh.bool l (cutF none (U.cat ((0 : Nat) + (F (U.toNat i)).fst.fst) (U.cat (0 : Nat) (fun x => zeroEs [.int .i64]) (castEls rfl (F
      (U.toNat i)).fst.snd)) (ofList [((0 : Int), ())].reverse)) (0 : Int) (0 : Nat)).1 (cutF none (U.cat ((0 : Nat) + (F (U.toNat i)).fst.fst) (U.cat (0 : Nat) (fun x => zeroEs [.int
      .i64]) (castEls rfl (F (U.toNat i)).fst.snd)) (ofList [((0 : Int), ())].reverse)) (0 : Int) ((0 : Nat) + (1 : Nat))).1 true))), (nat_lit 1, some (Blk.cells [.row [.int .i64, .int
      .i64, .int .i64] n f, .lit (.int .i64 k), .lit (.int .i64 s), .lit (.int .i64 h), SV.own false (nat_lit 11) (N.add (nat_lit 1))] (nat_lit 33))), (nat_lit 1, none), (nat_lit 0,
      none), (nat_lit 1, none), (nat_lit 0, some (Blk.cells [SV.ki .i64 0] (nat_lit 3))), (nat_lit 1, none), (nat_lit 1, some (Blk.cells [.lit (.int .i64 (cutF none (U.cat ((0 : Nat) + (F
      (U.toNat i)).fst.fst) (U.cat (0 : Nat) (fun x => zeroEs [.int .i64]) (castEls rfl (F (U.toNat i)).fst.snd)) (ofList [((0 : Int), ())].reverse)) (0 : Int) (0 : Nat)).1), .lit (.int
      .i64 (cutF none (U.cat ((0 : Nat) + (F (U.toNat i)).fst.fst) (U.cat (0 : Nat) (fun x => zeroEs [.int .i64]) (castEls rfl (F (U.toNat i)).fst.snd)) (ofList [((0 : Int),
      ())].reverse)) (0 : Int) ((0 : Nat) + (1 : Nat))).1)] (nat_lit 78))), (nat_lit 0, some (Blk.cells [.lit (.int .i64 (lk posD n f k s h (F (U.toNat i)).fst.1 (F (U.toNat i)).fst.2))]
      (nat_lit 3))), (nat_lit 0, some (Blk.row false (N.add (nat_lit 1)) [.int .i64] (U.cat N G fun x => (lk posD n f k s h (F (U.toNat i)).fst.1 (F (U.toNat i)).fst.2, PUnit.unit))
      (nat_lit 3)))]))) (.ret (Ex.normal, [SV.ptr (nat_lit 0) (nat_lit 0), SV.ptr (nat_lit 1) (nat_lit 0), SV.any, SV.mp (nat_lit 2), SV.ptr (nat_lit 3) (nat_lit 0), .row [.sl [.int
      .i64]] M F, .lit (.int .i64 (Int.ofNat M)), .lit (.int .i64 (U.add .i64 i (1 : Int)))], [(nat_lit 0, some (Blk.cells [.row [.int .i64, .int .i64, .int .i64] n f, .lit (.int .i64 k),
      .lit (.int .i64 s), .lit (.int .i64 h)] (nat_lit 26))), (nat_lit 0, some (Blk.cells [.lit (.slice none (nat_lit 0) (nat_lit 0)), .lit (.int .i64 0), .lit (.int .i64 0), .lit (.int
      .i64 0), .lit (.slice none (nat_lit 0) (nat_lit 0))] (nat_lit 33))), (nat_lit 0, some (Blk.mp true Sh.bool l)), (nat_lit 0, some (Blk.cells [.row [.int .i64, .int .i64, .int .i64] n
      f, .lit (.int .i64 k), .lit (.int .i64 s), .lit (.int .i64 h), SV.own u (nat_lit 4) N] (nat_lit 33))), (nat_lit 0, some (Blk.row u N [.int .i64] G (nat_lit 3))), (nat_lit 0, none),
      (nat_lit 1, none), (nat_lit 0, some (Blk.cells [SV.ki .i64 0] (nat_lit 3))), (nat_lit 1, none), (nat_lit 1, some (Blk.cells [.lit (.int .i64 (cutF none (U.cat ((0 : Nat) + (F
      (U.toNat i)).fst.fst) (U.cat (0 : Nat) (fun x => zeroEs [.int .i64]) (castEls rfl (F (U.toNat i)).fst.snd)) (ofList [((0 : Int), ())].reverse)) (0 : Int) (0 : Nat)).1), .lit (.int
      .i64 (cutF none (U.cat ((0 : Nat) + (F (U.toNat i)).fst.fst) (U.cat (0 : Nat) (fun x => zeroEs [.int .i64]) (castEls rfl (F (U.toNat i)).fst.snd)) (ofList [((0 : Int),
      ())].reverse)) (0 : Int) ((0 : Nat) + (1 : Nat))).1)] (nat_lit 78)))]))))))))))) (.ret (Ex.exit (nat_lit 0), [SV.ptr (nat_lit 0) (nat_lit 0), SV.ptr (nat_lit 1) (nat_lit 0), SV.any,
      SV.mp (nat_lit 2), SV.ptr (nat_lit 3) (nat_lit 0), .row [.sl [.int .i64]] M F, .lit (.int .i64 (Int.ofNat M)), .lit (.int .i64 i)], [(nat_lit 0, some (Blk.cells [.row [.int .i64,
      .int .i64, .int .i64] n f, .lit (.int .i64 k), .lit (.int .i64 s), .lit (.int .i64 h)] (nat_lit 26))), (nat_lit 0, some (Blk.cells [.lit (.slice none (nat_lit 0) (nat_lit 0)), .lit
      (.int .i64 0), .lit (.int .i64 0), .lit (.int .i64 0), .lit (.slice none (nat_lit 0) (nat_lit 0))] (nat_lit 33))), (nat_lit 0, some (Blk.mp true Sh.bool l)), (nat_lit 0, some
      (Blk.cells [.row [.int .i64, .int .i64, .int .i64] n f, .lit (.int .i64 k), .lit (.int .i64 s), .lit (.int .i64 h), SV.own u (nat_lit 4) N] (nat_lit 33))), (nat_lit 0, some (Blk.row
      u N [.int .i64] G (nat_lit 3)))])) := by kernel_rfl
set_option maxRecDepth 100000 in
theorem t_OfC (n : Nat) (f : Nat → R3) (k s h : Int) (M : Nat) (F : Nat → RL) : conB Go.Proofs.Tryz.prog (conOf kOf) (loopsOf lOf) 10 21 [.agg [.row [.int .i64, .int .i64, .int .i64] n f, .lit (.int .i64 k), .lit (.int .i64 s), .lit (.int .i64 h)], .row [.sl [.int .i64]] M F] =
    T.ask (Row64 n f) (.br (U.ne (lk pdE n f k s h) (0 : Int)) (.ret (.tup [.agg [.lit (.slice none (nat_lit 0) (nat_lit 0)), .lit (.int .i64 0), .lit (.int .i64 0), .lit (.int .i64 0),
      .lit (.slice none (nat_lit 0) (nat_lit 0))], .lit (.int .i64 (lk pdE n f k s h))])) (.br (U.gt (Int.ofNat M) (20000 : Int)) (.ret (.tup [.agg [.lit (.slice none (nat_lit 0) (nat_lit
      0)), .lit (.int .i64 0), .lit (.int .i64 0), .lit (.int .i64 0), .lit (.slice none (nat_lit 0) (nat_lit 0))], .lit (.int .i64 5)])) (.ask ((0 : Nat) < n ∧ n ≤ (10000 : Nat)) (.ask
      (nat_lit 0 = (0 : Nat) ∧ lk PreOf n f k s h M ∧ (0 : Nat) = (0 : Nat) ∧ (0 : Nat) = (0 : Nat) ∧ (1 : Nat) = (1 : Nat) ∧ (0 : Nat) = (0 : Nat) ∧ (2 : Nat) = (2 : Nat) ∧ (3 : Nat) =
      (3 : Nat) ∧ (0 : Nat) = (0 : Nat) ∧ ((M : Nat) : Int) = ((M : Nat) : Int) ∧ (0 : Int) = (0 : Int) ∧ (26 : Nat) = (26 : TypeId) ∧ (0 : Int) = (0 : Int) ∧ (0 : Int) = (0 : Int) ∧ (0 :
      Int) = (0 : Int) ∧ (33 : Nat) = (33 : TypeId) ∧ (33 : Nat) = (33 : TypeId) ∧ n = n ∧ f = f ∧ k = k ∧ s = s ∧ h = h) (.br (lk ofOk n f k s h M F) (.br (U.gt (Int.ofNat (lk daN n f k
      s h M F)) (5000 : Int)) (.ret (.tup [.agg [.lit (.slice none (nat_lit 0) (nat_lit 0)), .lit (.int .i64 0), .lit (.int .i64 0), .lit (.int .i64 0), .lit (.slice none (nat_lit 0)
      (nat_lit 0))], .lit (.int .i64 5)])) (.ask (lk daN n f k s h M F = lk daN n f k s h M F ∧ lk daN n f k s h M F ≤ (1000000 : Nat)) (.ret (.tup [.agg [.row [.int .i64, .int .i64, .int
      .i64] n f, .lit (.int .i64 k), .lit (.int .i64 s), .lit (.int .i64 h), .row [.int .i64] (lk daN n f k s h M F) (lk srtF (lk daN n f k s h M F) (lk daF n f k s h M F))], .lit (.int
      .i64 0)])))) (.ret (.tup [.agg [.lit (.slice none (nat_lit 0) (nat_lit 0)), .lit (.int .i64 0), .lit (.int .i64 0), .lit (.int .i64 0), .lit (.slice none (nat_lit 0) (nat_lit 0))],
      .lit (.int .i64 22)]))))))) := by kernel_rfl
end Go.RX.Span

/- Sparse domains: positions and indices, plain; lists in order. -/
set_option linter.unusedVariables false
set_option linter.unusedSimpArgs false
set_option maxRecDepth 100000
namespace Go.RX.Span
open Go Go.RX
attribute [local irreducible] sx conB

theorem posR_is {r : R3} (h : RR r) {v : Int} (hv : hasR r v = true) : v = rA r + rC r * posR r v ∧ 0 ≤ posR r v ∧ posR r v < szR r := by
  have e : posR r v = (v - rA r) / rC r := by
    show pos (rA r) (rB r) (rC r) v = _
    unfold pos
    rw [if_pos hv, if_neg (by have := h.2; omega)]
  obtain ⟨_, h1, h2, h3⟩ := (of_decide_eq_true hv : chk (rA r) (rB r) (rC r) = 0 ∧ rA r ≤ v ∧ v ≤ rB r ∧ (v - rA r) % rC r = 0)
  have h2' := h.2
  have d := Int.mul_ediv_add_emod (v - rA r) (rC r)
  refine ⟨by rw [e]; omega, ?_⟩
  rw [(rr_size h).1, e]
  unfold ofC
  rw [if_neg (by omega), if_neg (by omega)]
  have := Int.ediv_le_ediv h2' (show v - rA r ≤ rB r - rA r by omega)
  exact ⟨Int.ediv_nonneg (by omega) (by omega), by omega⟩
theorem two_eq {S p q a b : Int} (hq0 : 0 ≤ q) (hq1 : q < S) (hb0 : 0 ≤ b) (hb1 : b < S) (h : p * S + q = a * S + b) : p = a ∧ q = b := by
  have e1 : (p * S + q) / S = p := by rw [Int.add_comm, Int.add_mul_ediv_right _ _ (by omega), Int.ediv_eq_zero_of_lt hq0 hq1]; omega
  have e2 : (a * S + b) / S = a := by rw [Int.add_comm, Int.add_mul_ediv_right _ _ (by omega), Int.ediv_eq_zero_of_lt hb0 hb1]; omega
  have e : p = a := by rw [← e1, ← e2, h]
  subst e
  exact ⟨rfl, by omega⟩
section
variable {n : Nat} {f : Nat → R3} {k s h : Int} {m : Nat} {e : Nat → R1}
theorem hasD_is (g : hasD n f k s h m e = true) : chD n f k s h = 0 ∧ m = n ∧ (n = 1 ∨ n = 2) ∧ RR (f 0) ∧ (n = 2 → RR (f 1)) ∧ hasR (f 0) (nv e 0) = true ∧ (n = 2 → hasR (f 1) (nv e 1) = true) := by
  have h0 : chD n f k s h = 0 ∧ m = n ∧ hasR (f 0) (e 0).1 = true ∧ (n = 2 → hasR (f 1) (e 1).1 = true) := of_decide_eq_true g
  obtain ⟨hc, hm, h1, h2⟩ := h0
  obtain ⟨⟨d1, d2⟩, _⟩ := chD_zero.1 hc
  exact ⟨hc, hm, d1, d2 0 (by omega), fun h => d2 1 (by omega), h1, h2⟩
theorem posD_is (g : hasD n f k s h m e = true) : posD n f k s h m e = if n = 1 then posR (f 0) (nv e 0) else posR (f 0) (nv e 0) * szR (f 1) + posR (f 1) (nv e 1) := by
  unfold posD; rw [if_pos g]; rfl
theorem posD_inj {m' : Nat} {e' : Nat → R1} (g : hasD n f k s h m e = true) (g' : hasD n f k s h m' e' = true) (he : posD n f k s h m e = posD n f k s h m' e') : nv e 0 = nv e' 0 ∧ (n = 2 → nv e 1 = nv e' 1) := by
  obtain ⟨hc, hm, hn, r0, r1, h0, h1⟩ := hasD_is g
  obtain ⟨_, hm', _, _, _, h0', h1'⟩ := hasD_is g'
  rw [posD_is g, posD_is g'] at he
  obtain ⟨a0, a1, a2⟩ := posR_is r0 h0
  obtain ⟨b0, b1, b2⟩ := posR_is r0 h0'
  rcases hn with rfl | rfl
  · rw [if_pos rfl, if_pos rfl] at he
    rw [he] at a0
    exact ⟨a0.trans b0.symm, fun h => absurd h (by decide)⟩
  · rw [if_neg (by decide), if_neg (by decide)] at he
    obtain ⟨c0, c1, c2⟩ := posR_is (r1 rfl) (h1 rfl)
    obtain ⟨d0, d1, d2⟩ := posR_is (r1 rfl) (h1' rfl)
    obtain ⟨x, y⟩ := two_eq c1 c2 d1 d2 he
    rw [x] at a0; rw [y] at c0
    exact ⟨a0.trans b0.symm, fun _ => c0.trans d0.symm⟩
theorem posD_eq {m' : Nat} {e' : Nat → R1} (g : hasD n f k s h m e = true) (g' : hasD n f k s h m' e' = true) (h0 : nv e 0 = nv e' 0) (h1 : n = 2 → nv e 1 = nv e' 1) : posD n f k s h m e = posD n f k s h m' e' := by
  obtain ⟨hc, hm, hn, _⟩ := hasD_is g
  rw [posD_is g, posD_is g', h0]
  rcases hn with rfl | rfl
  · rw [if_pos rfl, if_pos rfl]
  · rw [if_neg (by decide), if_neg (by decide), h1 rfl]
end
theorem key_pos {n : Nat} {f : Nat → R3} {k s h : Int} {F : Nat → RL} {i j : Nat} (g : ofH n f k s h F i = true) (g' : ofH n f k s h F j = true) : keyX F i = keyX F j ↔ ofP n f k s h F i = ofP n f k s h F j := by
  obtain ⟨hc, hm, hn, _⟩ := hasD_is g
  obtain ⟨_, hm', _⟩ := hasD_is g'
  unfold keyX ofP
  constructor
  · intro he
    have e0 := (Prod.mk.inj he).1
    have e1 := (Prod.mk.inj he).2
    refine posD_eq g g' e0 fun h2 => ?_
    rw [if_neg (by omega), if_neg (by omega)] at e1
    exact e1
  · intro he
    obtain ⟨x, y⟩ := posD_inj g g' he
    rw [x]
    rcases hn with rfl | rfl
    · rw [if_pos hm, if_pos hm']
    · rw [if_neg (by omega), if_neg (by omega), y rfl]
/-! The list without repetitions. -/
theorem mem_ddS {a : List Int} {p x : Int} : x ∈ ddS a p ↔ x ∈ a ∨ x = p := by
  unfold ddS
  by_cases h : p ∈ a
  · rw [if_pos h]; exact ⟨.inl, fun g => g.elim id fun g => g ▸ h⟩
  · rw [if_neg h]; simp
theorem rev_ind {motive : List Int → Prop} (l : List Int) (h0 : motive []) (h1 : ∀ l x, motive l → motive (l ++ [x])) : motive l := by
  rw [← List.reverse_reverse l]
  induction l.reverse with
  | nil => exact h0
  | cons a t ih => rw [List.reverse_cons]; exact h1 _ _ ih
theorem mem_ddL {x : Int} (ps : List Int) : x ∈ ddL ps ↔ x ∈ ps := by
  induction ps using rev_ind with
  | h0 => exact Iff.rfl
  | h1 l p ih => rw [ddL_s, mem_ddS, ih]; simp
theorem ddL_len (ps : List Int) : (ddL ps).length ≤ ps.length := by
  induction ps using rev_ind with
  | h0 => exact Nat.le_refl _
  | h1 l p ih =>
    rw [ddL_s]; unfold ddS
    split <;> simp <;> omega
theorem ddL_nodup (ps : List Int) : (ddL ps).Nodup := by
  induction ps using rev_ind with
  | h0 => exact List.nodup_nil
  | h1 l p ih =>
    rw [ddL_s]; unfold ddS
    split
    · exact ih
    · rename_i hn
      rw [List.nodup_append]
      exact ⟨ih, by simp, fun a ha b hb => by simp at hb; subst hb; exact fun h => hn (h ▸ ha)⟩
/-! What a map says. -/
theorem mget_cons {s : Sh} (k1 k2 : Int) (d : El s) (l : List ((Int × Int) × El s)) (x y : Int) : mget (((k1, k2), d) :: l) x y = if k1 = x ∧ k2 = y then d else mget l x y := by
  show (if k1 = x ∧ k2 = y then some d else mfind l x y).getD _ = _
  by_cases h : k1 = x ∧ k2 = y
  · rw [if_pos h, if_pos h]; rfl
  · rw [if_neg h, if_neg h]; rfl
theorem mput_cons {s : Sh} (k1 k2 : Int) (d v : El s) (l : List ((Int × Int) × El s)) (a b : Int) : mput (((k1, k2), d) :: l) a b v = if k1 = a ∧ k2 = b then ((a, b), v) :: l else ((k1, k2), d) :: mput l a b v := rfl
theorem mget_putG {s : Sh} {v : El s} {a b x y : Int} : ∀ l : List ((Int × Int) × El s), mget (mput l a b v) x y = if a = x ∧ b = y then v else mget l x y
  | [] => mget_cons a b v [] x y
  | ((k1, k2), d) :: l => by
    rw [mput_cons]
    by_cases h : k1 = a ∧ k2 = b
    · rw [if_pos h, mget_cons, mget_cons]
      obtain ⟨rfl, rfl⟩ := h
      by_cases g : k1 = x ∧ k2 = y
      · rw [if_pos g, if_pos g]
      · rw [if_neg g, if_neg g, if_neg g]
    · rw [if_neg h, mget_cons, mget_cons, mget_putG l]
      by_cases g : k1 = x ∧ k2 = y
      · rw [if_pos g, if_pos g, if_neg fun q => h ⟨g.1.trans q.1.symm, g.2.trans q.2.symm⟩]
      · rw [if_neg g, if_neg g]
abbrev BL := List ((Int × Int) × El .bool)
def bget (l : BL) (x y : Int) : Bool := mget (s := .bool) l x y
def bput (l : BL) (x y : Int) : BL := mput (s := .bool) l x y true
theorem bget_ite {l : BL} {a b x y : Int} : bget (bput l a b) x y = if a = x ∧ b = y then true else bget l x y := mget_putG l
theorem bget_put {l : BL} {a b x y : Int} : bget (bput l a b) x y = true ↔ bget l x y = true ∨ (x = a ∧ y = b) := by
  rw [bget_ite]
  by_cases h : a = x ∧ b = y
  · rw [if_pos h]; exact ⟨fun _ => .inr ⟨h.1.symm, h.2.symm⟩, fun _ => rfl⟩
  · rw [if_neg h]; exact ⟨.inl, fun g => g.elim id fun q => absurd ⟨q.1.symm, q.2.symm⟩ h⟩
end Go.RX.Span

/- Sparse domains: Of: the loop. -/
set_option linter.unusedVariables false
set_option linter.unusedSimpArgs false
set_option maxRecDepth 100000
namespace Go.RX.Span
open Go Go.RX
attribute [local irreducible] sx conB

theorem of_k0 {n : Nat} {e : Nat → R1} (h : 0 < n) : (cutF none (U.cat ((0 : Nat) + n) (U.cat (0 : Nat) (fun x => zeroEs [Sh.int IntKind.i64]) (castEls rfl e)) (ofList [((0 : Int), ())].reverse)) (0 : Int) (0 : Nat)).1 = nv e 0 := by
  show (U.cat (0 + n) (U.cat 0 _ e) _ 0).1 = _
  rw [U.cat_eq, if_pos (by omega), U.cat_eq, if_neg (by omega)]; rfl
theorem of_k1 {n : Nat} {e : Nat → R1} (h : n = 1 ∨ n = 2) : (cutF none (U.cat ((0 : Nat) + n) (U.cat (0 : Nat) (fun x => zeroEs [Sh.int IntKind.i64]) (castEls rfl e)) (ofList [((0 : Int), ())].reverse)) (0 : Int) ((0 : Nat) + (1 : Nat))).1 = if n = 1 then 0 else nv e 1 := by
  show (U.cat (0 + n) (U.cat 0 _ e) _ (0 + 1)).1 = _
  rcases h with rfl | rfl
  · rw [U.cat_eq, if_neg (by omega), if_pos rfl]; rfl
  · rw [U.cat_eq, if_pos (by omega), U.cat_eq, if_neg (by omega), if_neg (by omega)]; rfl
theorem cat_app {a : List Int} {x : Int} {j : Nat} (hj : j < a.length + 1) : U.cat a.length (lF a) (fun _ => ((x, ()) : R1)) j = lF (a ++ [x]) j := by
  refine (U.cat_eq _ _ _ _).trans ?_
  by_cases hj' : j < a.length
  · refine (if_pos hj').trans ?_
    unfold lF
    rw [List.getD_eq_getElem?_getD, List.getD_eq_getElem?_getD, List.getElem?_append_left hj']
  · obtain rfl : j = a.length := by omega
    refine (if_neg hj').trans ?_
    unfold lF
    rw [List.getD_eq_getElem?_getD, List.getElem?_append_right (Nat.le_refl _), Nat.sub_self]; rfl
structure XOf where
  (n : Nat) (f : Nat → R3) (k s h : Int) (M : Nat) (F : Nat → RL) (i : Nat) (l : BL)
noncomputable abbrev VOf (q : XOf) : Few := (slOf q.M q.F q.i, memOf q.n q.f q.k q.s q.h q.l (U.isz (daN q.n q.f q.k q.s q.h q.i q.F)) (daN q.n q.f q.k q.s q.h q.i q.F) (daF q.n q.f q.k q.s q.h q.i q.F))
noncomputable def O1Of (q : XOf) : Ex × Few := (.exit 0, ([.any, .ptr 1 0, .any, .any, .ptr 3 0, .any, .any, .any], [(0, none), (0, some (.cells zeV 33)), (0, none),
          (0, some (.cells [.row [.int .i64, .int .i64, .int .i64] q.n q.f, .lit (.int .i64 q.k), .lit (.int .i64 q.s), .lit (.int .i64 q.h), .own (U.isz (daN q.n q.f q.k q.s q.h q.M q.F)) 4 (daN q.n q.f q.k q.s q.h q.M q.F)] 33)),
          (0, some (.row (U.isz (daN q.n q.f q.k q.s q.h q.M q.F)) (daN q.n q.f q.k q.s q.h q.M q.F) [.int .i64] (daF q.n q.f q.k q.s q.h q.M q.F) 3))]))
noncomputable def O2Of : Ex × Few := (.ret, ([.any, .ptr 1 0, .ki .i64 22, .any, .any, .any, .any, .any], [(0, none), (0, some (.cells zeV 33)), (0, none), (0, none), (0, none)]))
def PhiOf (n0 : Nat) (q : XOf) : Prop := n0 = 0 ∧ PreOf q.n q.f q.k q.s q.h q.M ∧ q.i ≤ q.M ∧ (∀ j, j < q.i → ofH q.n q.f q.k q.s q.h q.F j = true) ∧ ∀ a b, bget q.l a b = true ↔ ∃ j, j < q.i ∧ keyX q.F j = (a, b)
def ZOf (q : XOf) (o : Ex × Few) : Prop := (ofOk q.n q.f q.k q.s q.h q.M q.F = true → o = O1Of q) ∧ (ofOk q.n q.f q.k q.s q.h q.M q.F = false → o = O2Of)
theorem da_len (n : Nat) (f : Nat → R3) (k s h : Int) (M : Nat) (F : Nat → RL) : daN n f k s h M F ≤ M := by
  have := ddL_len (psL n f k s h M F)
  unfold daN
  unfold psL at this ⊢
  simpa using this
theorem zeV_rl {ρ : Ren} : RlL ρ zeV zeV := ⟨rfl, rfl, rfl, rfl, rfl, trivial⟩
theorem par_rl {ρ : Ren} {n : Nat} {f : Nat → R3} {k s h : Int} : RlL ρ [.row [.int .i64, .int .i64, .int .i64] n f, .lit (.int .i64 k), .lit (.int .i64 s), .lit (.int .i64 h)] [.row [.int .i64, .int .i64, .int .i64] n f, .lit (.int .i64 k), .lit (.int .i64 s), .lit (.int .i64 h)] := ⟨⟨rfl, sameRow_refl _ _⟩, rfl, rfl, rfl, trivial⟩
theorem out_rl {ρ : Ren} {n : Nat} {f : Nat → R3} {k s h : Int} {u u' : Bool} {b b' N N' : Nat} (hb : ρ.of b' = some b) (hu : u = u') (hN : N = N') : RlL ρ [.row [.int .i64, .int .i64, .int .i64] n f, .lit (.int .i64 k), .lit (.int .i64 s), .lit (.int .i64 h), .own u b N] [.row [.int .i64, .int .i64, .int .i64] n f, .lit (.int .i64 k), .lit (.int .i64 s), .lit (.int .i64 h), .own u' b' N'] := ⟨⟨rfl, sameRow_refl _ _⟩, rfl, rfl, rfl, ⟨hu, hN, hb⟩, trivial⟩
theorem roundOf (n0 : Nat) (q : XOf) (hq : PhiOf n0 q) : ((sx EOf [] n0 (loopOf P 21 9) (mkS 72 [2,4,5,7,8,28,29,30] (VOf q).1, (VOf q).2)).bind (proj 72 [2,4,5,7,8,28,29,30])).All fun r => match r.1 with
      | .normal => ∃ q', PhiOf n0 q' ∧ q'.M - q'.i < q.M - q.i ∧ Wk 72 [2,4,5,7,8,28,29,30] n0 r.2 (VOf q') ∧ ∀ o, ZOf q' o → ZOf q o
      | e => ∃ s, ZOf q (e, s) ∧ Wk 72 [2,4,5,7,8,28,29,30] n0 r.2 s := by
  obtain ⟨n, f, k, s, h, M, F, i, l⟩ := q
  obtain ⟨h0, ⟨hr, hc, hM⟩, hi, hall, hl⟩ := hq
  have h0 : n0 = 0 := h0
  have hr : Row64 n f := hr
  have hc : chD n f k s h = 0 := hc
  have hM : M ≤ 20000 := hM
  have hi : i ≤ M := hi
  have hall : ∀ j, j < i → ofH n f k s h F j = true := hall
  have hl : ∀ a b, bget l a b = true ↔ ∃ j, j < i ∧ keyX F j = (a, b) := hl
  subst h0
  refine T.all_of_eq (t_Of n f k s h M F (i : Int) l (U.isz (daN n f k s h i F)) (daN n f k s h i F) (daF n f k s h i F)) ?_
  by_cases hlt : i < M
  · rw [add1p (j := i) (by omega), tnH]
    simp only [lk_eq]
    refine ⟨fun _ => ⟨⟨by omega, by omega⟩, hr, fun g => ?_, fun g => ?_⟩, fun g => absurd (U.lt_f.mp g) (by simp only [Int.ofNat_eq_natCast]; omega)⟩
    · have g : hasD n f k s h (F i).1.1 (F i).1.2 = false := U.not_t.mp g
      refine ⟨O2Of.2, ⟨fun hk => ?_, fun _ => rfl⟩, wk_of [some 0, some 1, some 2, some 3, some 4] rfl (Nat.zero_le _) (ren1z _) ⟨rl_any _, ⟨rfl, rfl⟩, ⟨rfl, rfl⟩, rl_any _, rl_any _, rl_any _, rl_any _, rl_any _, trivial⟩ ⟨⟨rfl, zeV_rl⟩, trivial⟩⟩
      have := ofOk_t.1 hk i hlt
      rw [g] at this; cases this
    · have g : hasD n f k s h (F i).1.1 (F i).1.2 = true := U.not_f.mp g
      obtain ⟨_, hm, hn, _⟩ := hasD_is g
      have hm1 : (F i).1.1 = 1 ∨ (F i).1.1 = 2 := by omega
      have bN := da_len n f k s h i F
      have hall' : ∀ j, j < i + 1 → ofH n f k s h F j = true := fun j hj => by
        by_cases e : j = i
        · subst e; exact g
        · exact hall j (by omega)
      have e2 : U.toNat (2 : Int) = 2 := tn 2
      rw [of_k0 (e := (F i).1.2) (by omega), of_k1 (e := (F i).1.2) hm1, e2]
      have ep : ofP n f k s h F i = posD n f k s h (F i).1.1 (F i).1.2 := rfl
      refine ⟨by omega, by omega, by omega, ⟨by omega, by omega, by omega⟩, by omega, fun g2 => ⟨by omega, ?_⟩, fun g2 => ?_⟩
      · have g2 : bget l (nv (F i).1.2 0) (if (F i).1.1 = 1 then 0 else nv (F i).1.2 1) = false := (U.mget_eq _ _ _ _).symm.trans (U.not_t.mp g2)
        have hnew : ofP n f k s h F i ∉ ddL (psL n f k s h i F) := fun hm => by
          rw [mem_ddL] at hm
          obtain ⟨j, hj, e⟩ := List.mem_map.1 hm
          have hj := List.mem_range.1 hj
          have hk := (key_pos (hall j hj) g).2 e
          rw [(hl _ _).2 ⟨j, hj, hk⟩] at g2; cases g2
        have ed : ddL (psL n f k s h (i + 1) F) = ddL (psL n f k s h i F) ++ [ofP n f k s h F i] := by rw [psL_s, ddL_s]; unfold ddS; rw [if_neg hnew]
        have eN : daN n f k s h (i + 1) F = daN n f k s h i F + 1 := by unfold daN; rw [ed]; simp
        refine ⟨⟨n, f, k, s, h, M, F, i + 1, bput l (nv (F i).1.2 0) (if (F i).1.1 = 1 then 0 else nv (F i).1.2 1)⟩, ⟨rfl, ⟨hr, hc, hM⟩, hlt, hall', fun a b => ?_⟩, (show M - (i + 1) < M - i by omega), ?_, fun o ho => ho⟩
        · show bget (bput l _ _) a b = true ↔ _
          rw [bget_put, hl]
          constructor
          · rintro (⟨j, hj, e⟩ | ⟨e1, e2⟩)
            · exact ⟨j, Nat.lt_succ_of_lt hj, e⟩
            · exact ⟨i, Nat.lt_succ_self i, Prod.ext e1.symm e2.symm⟩
          · rintro ⟨j, hj, e⟩
            by_cases ej : j = i
            · subst ej
              exact .inr ⟨(congrArg Prod.fst e).symm, (congrArg Prod.snd e).symm⟩
            · have hj : j < i + 1 := hj
              exact .inl ⟨j, by omega, e⟩
        · have ei : U.isz (daN n f k s h (i + 1) F) = false := by rw [eN]; exact isz_s _
          refine wk_of [some 0, some 1, some 2, some 3, some 11] rfl (Nat.zero_le _) (ren1z _) ⟨⟨rfl, rfl⟩, ⟨rfl, rfl⟩, rl_any _, rfl, ⟨rfl, rfl⟩, ⟨rfl, rowRL fun _ _ => rfl⟩, rfl, rfl, trivial⟩
            ⟨⟨rfl, par_rl⟩, ⟨rfl, zeV_rl⟩, ⟨rfl, rfl, (U.mput_eq _ _ _ _ _).symm ▸ rfl⟩, ⟨rfl, out_rl rfl ei.symm eN.symm⟩, ⟨rfl, ei.symm, eN.symm, row1H fun j hj => ?_⟩, trivial⟩
          have hj : j < daN n f k s h (i + 1) F := hj
          have hj2 : j < (ddL (psL n f k s h i F)).length + 1 := by rw [eN] at hj; exact hj
          show U.cat _ (lF (ddL (psL n f k s h i F))) _ j = lF (ddL (psL n f k s h (i + 1) F)) j
          rw [ed]
          exact cat_app hj2
      · have g2 : bget l (nv (F i).1.2 0) (if (F i).1.1 = 1 then 0 else nv (F i).1.2 1) = true := (U.mget_eq _ _ _ _).symm.trans (U.not_f.mp g2)
        obtain ⟨j, hj, e⟩ := (hl _ _).1 g2
        have hp := (key_pos (F := F) (i := j) (j := i) (hall j hj) g).1 e
        have hin : ofP n f k s h F i ∈ ddL (psL n f k s h i F) := (mem_ddL _).2 (List.mem_map.2 ⟨j, List.mem_range.2 hj, hp⟩)
        have ed : ddL (psL n f k s h (i + 1) F) = ddL (psL n f k s h i F) := by rw [psL_s, ddL_s]; unfold ddS; rw [if_pos hin]
        have eN : daN n f k s h (i + 1) F = daN n f k s h i F := by unfold daN; rw [ed]
        have eF : daF n f k s h (i + 1) F = daF n f k s h i F := by unfold daF; rw [ed]
        refine ⟨⟨n, f, k, s, h, M, F, i + 1, l⟩, ⟨rfl, ⟨hr, hc, hM⟩, hlt, hall', fun a b => ?_⟩, (show M - (i + 1) < M - i by omega), ?_, fun o ho => ho⟩
        · show bget l a b = true ↔ _
          rw [hl]
          constructor
          · rintro ⟨j, hj, e⟩
            exact ⟨j, Nat.lt_succ_of_lt hj, e⟩
          · rintro ⟨j', hj', e'⟩
            by_cases ej : j' = i
            · subst ej
              exact ⟨j, hj, e.trans e'⟩
            · have hj' : j' < i + 1 := hj'
              exact ⟨j', by omega, e'⟩
        · show Wk _ _ _ _ (slOf M F ((i + 1 : Nat) : Int), memOf n f k s h l (U.isz (daN n f k s h (i + 1) F)) (daN n f k s h (i + 1) F) (daF n f k s h (i + 1) F))
          rw [eN, eF]
          exact wk_of [some 0, some 1, some 2, some 3, some 4] rfl (Nat.zero_le _) (ren1z _) ⟨⟨rfl, rfl⟩, ⟨rfl, rfl⟩, rl_any _, rfl, ⟨rfl, rfl⟩, ⟨rfl, rowRL fun _ _ => rfl⟩, rfl, rfl, trivial⟩
            ⟨⟨rfl, par_rl⟩, ⟨rfl, zeV_rl⟩, ⟨rfl, rfl, rfl⟩, ⟨rfl, out_rl rfl rfl rfl⟩, ⟨rfl, rfl, rfl, row1H fun _ _ => rfl⟩, trivial⟩
  · obtain rfl : i = M := by omega
    refine ⟨fun g => absurd (U.lt_t.mp g) (by simp only [Int.ofNat_eq_natCast]; omega), fun _ => ⟨(O1Of ⟨n, f, k, s, h, i, F, i, l⟩).2, ⟨fun _ => rfl, fun hk => absurd hall (ofOk_f.1 hk)⟩, ?_⟩⟩
    exact wk_of [none, some 1, none, some 3, some 4] rfl (Nat.zero_le _) (ren1z _) ⟨rl_any _, ⟨rfl, rfl⟩, rl_any _, rl_any _, ⟨rfl, rfl⟩, rl_any _, rl_any _, rl_any _, trivial⟩
            ⟨⟨rfl, zeV_rl⟩, ⟨rfl, out_rl rfl rfl rfl⟩, ⟨rfl, rfl, rfl, row1H fun _ _ => rfl⟩, trivial⟩
theorem loopOf_ok : LoopOK P (loopOf P 21 9) (few 72 [2,4,5,7,8,28,29,30] gOf) :=
  loop_few (E := EOf) mixed EOf_ok loopsOK_none 72 [2,4,5,7,8,28,29,30] (X := XOf) gOf (fun _ x => VOf x) PhiOf (fun q => q.M - q.i) (fun _ x o => ZOf x o)
    (fun n0 st r hh => by
      unfold gOf at hh
      split at hh
      · rename_i n0 p0 q0 p1 q1 s5 p2 p3 q3 M F M' z w0 n f k s h t0 w1 z1 z2 z3 t1 w2 w3 n' f' k' s' h' t2
        obtain ⟨h0, hp, rfl, rfl, rfl, rfl, rfl, rfl, rfl, rfl, rfl, rfl, rfl, rfl, rfl, rfl, rfl, rfl, rfl, rfl, rfl, rfl⟩ := (T.is_ask hh).1
        have hb := (T.is_ask hh).2
        subst h0
        rw [lk_eq] at hp
        have ph : PhiOf 0 ⟨n', f', k', s', h', M, F, 0, []⟩ := ⟨rfl, hp, Nat.zero_le _, (fun j hj => absurd hj (Nat.not_lt_zero j)), fun a b => Iff.intro (fun g => Bool.noConfusion g) (fun g => g.elim fun j hj => absurd hj.1 (Nat.not_lt_zero j))⟩
        have zi : U.isz 0 = true := by rw [U.isz_eq]; rfl
        have en : Wk 72 [2,4,5,7,8,28,29,30] 0 ([.ptr 0 0, .ptr 1 0, s5, .mp 2, .ptr 3 0, .row [.sl [.int .i64]] M F, .lit (.int .i64 (M : Int)), .ki .i64 0], [(w0, some (.cells [.row [.int .i64, .int .i64, .int .i64] n' f', .lit (.int .i64 k'), .lit (.int .i64 s'), .lit (.int .i64 h')] 26)), (w1, some (.cells zeV 33)), (w2, some (.mp true .bool [])), (w3, some (.cells [.row [.int .i64, .int .i64, .int .i64] n' f', .lit (.int .i64 k'), .lit (.int .i64 s'), .lit (.int .i64 h'), .lit (.slice none 0 0)] 33))]) (VOf ⟨n', f', k', s', h', M, F, 0, []⟩) := by
          refine wk_of [some 0, some 1, some 2, some 3, none] rfl (Nat.zero_le _) (ren1z _) ⟨⟨rfl, rfl⟩, ⟨rfl, rfl⟩, rl_any _, rfl, ⟨rfl, rfl⟩, ⟨rfl, rowRL fun _ _ => rfl⟩, rfl, rfl, trivial⟩
            ⟨⟨rfl, par_rl⟩, ⟨rfl, zeV_rl⟩, ⟨rfl, rfl, rfl⟩, ⟨rfl, ⟨rfl, sameRow_refl _ _⟩, rfl, rfl, rfl, ⟨rfl, zi, rfl⟩, trivial⟩, ⟨zi, rfl⟩, trivial⟩
        rcases hb with ⟨he, hb⟩ | ⟨he, hb⟩
        · rw [lk_eq] at he
          obtain rfl := T.is_ret hb
          exact ⟨_, ph, en, fun o ho => by rw [ho.1 he]; simp only [lk_eq]; rfl⟩
        · rw [lk_eq] at he
          obtain rfl := T.is_ret hb
          exact ⟨_, ph, en, fun o ho => ho.2 he⟩
      · exact hh.elim)
    roundOf
theorem lOf_ok : ∀ p ∈ lOf, LoopsOK P p.2 (bodyOf P p.1) := by
  intro p hp
  simp only [lOf, List.mem_cons, List.not_mem_nil, or_false] at hp
  rcases hp with rfl | rfl
  · refine loopsOK_of (by kernel_rfl) fun k g hk => ?_
    simp only [List.mem_singleton, Prod.mk.injEq, LoopC.sum.injEq] at hk
    obtain ⟨rfl, rfl⟩ := hk
    exact loopOf_ok
  · exact loopsOK_call _
theorem cOf_ok : ∀ p ∈ lOf, ∀ X, callOf p.2 = some X → InlOK P p.1 X := by
  intro p hp X hX
  simp only [lOf, List.mem_cons, List.not_mem_nil, or_false] at hp
  rcases hp with rfl | rfl
  · cases hX
  · simp only [callOf, Option.some.injEq] at hX
    subst hX
    exact sort_ok
end Go.RX.Span

/- Sparse domains: Of. -/
set_option linter.unusedVariables false
set_option linter.unusedSimpArgs false
set_option maxRecDepth 100000
namespace Go.RX.Span
open Go Go.RX
attribute [local irreducible] sx conB

/-- Ascending, each once. -/
def Asc (l : List Int) : Prop := l.Pairwise (· < ·)
theorem asc_eq : ∀ {l m : List Int}, Asc l → Asc m → (∀ x, x ∈ l ↔ x ∈ m) → l = m
  | [], [], _, _, _ => rfl
  | [], y :: m, _, _, h => absurd ((h y).2 List.mem_cons_self) List.not_mem_nil
  | x :: l, [], _, _, h => absurd ((h x).1 List.mem_cons_self) List.not_mem_nil
  | x :: l, y :: m, hl, hm, h => by
    obtain ⟨l1, l2⟩ := List.pairwise_cons.1 hl
    obtain ⟨m1, m2⟩ := List.pairwise_cons.1 hm
    have e : x = y := by
      rcases List.mem_cons.1 ((h x).1 List.mem_cons_self) with e | e
      · exact e
      · rcases List.mem_cons.1 ((h y).2 List.mem_cons_self) with g | g
        · exact g.symm
        · have := l1 y g; have := m1 x e; omega
    subst e
    refine congrArg _ (asc_eq l2 m2 fun z => ⟨fun hz => ?_, fun hz => ?_⟩)
    · rcases List.mem_cons.1 ((h z).1 (List.mem_cons_of_mem _ hz)) with e | e
      · have := l1 z hz; omega
      · exact e
    · rcases List.mem_cons.1 ((h z).2 (List.mem_cons_of_mem _ hz)) with e | e
      · have := m1 z hz; omega
      · exact e
/-- One more. -/
def putI : List Int → Int → List Int
  | [], x => [x]
  | y :: l, x => if y < x then y :: putI l x else if y = x then y :: l else x :: y :: l
theorem mem_putI {x z : Int} : ∀ {l : List Int}, z ∈ putI l x ↔ z ∈ l ∨ z = x
  | [] => by simp [putI]
  | y :: l => by
    unfold putI
    by_cases h : y < x
    · rw [if_pos h, List.mem_cons, mem_putI, List.mem_cons]; exact or_assoc.symm
    · rw [if_neg h]
      by_cases h2 : y = x
      · rw [if_pos h2]; subst h2; exact ⟨.inl, fun g => g.elim id fun g => g ▸ List.mem_cons_self⟩
      · rw [if_neg h2, List.mem_cons]; exact or_comm
theorem asc_putI {x : Int} : ∀ {l : List Int}, Asc l → Asc (putI l x)
  | [], _ => List.pairwise_singleton _ _
  | y :: l, h => by
    obtain ⟨l1, l2⟩ := List.pairwise_cons.1 h
    unfold putI
    by_cases g : y < x
    · rw [if_pos g]
      refine List.pairwise_cons.2 ⟨fun z hz => ?_, asc_putI l2⟩
      rcases mem_putI.1 hz with e | e
      · exact l1 z e
      · omega
    · rw [if_neg g]
      by_cases g2 : y = x
      · rw [if_pos g2]; exact h
      · rw [if_neg g2]
        refine List.pairwise_cons.2 ⟨fun z hz => ?_, h⟩
        rcases List.mem_cons.1 hz with e | e
        · omega
        · have := l1 z e; omega
def ofL (ps : List Int) : List Int := ps.foldl putI []
theorem ofL_s (ps : List Int) (p : Int) : ofL (ps ++ [p]) = putI (ofL ps) p := by unfold ofL; rw [List.foldl_append]; rfl
theorem mem_ofL {x : Int} (ps : List Int) : x ∈ ofL ps ↔ x ∈ ps := by
  induction ps using rev_ind with
  | h0 => exact Iff.rfl
  | h1 l p ih => rw [ofL_s, mem_putI, ih]; simp
theorem asc_ofL (ps : List Int) : Asc (ofL ps) := by
  induction ps using rev_ind with
  | h0 => exact List.Pairwise.nil
  | h1 l p ih => rw [ofL_s]; exact asc_putI ih
theorem asc_ms {l : List Int} (h : l.Nodup) : Asc (l.mergeSort fun x y => decide (x ≤ y)) := by
  have s := List.pairwise_mergeSort (le := fun x y : Int => decide (x ≤ y)) (fun a b c h1 h2 => by simp at *; omega) (fun a b => by simp; omega) l
  have d : (l.mergeSort fun x y => decide (x ≤ y)).Nodup := (List.mergeSort_perm l _).nodup_iff.2 h
  refine (s.and d).imp fun {a b} hab => ?_
  have h1 : a ≤ b := by simpa using hab.1
  have h2 : a ≠ b := hab.2
  omega
theorem ms_ofL (ps : List Int) : ((ddL ps).mergeSort fun x y => decide (x ≤ y)) = ofL ps :=
  asc_eq (asc_ms (ddL_nodup ps)) (asc_ofL ps) fun x => by rw [(List.mergeSort_perm _ _).mem_iff, mem_ddL, mem_ofL]
theorem ofL_len (ps : List Int) : (ofL ps).length = (ddL ps).length := by rw [← ms_ofL, List.length_mergeSort]
section
variable (n : Nat) (f : Nat → R3) (k s h : Int) (M : Nat) (F : Nat → RL)
noncomputable def ofE : Int := if pdE n f k s h ≠ 0 then pdE n f k s h else if 20000 < M then 5 else if ofOk n f k s h M F = false then 22 else if 5000 < (ofL (psL n f k s h M F)).length then 5 else 0
def osN : Nat := (ofL (psL n f k s h M F)).length
def osF : Nat → R1 := lF (ofL (psL n f k s h M F))
end
def zi (E x : Int) : Int := if E = 0 then x else 0
def zn (E : Int) (x : Nat) : Nat := if E = 0 then x else 0
noncomputable def c_Of : Con := fun args => match args with
  | [.agg [.row [.int .i64, .int .i64, .int .i64] n f, .lit (.int .i64 k), .lit (.int .i64 s), .lit (.int .i64 h)], .row [.sl [.int .i64]] M F] =>
    .ask (Row64 n f) (.ret (.tup [.agg [.row [.int .i64, .int .i64, .int .i64] (lk zn (lk ofE n f k s h M F) n) f, .lit (.int .i64 (lk zi (lk ofE n f k s h M F) k)), .lit (.int .i64 (lk zi (lk ofE n f k s h M F) s)), .lit (.int .i64 (lk zi (lk ofE n f k s h M F) h)), .row [.int .i64] (lk zn (lk ofE n f k s h M F) (lk osN n f k s h M F)) (lk osF n f k s h M F)], .lit (.int .i64 (lk ofE n f k s h M F))]))
  | _ => .stuck 1
theorem zn_0 (x : Nat) : zn 0 x = x := rfl
theorem zn_e {E : Int} (h : E ≠ 0) (x : Nat) : zn E x = 0 := if_neg h
theorem zi_0 (x : Int) : zi 0 x = x := rfl
theorem zi_e {E : Int} (h : E ≠ 0) (x : Int) : zi E x = 0 := if_neg h
/-- The empty result with an error. -/
theorem cl_err {E E' : Int} (hE : E = E') (h0 : E ≠ 0) {n N : Nat} {f : Nat → R3} {k s h : Int} {G : Nat → R1} :
    Cl (SV.tup [.agg zeV, .lit (.int .i64 E)]) (.tup [.agg [.row [.int .i64, .int .i64, .int .i64] (zn E' n) f, .lit (.int .i64 (zi E' k)), .lit (.int .i64 (zi E' s)), .lit (.int .i64 (zi E' h)), .row [.int .i64] (zn E' N) G], .lit (.int .i64 E')]) := by
  subst hE
  rw [zn_e h0, zn_e h0, zi_e h0, zi_e h0, zi_e h0]
  exact ⟨⟨cl_nil, .inl rfl, .inl rfl, .inl rfl, cl_nil, rfl⟩, .inl rfl, rfl⟩
theorem srt_is (ps : List Int) (i : Nat) : srtF (ddL ps).length (lF (ddL ps)) i = lF (ofL ps) i := by
  unfold srtF lF
  have e : srtL (ddL ps).length (fun i => ((ddL ps).getD i 0, ())) = ofL ps := by
    rw [← ms_ofL]
    unfold srtL
    exact congrArg (fun l => List.mergeSort l _) (nl_lF (ddL ps))
  rw [e]
theorem Of_ok : ConOK P 21 c_Of := con_cl (allOKC mixed kOf_ok lOf_ok cOf_ok) 10 21 fun args r hh => by
  unfold c_Of at hh
  split at hh
  · rename_i n f k s h M F
    have hp := (T.is_ask hh).1
    obtain rfl := T.is_ret (T.is_ask hh).2
    refine T.all_of_eq (t_OfC n f k s h M F) ?_
    simp only [lk_eq, Int.ofNat_eq_natCast]
    have bN := da_len n f k s h M F
    have eN : osN n f k s h M F = daN n f k s h M F := ofL_len _
    refine ⟨hp, fun g => ?_, fun g => ⟨fun g2 => ?_, fun g2 => ?_⟩⟩
    · have g := U.ne_t.mp g
      exact cl_err (by unfold ofE; rw [if_pos g]) g
    · have g := U.ne_f.mp g
      have g2 := U.gt_t.mp g2
      exact cl_err (by unfold ofE; rw [if_neg (fun x => x g), if_pos (by omega)]) (by decide)
    · have g := U.ne_f.mp g
      have g2 := U.gt_f.mp g2
      have hc := (pdE_zero.1 g).1
      have hn := (chD_zero.1 hc).1.1
      refine ⟨⟨by omega, by omega⟩, ⟨trivial, ⟨hp, hc, by omega⟩, trivial, trivial, trivial, trivial, trivial, trivial, trivial, trivial, trivial, trivial, trivial, trivial, trivial, trivial, trivial, trivial, trivial, trivial, trivial, trivial⟩, fun g3 => ⟨fun g4 => ?_, fun g4 => ⟨⟨trivial, by omega⟩, ?_⟩⟩, fun g3 => ?_⟩
      · have g4 := U.gt_t.mp g4
        exact cl_err (by unfold ofE; rw [if_neg (fun x => x g), if_neg (by omega), if_neg (by rw [g3]; decide), if_pos (by show 5000 < osN n f k s h M F; omega)]) (by decide)
      · have g4 := U.gt_f.mp g4
        have e0 : ofE n f k s h M F = 0 := by unfold ofE; rw [if_neg (fun x => x g), if_neg (by omega), if_neg (by rw [g3]; decide), if_neg (by show ¬ 5000 < osN n f k s h M F; omega)]
        rw [e0]
        refine ⟨⟨⟨rfl, sameRow_refl _ _⟩, .inl rfl, .inl rfl, .inl rfl, ⟨eN.symm, row1H fun i hi => ?_⟩, rfl⟩, .inl rfl, rfl⟩
        exact srt_is _ i
      · exact cl_err (by unfold ofE; rw [if_neg (fun x => x g), if_neg (by omega), if_pos g3]) (by decide)
  · exact hh.elim
end Go.RX.Span

/- Sparse domains: rows of a table: the states. -/
set_option linter.unusedVariables false
set_option linter.unusedSimpArgs false
set_option maxRecDepth 100000
namespace Go.RX.Span
open Go Go.RX
attribute [local irreducible] sx conB

/-- All answers are yes. -/
noncomputable def okB (K : Cons) (s c : Nat) : Bool := open Classical in decide (∀ i, i < c → K.ans (s + i) = true)
/-- The first answer from s on that is no. -/
def stopA (K : Cons) : Nat → Nat → Nat
  | _, 0 => 0
  | s, c + 1 => if K.ans s = true then stopA K (s + 1) c + 1 else 0
theorem okB_t {K : Cons} {s c : Nat} : okB K s c = true ↔ ∀ i, i < c → K.ans (s + i) = true := by
  unfold okB; exact decide_eq_true_iff
theorem okB_f {K : Cons} {s c j : Nat} (hj : j < c) (h : K.ans (s + j) = false) : okB K s c = false := by
  cases e : okB K s c
  · rfl
  · rw [okB_t.1 e j hj] at h; cases h
theorem stopA_eq {K : Cons} : ∀ {c s j : Nat}, j < c → K.ans (s + j) = false → (∀ i, i < j → K.ans (s + i) = true) → stopA K s c = j
  | 0, _, _, h, _, _ => by omega
  | c + 1, s, 0, _, h, _ => by
    have h : K.ans s = false := h
    simp only [stopA]; rw [h]; rfl
  | c + 1, s, j + 1, hj, h, hb => by
    have h0 : K.ans s = true := hb 0 (by omega)
    simp only [stopA]
    rw [if_pos h0, stopA_eq (j := j) (by omega) (by rw [show s + 1 + j = s + (j + 1) by omega]; exact h) fun i hi => by rw [show s + 1 + i = s + (i + 1) by omega]; exact hb _ (by omega)]
/-- Numbers that ascend, and are small. -/
def AscR (m : Nat) (e : Nat → R1) : Prop := BsAsk m e ∧ ∀ i, i < m → 0 ≤ nv e i ∧ nv e i ≤ 10000000000000
/-- How many are ahead of row r. -/
def rwP (C : Int) (m : Nat) (e : Nat → R1) (r : Nat) : Nat := bsI m e ((r : Int) * C)
/-- The columns of row r. -/
def rwC (C : Int) (m : Nat) (e : Nat → R1) (r : Nat) : List Int := (List.range (rwP C m e (r + 1) - rwP C m e r)).map fun j => nv e (rwP C m e r + j) - r * C
/-- What is yielded. -/
noncomputable def rwE (C : Int) (m : Nat) (e : Nat → R1) (r : Nat) : List Value := [.int .i64 (r : Int), .tuple ((rwC C m e r).map (Value.int .i64)).toArray]
def TabAsk (R C : Int) (m : Nat) (e : Nat → R1) : Prop := 0 ≤ R ∧ R ≤ 2000001 ∧ 0 ≤ C ∧ C ≤ 2000001 ∧ AscR m e
/-! The inner loop: the columns of one row. -/
def sbF1 (r C : Int) (e : Nat → R1) : Nat → R1 := fun i => ((nv e i - r * C : Int), ())
def shF (N : Nat) (e : Nat → R1) : Nat → R1 := fun i => e (i + N)
noncomputable def tiN (r C : Int) (m : Nat) (e : Nat → R1) : Nat := bsI m e ((r + 1) * C)
noncomputable abbrev slTi (K : Cons) (R j r : Int) (u : Bool) (N : Nat) : List SV := [.lit (.func (.yield K.l) #[] #[]), .ptr 1 0, .ptr 2 0, .lit (.int .i64 r), .own u 3 N, .lit (.int .i64 R), .lit (.int .i64 j)]
noncomputable abbrev memTi (K : Cons) (i : Nat) (R C : Int) (m : Nat) (e : Nat → R1) (u : Bool) (N : Nat) (G : Nat → R1) : Mem := [(0, some (.seq true K i)), (0, some (.cells [.lit (.int .i64 R), .lit (.int .i64 C)] 82)), (0, some (.cells [.row [.int .i64] m e] 27)), (0, some (.row u N [.int .i64] G 3))]
def PreTi (n0 : Nat) (r R C : Int) (m : Nat) (e : Nat → R1) : Prop := n0 = 3 ∧ 0 ≤ r ∧ r < R ∧ TabAsk R C m e
noncomputable def gTi : Nat → Few → T (Ex × Few)
  | n0, ([.lit (.func (.yield l) ⟨[]⟩ ⟨[]⟩), .ptr p1 q1, .ptr p2 q2, .lit (.int .i64 r), .lit (.slice none 0 0), .lit (.int .i64 R'), .lit (.int .i64 j)], (_, some (.seq true K i)) :: (_, some (.cells [.lit (.int .i64 R), .lit (.int .i64 C)] t1)) :: (_, some (.cells [.row [.int .i64] m e] t2)) :: _) =>
    .ask (lk PreTi n0 r R C m e ∧ K.l = l ∧ R' = R ∧ p1 = 1 ∧ q1 = 0 ∧ p2 = 2 ∧ q2 = 0 ∧ t1 = 82 ∧ t2 = 27)
      (.ret (.exit 2, (slTi K R j r (U.isz (lk tiN r C m e)) (lk tiN r C m e), memTi K i R C (U.nsub m (lk tiN r C m e)) (lk shF (lk tiN r C m e) e) (U.isz (lk tiN r C m e)) (lk tiN r C m e) (lk sbF1 r C e))))
  | _, _ => .stuck 1
noncomputable abbrev LTi : Loops := [(4, .sum (few 44 [0,1,2,4,5,7,8] gTi))]
/-! The outer loop. -/
noncomputable abbrev slTo (K : Cons) (R i : Int) : List SV := [.lit (.func (.yield K.l) #[] #[]), .ptr 1 0, .ptr 2 0, .lit (.int .i64 R), .lit (.int .i64 i)]
noncomputable abbrev memTo (K : Cons) (i : Nat) (R C : Int) (m : Nat) (e : Nat → R1) : Mem := [(0, some (.seq true K i)), (0, some (.cells [.lit (.int .i64 R), .lit (.int .i64 C)] 82)), (0, some (.cells [.row [.int .i64] m e] 27))]
def PreTo (n0 : Nat) (K : Cons) (R C : Int) (m : Nat) (e : Nat → R1) : Prop := n0 = 3 ∧ K.P = P ∧ TabAsk R C m e ∧ K.n = R.toNat ∧ K.el = rwE C m e
noncomputable abbrev o1To (K : Cons) : Ex × Few := (.exit 0, ([.any, .any, .any, .any, .any], [(0, some (.seq true K K.n)), (0, none), (0, none)]))
noncomputable abbrev o2To (K : Cons) : Ex × Few := (.ret, ([.any, .any, .any, .any, .any], [(0, some (.seq false K (lk stopA K 0 K.n + 1))), (0, none), (0, none)]))
noncomputable def gTo : Nat → Few → T (Ex × Few)
  | n0, ([.lit (.func (.yield l) ⟨[]⟩ ⟨[]⟩), .ptr p1 q1, .ptr p2 q2, .lit (.int .i64 R'), .ki .i64 0], [(_, some (.seq true K 0)), (_, some (.cells [.lit (.int .i64 R), .lit (.int .i64 C)] t1)), (_, some (.cells [.row [.int .i64] m e] t2))]) =>
    .ask (lk PreTo n0 K R C m e ∧ K.l = l ∧ R' = R ∧ p1 = 1 ∧ q1 = 0 ∧ p2 = 2 ∧ q2 = 0 ∧ t1 = 82 ∧ t2 = 27) (.br (lk okB K 0 K.n) (.ret (o1To K)) (.ret (o2To K)))
  | _, _ => .stuck 1
noncomputable abbrev lTo : List (Nat × Loops) := [(79, [(4, .sum (few 44 [0,1,2,4,5,7,8] gTi)), (1, .sum (few 44 [0,1,2,7,8] gTo))])] --%K
noncomputable def sc110 : SConG := fun args => match args with
  | [([.lit (.int .i64 R), .lit (.int .i64 C)], t1), ([.row [.int .i64] m e], t2)] => .ask (lk TabAsk R C m e ∧ t1 = 82 ∧ t2 = 27) (.ret (lk Int.toNat R, lk rwE C m e))
  | _ => .stuck 1
end Go.RX.Span

/- Sparse domains: rows of a table: the walks. -/
set_option linter.unusedVariables false
set_option linter.unusedSimpArgs false
set_option maxRecDepth 100000
namespace Go.RX.Span
open Go Go.RX
attribute [local irreducible] sx conB

--%R \(\(SV\.lit \(Value\.int IntKind\.i64 j\), \[\]\)\.fst ::[\s\S]*?\.snd\)\.fst\) => [SV.lit (Value.int IntKind.i64 j), SV.row [Sh.int IntKind.i64] (lk tiN j C m e) (lk sbF1 j C e)])
--%R < ↑m => < ((m : Nat) : Int)
--%R ↑m ≤ ↑m => ((m : Nat) : Int) ≤ ((m : Nat) : Int)
set_option maxRecDepth 100000 in
theorem t_Ti (K : Cons) (i : Nat) (j r R C : Int) (m : Nat) (e : Nat → R1) (u : Bool) (N : Nat) (G : Nat → R1) : (sx E0 [] 3 (loopOf P 79 4) (mkS 44 [0,1,2,4,5,7,8] (slTi K R j r u N), memTi K i R C m e u N G)).bind (proj 44 [0,1,2,4,5,7,8]) =
    T.br (U.gt (Int.ofNat m) (0 : Int)) (.ask ((0 : Int) ≤ (0 : Int) ∧ (0 : Int) < ((m : Nat) : Int)) (.br (U.lt (e (U.toNat (0 : Int))).1 (U.mul .i64 (U.add .i64 r (1 : Int)) C)) (.ask
      ((0 : Int) ≤ (0 : Int) ∧ (0 : Int) < ((m : Nat) : Int)) (.ask ((N + (1 : Nat)) * nat_lit 8 ≤ nat_lit 140737488351232) (.ask ((0 : Int) ≤ (1 : Int) ∧ (1 : Int) ≤ ↑m ∧ ((m : Nat) :
      Int) ≤ ((m : Nat) : Int)) (.ret (Ex.normal, [.lit (Value.func (Fn.yield K.5) { toList := [] } { toList := [] }), SV.ptr (nat_lit 1) (nat_lit 0), SV.ptr (nat_lit 2) (nat_lit 0), .lit
      (.int .i64 r), SV.own false (nat_lit 5) (N.add (nat_lit 1)), .lit (.int .i64 R), .lit (.int .i64 j)], [(nat_lit 0, some (Blk.seq true K i)), (nat_lit 0, some (Blk.cells [.lit (.int
      .i64 R), .lit (.int .i64 C)] (nat_lit 82))), (nat_lit 1, some (Blk.cells [.row [.int .i64] (U.nsub m (U.toNat (1 : Int))) fun i => e (i + U.toNat (1 : Int))] (nat_lit 27))),
      (nat_lit 1, none), (nat_lit 0, some (Blk.cells [.lit (.int .i64 (U.sub .i64 (e (U.toNat (0 : Int))).1 (U.mul .i64 r C)))] (nat_lit 3))), (nat_lit 0, some (Blk.row false (N.add
      (nat_lit 1)) [.int .i64] (U.cat N G fun x => (U.sub .i64 (e (U.toNat (0 : Int))).1 (U.mul .i64 r C), PUnit.unit)) (nat_lit 3)))]))))) (.ret (Ex.exit (nat_lit 2), [.lit (Value.func
      (Fn.yield K.5) { toList := [] } { toList := [] }), SV.ptr (nat_lit 1) (nat_lit 0), SV.ptr (nat_lit 2) (nat_lit 0), .lit (.int .i64 r), SV.own u (nat_lit 3) N, .lit (.int .i64 R),
      .lit (.int .i64 j)], [(nat_lit 0, some (Blk.seq true K i)), (nat_lit 0, some (Blk.cells [.lit (.int .i64 R), .lit (.int .i64 C)] (nat_lit 82))), (nat_lit 0, some (Blk.cells [.row
      [.int .i64] m e] (nat_lit 27))), (nat_lit 0, some (Blk.row u N [.int .i64] G (nat_lit 3)))])))) (.ret (Ex.exit (nat_lit 2), [.lit (Value.func (Fn.yield K.5) { toList := [] } {
      toList := [] }), SV.ptr (nat_lit 1) (nat_lit 0), SV.ptr (nat_lit 2) (nat_lit 0), .lit (.int .i64 r), SV.own u (nat_lit 3) N, .lit (.int .i64 R), .lit (.int .i64 j)], [(nat_lit 0,
      some (Blk.seq true K i)), (nat_lit 0, some (Blk.cells [.lit (.int .i64 R), .lit (.int .i64 C)] (nat_lit 82))), (nat_lit 0, some (Blk.cells [.row [.int .i64] m e] (nat_lit 27))),
      (nat_lit 0, some (Blk.row u N [.int .i64] G (nat_lit 3)))])) := by kernel_rfl
set_option maxRecDepth 100000 in
theorem t_To (K : Cons) (i : Nat) (R C : Int) (m : Nat) (e : Nat → R1) (j : Int) : (sx E0 LTi 3 (loopOf P 79 1) (mkS 44 [0,1,2,7,8] (slTo K R j), memTo K i R C m e)).bind (proj 44 [0,1,2,7,8]) =
    T.br (U.lt j R) (.ask (lk PreTi (3 : Nat) j R C m e ∧ K.5 = K.5 ∧ R = R ∧ (1 : Nat) = (1 : Nat) ∧ (0 : Nat) = (0 : Nat) ∧ (2 : Nat) = (2 : Nat) ∧ (0 : Nat) = (0 : Nat) ∧ (82 :
      TypeId) = (82 : TypeId) ∧ (27 : TypeId) = (27 : TypeId)) (.ask (YldAskR E0.P K.5 K i [.lit (.int .i64 j), .row [.int .i64] (lk tiN j C m e) (lk sbF1 j C e)]) (.br (K.4 i) (.ret
      (Ex.normal, [.lit (Value.func (Fn.yield K.5) { toList := [] } { toList := [] }), SV.ptr (nat_lit 1) (nat_lit 0), SV.ptr (nat_lit 2) (nat_lit 0), .lit (.int .i64 R), .lit (.int .i64
      (U.add .i64 j (1 : Int)))], [(nat_lit 2, some (Blk.seq true K (i.add (nat_lit 1)))), (nat_lit 1, some (Blk.cells [.lit (.int .i64 R), .lit (.int .i64 C)] (nat_lit 82))), (nat_lit 1,
      some (Blk.cells [.row [.int .i64] (U.nsub m (lk tiN j C m e)) (lk shF (lk tiN j C m e) e)] (nat_lit 27))), (nat_lit 1, none)])) (.ret (Ex.ret, [.lit (Value.func (Fn.yield K.5) {
      toList := [] } { toList := [] }), SV.ptr (nat_lit 1) (nat_lit 0), SV.ptr (nat_lit 2) (nat_lit 0), .lit (.int .i64 R), .lit (.int .i64 j)], [(nat_lit 2, some (Blk.seq false K (i.add
      (nat_lit 1)))), (nat_lit 1, some (Blk.cells [.lit (.int .i64 R), .lit (.int .i64 C)] (nat_lit 82))), (nat_lit 1, some (Blk.cells [.row [.int .i64] (U.nsub m (lk tiN j C m e)) (lk
      shF (lk tiN j C m e) e)] (nat_lit 27))), (nat_lit 1, none)]))))) (.ret (Ex.exit (nat_lit 0), [.lit (Value.func (Fn.yield K.5) { toList := [] } { toList := [] }), SV.ptr (nat_lit 1)
      (nat_lit 0), SV.ptr (nat_lit 2) (nat_lit 0), .lit (.int .i64 R), .lit (.int .i64 j)], [(nat_lit 0, some (Blk.seq true K i)), (nat_lit 0, some (Blk.cells [.lit (.int .i64 R), .lit
      (.int .i64 C)] (nat_lit 82))), (nat_lit 0, some (Blk.cells [.row [.int .i64] m e] (nat_lit 27)))])) := by kernel_rfl
set_option maxRecDepth 100000 in
theorem t_110 (K : Cons) (R C : Int) (m : Nat) (e : Nat → R1) : scall P (conOf []) (loopsOf lTo) 10 79 [yieldV K, .ptr 1 0, .ptr 2 0] [(0, some (.seq true K 0)), (0, some (.cells [.lit (.int .i64 R), .lit (.int .i64 C)] 82)), (0, some (.cells [.row [.int .i64] m e] 27))] =
    T.ask (lk PreTo (nat_lit 3) K R C m e ∧ K.5 = K.5 ∧ R = R ∧ (1 : Nat) = (1 : Nat) ∧ (0 : Nat) = (0 : Nat) ∧ (2 : Nat) = (2 : Nat) ∧ (0 : Nat) = (0 : Nat) ∧ (82 : TypeId) = (82 :
      TypeId) ∧ (27 : TypeId) = (27 : TypeId)) (.br (lk okB K (nat_lit 0) K.2) (.ret (.tup [], [(nat_lit 1, some (Blk.seq true K K.2)), (nat_lit 1, none), (nat_lit 1, none)])) (.ret (.tup
      [], [(nat_lit 1, some (Blk.seq false K ((lk stopA K (nat_lit 0) K.2).add (nat_lit 1)))), (nat_lit 1, none), (nat_lit 1, none)]))) := by kernel_rfl
end Go.RX.Span

/- Sparse domains: rows of a table: what is yielded. -/
set_option linter.unusedVariables false
set_option linter.unusedSimpArgs false
set_option maxRecDepth 100000
namespace Go.RX.Span
open Go Go.RX
attribute [local irreducible] sx conB

theorem rc_bnd {r C : Int} (h0 : 0 ≤ r) (h1 : r ≤ 2000001) (c0 : 0 ≤ C) (c1 : C ≤ 2000001) : 0 ≤ r * C ∧ r * C ≤ 5000000000000 := by
  have a := Int.mul_nonneg h0 c0
  have b := Int.mul_le_mul h1 c1 c0 (by omega)
  omega
structure XTi where
  (K : Cons) (i : Nat) (R C j r : Int) (m : Nat) (e : Nat → R1) (c : Nat)
noncomputable abbrev VTi (q : XTi) : Few := (slTi q.K q.R q.j q.r (U.isz q.c) q.c, memTi q.K q.i q.R q.C (q.m - q.c) (shF q.c q.e) (U.isz q.c) q.c (sbF1 q.r q.C q.e))
noncomputable def OTi (q : XTi) : Ex × Few := (.exit 2, VTi { q with c := tiN q.r q.C q.m q.e })
def PhiTi (n0 : Nat) (q : XTi) : Prop := PreTi n0 q.r q.R q.C q.m q.e ∧ q.c ≤ tiN q.r q.C q.m q.e
theorem ren3 {ρ : Ren} (h0 : ρ.of 0 = some 0) (h1 : ρ.of 1 = some 1) (h2 : ρ.of 2 = some 2) : ∀ b, b < 3 → ρ.of b = some b := fun b hb => by
  rcases (show b = 0 ∨ b = 1 ∨ b = 2 by omega) with rfl | rfl | rfl
  · exact h0
  · exact h1
  · exact h2
theorem le3 {a b c d : Nat × Option Blk} : 3 ≤ [a, b, c, d].length := Nat.le_of_ble_eq_true rfl
theorem le3' {a b c : Nat × Option Blk} : 3 ≤ [a, b, c].length := Nat.le_of_ble_eq_true rfl
theorem slTi_rl {ρ : Ren} {K : Cons} {R j r : Int} {b b' : Nat} {u u' : Bool} {N N' : Nat} (h1 : ρ.of 1 = some 1) (h2 : ρ.of 2 = some 2) (hb : ρ.of b' = some b) (hu : u = u') (hN : N = N') :
    RlL ρ [.lit (.func (.yield K.l) #[] #[]), .ptr 1 0, .ptr 2 0, .lit (.int .i64 r), .own u b N, .lit (.int .i64 R), .lit (.int .i64 j)] [.lit (.func (.yield K.l) #[] #[]), .ptr 1 0, .ptr 2 0, .lit (.int .i64 r), .own u' b' N', .lit (.int .i64 R), .lit (.int .i64 j)] :=
  ⟨rfl, ⟨h1, rfl⟩, ⟨h2, rfl⟩, rfl, ⟨hu, hN, hb⟩, rfl, rfl, trivial⟩
theorem roundTi (n0 : Nat) (q : XTi) (hq : PhiTi n0 q) : ((sx E0 [] n0 (loopOf P 79 4) (mkS 44 [0,1,2,4,5,7,8] (VTi q).1, (VTi q).2)).bind (proj 44 [0,1,2,4,5,7,8])).All fun r => match r.1 with
      | .normal => ∃ q', PhiTi n0 q' ∧ q'.m - q'.c < q.m - q.c ∧ Wk 44 [0,1,2,4,5,7,8] n0 r.2 (VTi q') ∧ ∀ o, o = OTi q' → o = OTi q
      | e => ∃ s, (e, s) = OTi q ∧ Wk 44 [0,1,2,4,5,7,8] n0 r.2 s := by
  obtain ⟨K, i, R, C, j, r, m, e, c⟩ := q
  obtain ⟨hp, hc⟩ := hq
  have hp : PreTi n0 r R C m e := hp
  have hp' := hp
  have hc : c ≤ tiN r C m e := hc
  obtain ⟨h0, r0, r1, R0, R1', C0, C1, ha, hb⟩ := hp'
  obtain ⟨s1, s2, s3⟩ := bs_spec ha ((r + 1) * C)
  have hN : tiN r C m e = bsI m e ((r + 1) * C) := rfl
  have hm := ha.1
  obtain ⟨b1, b2⟩ := rc_bnd r0 (by omega) C0 C1
  obtain ⟨b3, b4⟩ := rc_bnd (r := r + 1) (by omega) (by omega) C0 C1
  have ea : U.add .i64 r 1 = r + 1 := U.add64 (by unfold I64; omega)
  have em : U.mul .i64 (r + 1) C = (r + 1) * C := U.mul64 (by unfold I64; omega)
  have em2 : U.mul .i64 r C = r * C := U.mul64 (by unfold I64; omega)
  have e0 : (shF c e 0).1 = nv e c := by show (e (0 + c)).1 = _; rw [Nat.zero_add]; rfl
  subst h0
  have eo : ∀ {rs : List SV} {mm : Mem}, Wk 44 [0,1,2,4,5,7,8] 3 (rs, mm) (VTi ⟨K, i, R, C, j, r, m, e, tiN r C m e⟩) → ∃ s, (Ex.exit 2, s) = OTi ⟨K, i, R, C, j, r, m, e, c⟩ ∧ Wk 44 [0,1,2,4,5,7,8] 3 (rs, mm) s := fun h => ⟨_, rfl, h⟩
  refine T.all_of_eq (t_Ti K i j r R C (m - c) (shF c e) (U.isz c) c (sbF1 r C e)) ?_
  have same : tiN r C m e = c → Wk 44 [0,1,2,4,5,7,8] 3 (slTi K R j r (U.isz c) c, memTi K i R C (m - c) (shF c e) (U.isz c) c (sbF1 r C e)) (VTi ⟨K, i, R, C, j, r, m, e, tiN r C m e⟩) := fun h => by
    rw [h]
    exact wk_of [some 0, some 1, some 2, some 3] rfl le3 (ren3 rfl rfl rfl) (slTi_rl rfl rfl rfl rfl rfl) ⟨⟨rfl, rfl, rfl, rfl, rfl⟩, ⟨rfl, rfl, rfl, trivial⟩, ⟨rfl, ⟨rfl, row1H fun _ _ => rfl⟩, trivial⟩, ⟨rfl, rfl, rfl, row1H fun _ _ => rfl⟩, trivial⟩
  have tn1' : U.toNat (1 : Int) = 1 := tn 1
  simp only [tn0, e0, ea, em, em2, Int.ofNat_eq_natCast, tn1', U.nsub_eq]
  refine ⟨fun g => ?_, fun g => ?_⟩
  · have g := U.gt_t.mp g
    have hcm : c < m := by omega
    refine ⟨⟨by omega, by omega⟩, fun g2 => ?_, fun g2 => ?_⟩
    · have g2 : nv e c < (r + 1) * C := U.lt_t.mp g2
      have hlt : c < tiN r C m e := by
        rcases Nat.lt_or_ge c (tiN r C m e) with h | h
        · exact h
        · have := s3 c (hN ▸ h) hcm; omega
      obtain ⟨v0, v1⟩ := hb c hcm
      have es : U.sub .i64 (nv e c) (r * C) = nv e c - r * C := U.sub64 (by unfold I64; omega)
      rw [es]
      refine ⟨⟨by omega, by omega⟩, by omega, ⟨by omega, by omega, by omega⟩, ⟨K, i, R, C, j, r, m, e, c + 1⟩, ⟨hp, hlt⟩, (show m - (c + 1) < m - c by omega), ?_, fun o ho => ho⟩
      refine wk_of [some 0, some 1, some 2, some 5] rfl le3 (ren3 rfl rfl rfl) (slTi_rl rfl rfl rfl (isz_s c).symm rfl) ⟨⟨rfl, rfl, rfl, rfl, rfl⟩, ⟨rfl, rfl, rfl, trivial⟩, ⟨rfl, ⟨?_, row1H fun t _ => ?_⟩, trivial⟩, ⟨rfl, (isz_s c).symm, rfl, row1H fun t ht => ?_⟩, trivial⟩
      · show m - c - 1 = m - (c + 1); omega
      · show e (t + 1 + c) = e (t + (c + 1))
        rw [show t + 1 + c = t + (c + 1) by omega]
      · refine (U.cat_eq _ _ _ _).trans ?_
        have ht : t < c + 1 := ht
        by_cases ht' : t < c
        · exact if_pos ht'
        · obtain rfl : t = c := by omega
          exact if_neg ht'
    · have g2 : (r + 1) * C ≤ nv e c := U.lt_f.mp g2
      have h : tiN r C m e = c := by
        rcases Nat.lt_or_ge c (tiN r C m e) with h | h
        · have := s2 c (hN ▸ h); omega
        · omega
      exact eo (same h)
  · have g := U.gt_f.mp g
    exact eo (same (by omega))
theorem loopTi : LoopOK P (loopOf P 79 4) (few 44 [0,1,2,4,5,7,8] gTi) :=
  loop_few (E := E0) mixed E0_ok loopsOK_none 44 [0,1,2,4,5,7,8] (X := XTi) gTi (fun _ x => VTi x) PhiTi (fun q => q.m - q.c) (fun _ x o => o = OTi x)
    (fun n0 st r h => by
      unfold gTi at h
      split at h
      · rename_i n0 l p1 q1 p2 q2 r R' j e0 K i e1 R C t1 e2 m e t2 rest
        obtain ⟨hp, rfl, rfl, rfl, rfl, rfl, rfl, rfl, rfl⟩ := (T.is_ask h).1
        obtain rfl := T.is_ret (T.is_ask h).2
        rw [lk_eq] at hp
        have h0 := hp.1
        have zi : U.isz 0 = true := by rw [U.isz_eq]; rfl
        subst h0
        refine ⟨⟨K, i, R', C, j, r, m, e, 0⟩, ⟨hp, Nat.zero_le _⟩, ?_, fun o ho => ?_⟩
        · exact wk_of [some 0, some 1, some 2, none] rfl le3 (ren3 rfl rfl rfl) ⟨rfl, ⟨rfl, rfl⟩, ⟨rfl, rfl⟩, rfl, ⟨rfl, zi, rfl⟩, rfl, rfl, trivial⟩ ⟨⟨rfl, rfl, rfl, rfl, rfl⟩, ⟨rfl, rfl, rfl, trivial⟩, ⟨rfl, ⟨rfl, row1H fun _ _ => rfl⟩, trivial⟩, ⟨zi, rfl⟩, trivial⟩
        · rw [ho]
          simp only [lk_eq, U.nsub_eq]; rfl
      · exact h.elim)
    roundTi
theorem LTi_ok : LoopsOK P LTi (bodyOf P 79) := loopsOK_of (by kernel_rfl) fun k g hk => by
  simp only [List.mem_singleton, Prod.mk.injEq, LoopC.sum.injEq] at hk
  obtain ⟨rfl, rfl⟩ := hk
  exact loopTi
theorem LTi_sub : LoopsOK P LTi (loopOf P 79 1) := LTi_ok.sub (fun l hl => by
  rw [show loopsIn (bodyOf P 79) = loopOf P 79 1 :: loopsIn (loopOf P 79 1) by kernel_rfl]
  exact List.mem_cons_of_mem _ hl) fun l hl => by
  rw [show rangesIn (loopOf P 79 1) = [] by kernel_rfl] at hl; cases hl
end Go.RX.Span

/- Sparse domains: rows of a table: all rows. -/
set_option linter.unusedVariables false
set_option linter.unusedSimpArgs false
set_option maxRecDepth 100000
namespace Go.RX.Span
open Go Go.RX
attribute [local irreducible] sx conB

section
variable {C : Int} {m : Nat} {e : Nat → R1}
theorem rwP_0 (h : AscR m e) : rwP C m e 0 = 0 := by
  unfold rwP
  rw [show ((0 : Nat) : Int) * C = 0 from Int.zero_mul C]
  exact bsI_of (Nat.zero_le _) (fun i hi => absurd hi (Nat.not_lt_zero i)) fun i _ hi => (h.2 i hi).1
theorem rwP_le (h : AscR m e) (r : Nat) : rwP C m e r ≤ m := (bs_spec h.1 _).1
theorem rwP_mono (h : AscR m e) (hC : 0 ≤ C) (r : Nat) : rwP C m e r ≤ rwP C m e (r + 1) := by
  unfold rwP
  obtain ⟨a1, a2, a3⟩ := bs_spec h.1 ((r : Int) * C)
  obtain ⟨b1, b2, b3⟩ := bs_spec h.1 (((r + 1 : Nat) : Int) * C)
  rcases Nat.lt_or_ge (bsI m e (((r + 1 : Nat) : Int) * C)) (bsI m e ((r : Int) * C)) with g | g
  · have x := a2 _ g
    have y := b3 _ (Nat.le_refl _) (by omega)
    have z : ((r + 1 : Nat) : Int) * C = (r : Int) * C + C := by rw [Int.natCast_add, Int.add_mul]; simp
    omega
  · exact g
theorem asc_sh (h : AscR m e) {p : Nat} (hp : p ≤ m) : AscR (m - p) (shF p e) := by
  obtain ⟨⟨h1, h2⟩, h3⟩ := h
  exact ⟨⟨by omega, fun i j hij hj => h2 (i + p) (j + p) (by omega) (by omega)⟩, fun i hi => h3 (i + p) (by omega)⟩
theorem ti_eq (h : AscR m e) (hC : 0 ≤ C) (r : Nat) : tiN r C (m - rwP C m e r) (shF (rwP C m e r) e) = rwP C m e (r + 1) - rwP C m e r := by
  have hm := rwP_mono h hC r
  obtain ⟨b1, b2, b3⟩ := bs_spec h.1 (((r + 1 : Nat) : Int) * C)
  have hp : rwP C m e (r + 1) = bsI m e (((r + 1 : Nat) : Int) * C) := rfl
  generalize rwP C m e r = p at *
  unfold tiN
  rw [show ((r : Int) + 1) * C = ((r + 1 : Nat) : Int) * C by rw [Int.natCast_add]; rfl]
  refine bsI_of (by omega) (fun i hi => ?_) fun i h1 h2 => ?_
  · exact b2 (i + p) (by omega)
  · exact b3 (i + p) (by omega) (by omega)
theorem rwC_len (r : Nat) : (rwC C m e r).length = rwP C m e (r + 1) - rwP C m e r := by unfold rwC; simp
theorem rwC_get (r : Nat) {j : Nat} (h : j < (rwC C m e r).length) : (rwC C m e r)[j] = nv e (rwP C m e r + j) - r * C := (List.getElem_map _).trans (congrArg (fun t : Nat => nv e (rwP C m e r + t) - r * C) (List.getElem_range _))
theorem same_row (h : AscR m e) (hC : 0 ≤ C) (r : Nat) : SameEls [SV.lit (Value.int IntKind.i64 (r : Int)), SV.row [Sh.int IntKind.i64] (tiN r C (m - rwP C m e r) (shF (rwP C m e r) e)) (sbF1 r C (shF (rwP C m e r) e))] (rwE C m e r) := by
  refine ⟨⟨rfl, rfl⟩, ⟨rfl, ?_, fun j hj => ?_⟩, trivial⟩
  · rw [ti_eq h hC, U.asz_eq]; simp [rwC_len]
  · rw [ti_eq h hC] at hj
    have hj2 : j < (rwC C m e r).length := by rw [rwC_len]; exact hj
    have e1 : (((rwC C m e r).map (Value.int .i64)).toArray)[j]? = some (.int .i64 ((rwC C m e r)[j])) := by simp [hj2]
    show ((nv (shF (rwP C m e r) e) j - r * C : Int), ()) = (U.asp _ j, ())
    rw [U.asp_eq, e1]
    have e2 : (rwC C m e r)[j] = nv e (rwP C m e r + j) - r * C := rwC_get r hj2
    show _ = ((rwC C m e r)[j], ())
    rw [e2, Nat.add_comm]; rfl
end
structure XTo where
  (K : Cons) (R C : Int) (m : Nat) (e : Nat → R1) (j : Nat)
noncomputable abbrev VTo (q : XTo) : Few := (slTo q.K q.R q.j, memTo q.K q.j q.R q.C (q.m - rwP q.C q.m q.e q.j) (shF (rwP q.C q.m q.e q.j) q.e))
def PhiTo (n0 : Nat) (q : XTo) : Prop := PreTo n0 q.K q.R q.C q.m q.e ∧ q.j ≤ q.K.n ∧ ∀ i, i < q.j → q.K.ans i = true
def ZTo (q : XTo) (o : Ex × Few) : Prop := (okB q.K 0 q.K.n = true → o = o1To q.K) ∧ (okB q.K 0 q.K.n = false → o = o2To q.K)
theorem slTo_rl {ρ : Ren} {K : Cons} {R j : Int} (h1 : ρ.of 1 = some 1) (h2 : ρ.of 2 = some 2) : RlL ρ (slTo K R j) (slTo K R j) := ⟨rfl, ⟨h1, rfl⟩, ⟨h2, rfl⟩, rfl, rfl, trivial⟩
theorem any5 {ρ : Ren} {a b c d e : SV} : RlL ρ [a, b, c, d, e] [.any, .any, .any, .any, .any] := ⟨rl_any _, rl_any _, rl_any _, rl_any _, rl_any _, trivial⟩
theorem roundTo (n0 : Nat) (q : XTo) (hq : PhiTo n0 q) : ((sx E0 LTi n0 (loopOf P 79 1) (mkS 44 [0,1,2,7,8] (VTo q).1, (VTo q).2)).bind (proj 44 [0,1,2,7,8])).All fun r => match r.1 with
      | .normal => ∃ q', PhiTo n0 q' ∧ q'.K.n - q'.j < q.K.n - q.j ∧ Wk 44 [0,1,2,7,8] n0 r.2 (VTo q') ∧ ∀ o, ZTo q' o → ZTo q o
      | e => ∃ s, ZTo q (e, s) ∧ Wk 44 [0,1,2,7,8] n0 r.2 s := by
  obtain ⟨K, R, C, m, e, j⟩ := q
  obtain ⟨hp, hj, hans⟩ := hq
  have hp : PreTo n0 K R C m e := hp
  have hj : j ≤ K.n := hj
  have hans : ∀ i, i < j → K.ans i = true := hans
  obtain ⟨h0, hP, ⟨R0, R1', C0, C1, ha⟩, hn, hel⟩ := hp
  subst h0
  have hle := rwP_le (C := C) ha j
  refine T.all_of_eq (t_To K j R C (m - rwP C m e j) (shF (rwP C m e j) e) (j : Int)) ?_
  by_cases hlt : (j : Int) < R
  · have hjn : j < K.n := by omega
    have e2 : U.add .i64 (j : Int) 1 = ((j + 1 : Nat) : Int) := by rw [U.add64 (by unfold I64; omega)]; omega
    have et := ti_eq ha C0 j
    have hmo := rwP_mono ha C0 j
    have hle1 := rwP_le (C := C) ha (j + 1)
    rw [e2]
    simp only [lk_eq, U.nsub_eq]
    refine ⟨fun _ => ⟨⟨⟨rfl, by omega, hlt, R0, R1', C0, C1, asc_sh ha hle⟩, trivial, trivial, trivial, trivial, trivial, trivial, trivial, trivial⟩, ⟨hP, rfl, hjn, ?_⟩, fun hy => ?_, fun hy => ?_⟩, fun h => absurd (U.lt_f.mp h) (by omega)⟩
    · rw [hel]; exact same_row ha C0 j
    · refine ⟨⟨K, R, C, m, e, j + 1⟩, ⟨⟨rfl, hP, ⟨R0, R1', C0, C1, ha⟩, hn, hel⟩, hjn, fun i hi => ?_⟩, (show K.n - (j + 1) < K.n - j by omega), ?_, fun o ho => ho⟩
      · by_cases e : i = j
        · subst e; exact hy
        · have hi' : i < j + 1 := hi
          exact hans i (by omega)
      · refine wk_of [some 0, some 1, some 2] rfl le3' (ren3 rfl rfl rfl) (slTo_rl rfl rfl) ⟨⟨rfl, rfl, rfl, rfl, rfl⟩, ⟨rfl, rfl, rfl, trivial⟩, ⟨rfl, ⟨?_, row1H fun t _ => ?_⟩, trivial⟩, trivial⟩
        · show m - rwP C m e j - tiN j C (m - rwP C m e j) (shF (rwP C m e j) e) = m - rwP C m e (j + 1)
          rw [et]; omega
        · show e (t + tiN j C (m - rwP C m e j) (shF (rwP C m e j) e) + rwP C m e j) = e (t + rwP C m e (j + 1))
          rw [et]
          exact congrArg e (by omega)
    · have hs0 : stopA K 0 K.n = j := stopA_eq hjn (by rw [Nat.zero_add]; exact hy) (fun i hi => by rw [Nat.zero_add]; exact hans i hi)
      refine ⟨(o2To K).2, ⟨fun h => ?_, fun _ => rfl⟩, ?_⟩
      · have h : okB K 0 K.n = true := h
        rw [okB_f hjn (by rw [Nat.zero_add]; exact hy)] at h; cases h
      · exact wk_of [some 0, some 1, some 2] rfl le3' (ren3 rfl rfl rfl) any5 ⟨⟨rfl, rfl, rfl, rfl, by rw [lk_eq, hs0]⟩, trivial⟩
  · have hjn : j = K.n := by omega
    refine ⟨fun h => absurd (U.lt_t.mp h) hlt, fun _ => ⟨(o1To K).2, ⟨fun _ => rfl, fun h => ?_⟩, ?_⟩⟩
    · have hall : okB K 0 K.n = true := okB_t.2 fun i hi => by rw [Nat.zero_add]; exact hans i (hjn ▸ hi)
      exact absurd (hall.symm.trans h) (by decide)
    · exact wk_of [some 0, some 1, some 2] rfl le3' (ren3 rfl rfl rfl) any5 ⟨⟨rfl, rfl, rfl, rfl, hjn⟩, trivial⟩
theorem loopTo : LoopOK P (loopOf P 79 1) (few 44 [0,1,2,7,8] gTo) :=
  loop_few (E := E0) mixed E0_ok LTi_sub 44 [0,1,2,7,8] (X := XTo) gTo (fun _ x => VTo x) PhiTo (fun q => q.K.n - q.j) (fun _ x o => ZTo x o)
    (fun n0 st r h => by
      unfold gTo at h
      split at h
      · rename_i n0 l p1 q1 p2 q2 R' e0 K e1 R C t1 e2 m e t2
        obtain ⟨hp, rfl, rfl, rfl, rfl, rfl, rfl, rfl, rfl⟩ := (T.is_ask h).1
        have hb := (T.is_ask h).2
        rw [lk_eq] at hp
        have h0 := hp.1
        subst h0
        have ha : AscR m e := hp.2.2.1.2.2.2.2
        have ph : PhiTo 3 ⟨K, R', C, m, e, 0⟩ := ⟨hp, Nat.zero_le _, fun i hi => absurd hi (Nat.not_lt_zero i)⟩
        have z : rwP C m e 0 = 0 := rwP_0 ha
        have en : Wk 44 [0,1,2,7,8] 3 ([.lit (.func (.yield K.l) #[] #[]), .ptr 1 0, .ptr 2 0, .lit (.int .i64 R'), .ki .i64 0], [(e0, some (.seq true K 0)), (e1, some (.cells [.lit (.int .i64 R'), .lit (.int .i64 C)] 82)), (e2, some (.cells [.row [.int .i64] m e] 27))]) (VTo ⟨K, R', C, m, e, 0⟩) := by
          show Wk _ _ _ _ (slTo K R' ((0 : Nat) : Int), memTo K 0 R' C (m - rwP C m e 0) (shF (rwP C m e 0) e))
          rw [z]
          exact wk_of [some 0, some 1, some 2] rfl le3' (ren3 rfl rfl rfl) ⟨rfl, ⟨rfl, rfl⟩, ⟨rfl, rfl⟩, rfl, rfl, trivial⟩ ⟨⟨rfl, rfl, rfl, rfl, rfl⟩, ⟨rfl, rfl, rfl, trivial⟩, ⟨rfl, ⟨rfl, row1H fun _ _ => rfl⟩, trivial⟩, trivial⟩
        rcases hb with ⟨he, hb⟩ | ⟨he, hb⟩
        · rw [lk_eq] at he
          obtain rfl := T.is_ret hb
          exact ⟨_, ph, en, fun o ho => ho.1 he⟩
        · rw [lk_eq] at he
          obtain rfl := T.is_ret hb
          exact ⟨_, ph, en, fun o ho => ho.2 he⟩
      · exact h.elim)
    roundTo
theorem lTo_ok : ∀ p ∈ lTo, LoopsOK P p.2 (bodyOf P p.1) := by
  intro p hp
  simp only [lTo, List.mem_singleton] at hp
  subst hp
  refine loopsOK_of (by kernel_rfl) fun k g hk => ?_
  simp only [List.mem_cons, List.not_mem_nil, or_false, Prod.mk.injEq, LoopC.sum.injEq] at hk
  rcases hk with ⟨rfl, rfl⟩ | ⟨rfl, rfl⟩
  · exact loopTi
  · exact loopTo
theorem sc110_ok : SConGOK P 79 sc110 := scon_ofG (allOKL mixed none_ok lTo_ok) 10 79 fun args q h K hK hn hel => by
  unfold sc110 at h
  split at h
  · rename_i R C t1 m e t2
    obtain ⟨ha, rfl, rfl⟩ := (T.is_ask h).1
    obtain rfl := T.is_ret (T.is_ask h).2
    simp only [lk_eq] at ha hn hel
    refine T.all_of_eq (t_110 K R C m e) ?_
    simp only [lk_eq]
    exact ⟨⟨⟨rfl, hK, ha, hn, hel⟩, trivial, trivial, trivial, trivial, trivial, trivial, trivial, trivial⟩, fun _ => .inl rfl, fun _ => .inr ⟨_, rfl⟩⟩
  · exact h.elim
end Go.RX.Span

/- Sparse domains: by rows: what it calls. -/
set_option linter.unusedVariables false
set_option linter.unusedSimpArgs false
set_option maxRecDepth 100000
namespace Go.RX.Span
open Go Go.RX
attribute [local irreducible] sx conB

noncomputable abbrev kBr : List (Nat × Con) := [(24, c_SpCheck), (33, c_SpCheck), (78, c_Size), (20, c_Size)] --%K
theorem kBr_ok : ∀ p ∈ kBr, ConOK P p.1 p.2 := by
  intro p hp
  simp only [kBr, List.mem_cons, List.not_mem_nil, or_false] at hp
  rcases hp with rfl | rfl | rfl | rfl
  · exact SpCheck_ok
  · exact SpQCheck_ok
  · exact Size_ok
  · exact rSize_ok
noncomputable abbrev EBr : Env := ⟨P, conOf kBr, scall P (conOf kBr) noLoops 10⟩
theorem EBr_ok : EnvOK EBr := envOK (allOK mixed kBr_ok) 10
noncomputable abbrev cdBr : Code := rangeOf P 22 1009 --%K
noncomputable abbrev asBr : Code := match rangeOf P 22 1009 with | .rangeFunc _ _ a _ => a | _ => .skip --%K
noncomputable abbrev bdBr : Code := match rangeOf P 22 1009 with | .rangeFunc _ _ _ b => b | _ => .skip --%K
noncomputable abbrev slBr : List SV := [.ptr 0 0, .any, .ptr 2 0]
noncomputable abbrev memB0 (u : Bool) (N : Nat) (G : Nat → R1) : Mem := [(0, some (.cells [.lit (.slice none 0 0), .lit (.slice none 0 0)] 53)), (0, some (.cells [.lit (.int .i64 0)] 3)), (0, some (.cells [.csl 1 0 1 [.int .i64], .own u 3 N] 53)), (0, some (.row u N [.int .i64] G 3)), (0, none)]
noncomputable abbrev memB1 (u : Bool) (N : Nat) (G : Nat → R1) (S : Nat) (H : Nat → R1) : Mem := [(0, some (.cells [.lit (.slice none 0 0), .lit (.slice none 0 0)] 53)), (0, none), (0, some (.cells [.own false 4 S, .own u 3 N] 53)), (0, some (.row u N [.int .i64] G 3)), (0, some (.row false S [.int .i64] H 3))]
/-- The starts of rows, the columns. -/
def stF (C : Int) (m : Nat) (e : Nat → R1) (j : Nat) : R1 := (((rwP C m e j : Nat) : Int), ())
def coF (C : Int) (e : Nat → R1) (t : Nat) : R1 := (nv e t % C, ())
def PreBr (n0 : Nat) (R C : Int) (m : Nat) (e : Nat → R1) (c : Nat) (el : Nat → List Value) : Prop := n0 = 0 ∧ TabAsk R C m e ∧ c = R.toNat ∧ el = rwE C m e ∧ rwP C m e c = m
noncomputable abbrev padB : Mem := [(0, none), (0, none), (0, none), (0, none)]
noncomputable def gBr : Nat → Nat → (Nat → List Value) → Few → T (Ex × Few)
  | n0, c, el, ([.ptr p1 q1, _, .ptr p6 q6], (_, some (.cells [_, _, _, _, .row [.int .i64] m e] _)) :: (_, some (.cells [.lit (.slice none 0 0), .lit (.slice none 0 0)] t1)) :: _ :: _ :: (_, some (.cells [.lit (.int .i64 R), .lit (.int .i64 C)] _)) :: (_, some (.cells [.ki .i64 0] t5)) :: (_, some (.cells [.csl b5 o5 c5 _, .lit (.slice none 0 0)] t6)) :: _) =>
    .ask (lk PreBr n0 R C m e c el ∧ p1 = 1 ∧ q1 = 0 ∧ p6 = 6 ∧ q6 = 0 ∧ b5 = 5 ∧ o5 = 0 ∧ c5 = 1 ∧ t1 = 53 ∧ t5 = 3 ∧ t6 = 53)
      (.br (U.isz c) (.ret (.normal, (slBr, memB0 true 0 (lk coF C e) ++ padB))) (.ret (.normal, (slBr, memB1 (U.isz m) m (lk coF C e) (c + 1) (lk stF C m e) ++ padB))))
  | _, _, _, _ => .stuck 1
noncomputable abbrev lBr : List (Nat × Loops) := [(22, [(1009, .rngG 79 sc110 (rfew 47 [2,3,7] gBr))])] --%K
end Go.RX.Span

/- Sparse domains: by rows: the walks. -/
set_option linter.unusedVariables false
set_option linter.unusedSimpArgs false
set_option maxRecDepth 100000
namespace Go.RX.Span
open Go Go.RX
attribute [local irreducible] sx conB

--%R < ↑n\b => < ((n : Nat) : Int)
set_option maxRecDepth 100000 in
theorem t_B0 (u : Bool) (N : Nat) (G : Nat → R1) (r : Int) (us : Array Value) : (sxR EBr [] 5 #[31, 32] asBr bdBr [.int .i64 r, .tuple us] (mkS 47 [2,3,7] slBr, memB0 u N G)).bind (fun r => .ret (r.1, r.2.2)) =
    T.ask ((N + U.asz us) * nat_lit 8 ≤ nat_lit 140737488351232) (.ask ((0 : Nat) < (1 : Nat) ∧ ((1 : Nat) + (1 : Nat)) * nat_lit 8 ≤ nat_lit 140737488351232) (.ret (Ex.normal,
      [(nat_lit 0, some (Blk.cells [.lit (.slice none (nat_lit 0) (nat_lit 0)), .lit (.slice none (nat_lit 0) (nat_lit 0))] (nat_lit 53))), (nat_lit 0, some (Blk.cells [.lit (.int .i64
      0)] (nat_lit 3))), (nat_lit 2, some (Blk.cells [SV.own false (nat_lit 7) (nat_lit 2), SV.own (U.andb u (U.isz (U.asz us))) (nat_lit 5) (N + U.asz us)] (nat_lit 53))), (nat_lit 1,
      none), (nat_lit 0, none), (nat_lit 0, some (Blk.row (U.andb u (U.isz (U.asz us))) (N + U.asz us) [.int .i64] (U.cat N G fun i => (U.asp us i, PUnit.unit)) (nat_lit 3))), (nat_lit 0,
      some (Blk.cells [.lit (.int .i64 (Int.ofNat (N + U.asz us)))] (nat_lit 3))), (nat_lit 0, some (Blk.row false (nat_lit 2) [.int .i64] (U.cat (nat_lit 1) (fun x => ((0 : Int),
      PUnit.unit)) fun x => (Int.ofNat (N + U.asz us), PUnit.unit)) (nat_lit 3)))]))) := by kernel_rfl
set_option maxRecDepth 100000 in
theorem t_B1 (u : Bool) (N : Nat) (G : Nat → R1) (S : Nat) (H : Nat → R1) (r : Int) (us : Array Value) : (sxR EBr [] 5 #[31, 32] asBr bdBr [.int .i64 r, .tuple us] (mkS 47 [2,3,7] slBr, memB1 u N G S H)).bind (fun r => .ret (r.1, r.2.2)) =
    T.ask ((N + U.asz us) * nat_lit 8 ≤ nat_lit 140737488351232) (.ask ((S + (1 : Nat)) * nat_lit 8 ≤ nat_lit 140737488351232) (.ret (Ex.normal, [(nat_lit 0, some (Blk.cells [.lit
      (.slice none (nat_lit 0) (nat_lit 0)), .lit (.slice none (nat_lit 0) (nat_lit 0))] (nat_lit 53))), (nat_lit 0, none), (nat_lit 2, some (Blk.cells [SV.own false (nat_lit 7) (S.add
      (nat_lit 1)), SV.own (U.andb u (U.isz (U.asz us))) (nat_lit 5) (N + U.asz us)] (nat_lit 53))), (nat_lit 1, none), (nat_lit 1, none), (nat_lit 0, some (Blk.row (U.andb u (U.isz
      (U.asz us))) (N + U.asz us) [.int .i64] (U.cat N G fun i => (U.asp us i, PUnit.unit)) (nat_lit 3))), (nat_lit 0, some (Blk.cells [.lit (.int .i64 (Int.ofNat (N + U.asz us)))]
      (nat_lit 3))), (nat_lit 0, some (Blk.row false (S.add (nat_lit 1)) [.int .i64] (U.cat S H fun x => (Int.ofNat (N + U.asz us), PUnit.unit)) (nat_lit 3)))]))) := by kernel_rfl
set_option maxRecDepth 100000 in
theorem t_ByR (n : Nat) (f : Nat → R3) (k s h : Int) (m : Nat) (e : Nat → R1) : conB Go.Proofs.Tryz.prog (conOf kBr) (loopsOf lBr) 10 22 [.agg [.row [.int .i64, .int .i64, .int .i64] n f, .lit (.int .i64 k), .lit (.int .i64 s), .lit (.int .i64 h), .row [.int .i64] m e]] =
    T.ask (Row64 n f) (.br (U.ne (lk spE n f k s h m e) (0 : Int)) (.ret (.tup [.agg [.lit (.slice none (nat_lit 0) (nat_lit 0)), .lit (.slice none (nat_lit 0) (nat_lit 0))], .lit (.int
      .i64 (lk spE n f k s h m e))])) (.br (U.ne (Int.ofNat n) (2 : Int)) (.ret (.tup [.agg [.lit (.slice none (nat_lit 0) (nat_lit 0)), .lit (.slice none (nat_lit 0) (nat_lit 0))], .lit
      (.int .i64 50)])) (.ask ((0 : Int) ≤ (0 : Int) ∧ (0 : Int) < ((n : Nat) : Int)) (.ask (I64 (f (U.toNat (0 : Int))).1 ∧ I64 (f (U.toNat (0 : Int))).2.1 ∧ I64 (f (U.toNat (0 :
      Int))).2.2.1) (.ask ((0 : Int) ≤ (1 : Int) ∧ (1 : Int) < ((n : Nat) : Int)) (.ask (I64 (f (U.toNat (1 : Int))).1 ∧ I64 (f (U.toNat (1 : Int))).2.1 ∧ I64 (f (U.toNat (1 :
      Int))).2.2.1) (.ask (lk TabAsk (lk size (f (U.toNat (0 : Int))).1 (f (U.toNat (0 : Int))).2.1 (f (U.toNat (0 : Int))).2.2.1) (lk size (f (U.toNat (1 : Int))).1 (f (U.toNat (1 :
      Int))).2.1 (f (U.toNat (1 : Int))).2.2.1) m e ∧ (82 : Nat) = (82 : TypeId) ∧ (27 : Nat) = (27 : TypeId)) (.ask (lk PreBr (nat_lit 0) (lk size (f (U.toNat (0 : Int))).1 (f (U.toNat
      (0 : Int))).2.1 (f (U.toNat (0 : Int))).2.2.1) (lk size (f (U.toNat (1 : Int))).1 (f (U.toNat (1 : Int))).2.1 (f (U.toNat (1 : Int))).2.2.1) m e (lk Int.toNat (lk size (f (U.toNat
      (0 : Int))).1 (f (U.toNat (0 : Int))).2.1 (f (U.toNat (0 : Int))).2.2.1)) (lk Int.toNat (lk size (f (U.toNat (0 : Int))).1 (f (U.toNat (0 : Int))).2.1 (f (U.toNat (0 :
      Int))).2.2.1), lk rwE (lk size (f (U.toNat (1 : Int))).1 (f (U.toNat (1 : Int))).2.1 (f (U.toNat (1 : Int))).2.2.1) m e).snd ∧ (1 : Nat) = (1 : Nat) ∧ (0 : Nat) = (0 : Nat) ∧ (6 :
      Nat) = (6 : Nat) ∧ (0 : Nat) = (0 : Nat) ∧ (5 : Nat) = (5 : Nat) ∧ (0 : Nat) = (0 : Nat) ∧ (1 : Nat) = (1 : Nat) ∧ (53 : Nat) = (53 : TypeId) ∧ (3 : Nat) = (3 : TypeId) ∧ (53 : Nat)
      = (53 : TypeId)) (.br (U.isz (lk Int.toNat (lk size (f (U.toNat (0 : Int))).1 (f (U.toNat (0 : Int))).2.1 (f (U.toNat (0 : Int))).2.2.1))) (.ret (.tup [.agg [.row [.int .i64]
      (nat_lit 1) fun x => ((0 : Int), PUnit.unit), .row [.int .i64] (nat_lit 0) (lk coF (lk size (f (U.toNat (1 : Int))).1 (f (U.toNat (1 : Int))).2.1 (f (U.toNat (1 : Int))).2.2.1) e)],
      .lit (.int .i64 0)])) (.ret (.tup [.agg [.row [.int .i64] ((lk Int.toNat (lk size (f (U.toNat (0 : Int))).1 (f (U.toNat (0 : Int))).2.1 (f (U.toNat (0 : Int))).2.2.1)).add (nat_lit
      1)) (lk stF (lk size (f (U.toNat (1 : Int))).1 (f (U.toNat (1 : Int))).2.1 (f (U.toNat (1 : Int))).2.2.1) m e), .row [.int .i64] m (lk coF (lk size (f (U.toNat (1 : Int))).1 (f
      (U.toNat (1 : Int))).2.1 (f (U.toNat (1 : Int))).2.2.1) e)], .lit (.int .i64 0)]))))))))))) := by kernel_rfl
end Go.RX.Span

/- Sparse domains: by rows. -/
set_option linter.unusedVariables false
set_option linter.unusedSimpArgs false
set_option maxRecDepth 100000
namespace Go.RX.Span
open Go Go.RX
attribute [local irreducible] sx conB

theorem isz_add (a b : Nat) : U.andb (U.isz a) (U.isz b) = U.isz (a + b) := by
  rw [U.andb_eq, U.isz_eq, U.isz_eq, U.isz_eq]
  cases a <;> cases b <;> simp
section
variable {C : Int} {m : Nat} {e : Nat → R1}
/-- A number of row r. -/
theorem co_is (h : AscR m e) (hC : 0 ≤ C) {r t : Nat} (h1 : rwP C m e r ≤ t) (h2 : t < rwP C m e (r + 1)) : coF C e t = (nv e t - r * C, ()) := by
  obtain ⟨a1, a2, a3⟩ := bs_spec h.1 ((r : Int) * C)
  obtain ⟨b1, b2, b3⟩ := bs_spec h.1 (((r + 1 : Nat) : Int) * C)
  have hm := rwP_le (C := C) h (r + 1)
  have x := a3 t h1 (by omega)
  have y := b2 t h2
  have z : ((r + 1 : Nat) : Int) * C = (r : Int) * C + C := by rw [Int.natCast_add, Int.add_mul]; simp
  have ed : nv e t = (nv e t - r * C) + C * r := by rw [Int.mul_comm C]; omega
  have e3 : (nv e t - r * C) % C = nv e t - r * C := Int.emod_eq_of_lt (by omega) (by omega)
  have e4 : ((nv e t - r * C) + C * r) % C = nv e t - r * C := by rw [Int.add_mul_emod_self_left]; exact e3
  have e5 : nv e t % C = nv e t - r * C := by rw [← ed] at e4; exact e4
  exact congrArg (fun x : Int => ((x, ()) : R1)) e5
end
structure XBr where
  (R C : Int) (m : Nat) (e : Nat → R1) (c : Nat) (el : Nat → List Value)
noncomputable abbrev MBr (q : XBr) : Nat → Mem
  | 0 => memB0 true 0 (coF q.C q.e)
  | j + 1 => memB1 (U.isz (rwP q.C q.m q.e (j + 1))) (rwP q.C q.m q.e (j + 1)) (coF q.C q.e) (j + 1 + 1) (stF q.C q.m q.e)
def PhiBr (n0 : Nat) (q : XBr) : Prop := PreBr n0 q.R q.C q.m q.e q.c q.el
noncomputable def OBr (q : XBr) : Ex × Few := (.normal, (slBr, MBr q q.c ++ padB))
theorem slBr_rl {ρ : Ren} (h0 : ρ.of 0 = some 0) (h2 : ρ.of 2 = some 2) : RlL ρ slBr slBr := ⟨⟨h0, rfl⟩, rl_any _, ⟨h2, rfl⟩, trivial⟩
theorem nilc_rl {ρ : Ren} : RlL ρ [.lit (.slice none 0 0), .lit (.slice none 0 0)] [.lit (.slice none 0 0), .lit (.slice none 0 0)] := ⟨rfl, rfl, trivial⟩
theorem asz_row (C : Int) (m : Nat) (e : Nat → R1) (j : Nat) : U.asz ((rwC C m e j).map (Value.int .i64)).toArray = rwP C m e (j + 1) - rwP C m e j := by rw [U.asz_eq]; simp [rwC_len]
theorem asp_row (C : Int) (m : Nat) (e : Nat → R1) (j : Nat) {i : Nat} (h : i < rwP C m e (j + 1) - rwP C m e j) : U.asp ((rwC C m e j).map (Value.int .i64)).toArray i = nv e (rwP C m e j + i) - j * C := by
  have hj2 : i < (rwC C m e j).length := by rw [rwC_len]; exact h
  have e1 : (((rwC C m e j).map (Value.int .i64)).toArray)[i]? = some (.int .i64 ((rwC C m e j)[i])) := by simp [hj2]
  rw [U.asp_eq, e1]
  exact rwC_get j hj2
/-- The columns behind a round. -/
theorem cols_next {C : Int} {m : Nat} {e : Nat → R1} (h : AscR m e) (hC : 0 ≤ C) (j : Nat) : ∀ t, t < rwP C m e (j + 1) →
    U.cat (rwP C m e j) (coF C e) (fun i => ((U.asp ((rwC C m e j).map (Value.int .i64)).toArray i, ()) : R1)) t = coF C e t := fun t ht => by
  refine (U.cat_eq _ _ _ _).trans ?_
  by_cases h1 : t < rwP C m e j
  · exact if_pos h1
  · refine (if_neg h1).trans ?_
    rw [co_is h hC (Nat.le_of_not_lt h1) ht]
    have := asp_row C m e j (i := t - rwP C m e j) (by omega)
    rw [show rwP C m e j + (t - rwP C m e j) = t by omega] at this
    exact congrArg (fun x : Int => ((x, ()) : R1)) this
theorem starts_next {C : Int} {m : Nat} {e : Nat → R1} (j : Nat) {N : Nat} (hN : N = rwP C m e (j + 1)) : ∀ t, t < j + 2 → U.cat (j + 1) (stF C m e) (fun _ => ((Int.ofNat N, ()) : R1)) t = stF C m e t := fun t ht => by
  refine (U.cat_eq _ _ _ _).trans ?_
  by_cases h1 : t < j + 1
  · exact if_pos h1
  · obtain rfl : t = j + 1 := by omega
    refine (if_neg h1).trans ?_
    subst hN; rfl
theorem rangeBr : RangeC P cdBr (rfew 47 [2,3,7] gBr) := by
  refine range_fewT (E := EBr) (L := []) mixed EBr_ok (g0 := .tmp 30) (ps := #[31, 32]) (assign := asBr) (body := bdBr) (by kernel_rfl) loopsOK_none loopsOK_none 47 [2,3,7] (by decide) (X := XBr) gBr
    (fun _ q => slBr) (fun _ q i => MBr q i) (fun q => q.c) (fun q => q.el) PhiBr
    (fun _ q i => True) (fun _ q o => o = OBr q)
    (fun _ _ => rfl) ?_ ?_ ?_ ?_ ?_ ?_
  · intro m0 c0 el0 st r h
    unfold gBr at h
    split at h
    · rename_i p1 q1 s2 p6 q6 e0 x0 x1 x2 x3 m e x4 e1 t1 e2 e3 e4 R C x5 e5 t5 e6 b5 o5 c5 x6 t6 rest
      obtain ⟨hp, rfl, rfl, rfl, rfl, rfl, rfl, rfl, rfl, rfl, rfl⟩ := (T.is_ask h).1
      have hb := (T.is_ask h).2
      simp only [lk_eq] at hp hb
      have hp' := hp
      obtain ⟨h0, ⟨R0, R1', C0, C1, ha⟩, hc, hel, hm⟩ := hp'
      subst h0
      have zi : U.isz 0 = true := by rw [U.isz_eq]; rfl
      refine ⟨⟨R, C, m, e, c0, el0⟩, hp, rfl, rfl, ?_, trivial, fun o ho => ?_⟩
      · refine wk_of [some 1, some 5, some 6, none, none] rfl (Nat.zero_le _) (ren1z _) ⟨⟨rfl, rfl⟩, rl_any _, ⟨rfl, rfl⟩, trivial⟩ ⟨⟨rfl, nilc_rl⟩, ⟨rfl, rfl, trivial⟩, ⟨rfl, ⟨rfl, rfl, rfl⟩, ⟨rfl, rfl, rfl⟩, trivial⟩, ⟨rfl, rfl⟩, trivial⟩
      · rw [ho]
        rcases hb with ⟨he, hb⟩ | ⟨he, hb⟩ <;> obtain rfl := T.is_ret hb
        · rw [U.isz_eq] at he
          obtain rfl : c0 = 0 := by simpa using he
          rfl
        · rw [U.isz_eq] at he
          obtain ⟨c, rfl⟩ : ∃ c, c0 = c + 1 := ⟨c0 - 1, by have hne : c0 ≠ 0 := of_decide_eq_false he; omega⟩
          show (Ex.normal, (slBr, memB1 (U.isz (rwP C m e (c + 1))) (rwP C m e (c + 1)) (coF C e) (c + 1 + 1) (stF C m e) ++ padB)) = _
          rw [hm]
    · exact h.elim
  · intro n0 q i hq hi
    have : q.el = rwE _ _ _ := hq.2.2.2.1
    show (q.el i).length = 2
    rw [this]; rfl
  · intro n0 q i hq
    rw [hq.1]; exact Nat.zero_le _
  · intro n0 q i hq hi _
    obtain ⟨R, C, m, e, c, el⟩ := q
    obtain ⟨h0, ⟨R0, R1', C0, C1, ha⟩, hc, hel, hm⟩ := hq
    have hi : i < c := hi
    have h0 : n0 = 0 := h0
    have R1' : R ≤ 2000001 := R1'
    have hc : c = R.toNat := hc
    have hel : el = rwE C m e := hel
    have ha : AscR m e := ha
    have C0 : 0 ≤ C := C0
    subst h0
    have hle := rwP_le (C := C) ha (i + 1)
    have hmo := rwP_mono ha C0 i
    have h5 : m ≤ 100000 := ha.1.1
    have ex : el i = [.int .i64 (i : Int), .tuple ((rwC C m e i).map (Value.int .i64)).toArray] := by rw [hel]; rfl
    have en := asz_row C m e i
    have eN : rwP C m e i + (rwP C m e (i + 1) - rwP C m e i) = rwP C m e (i + 1) := by omega
    cases i with
    | zero =>
      show ((sxR EBr [] 5 #[31, 32] asBr bdBr (el 0) (mkS 47 [2,3,7] slBr, memB0 true 0 (coF C e))).bind (fun r => .ret (r.1, r.2.2))).All _
      rw [ex]
      refine T.all_of_eq (t_B0 true 0 (coF C e) _ _) ?_
      have z := rwP_0 (C := C) ha
      have cn := cols_next ha C0 0
      rw [z] at cn
      have en0 : U.asz ((rwC C m e 0).map (Value.int .i64)).toArray = rwP C m e 1 := by rw [en, z]; rfl
      rw [en0]
      have iz : U.andb true (U.isz (rwP C m e 1)) = U.isz (rwP C m e 1) := by rw [U.andb_eq]; rfl
      rw [iz, show 0 + rwP C m e 1 = rwP C m e 1 from Nat.zero_add _]
      refine ⟨by show rwP C m e 1 * 8 ≤ 140737488351232; omega, ⟨by decide, by decide⟩, rfl, trivial, ?_⟩
      refine wk_of [some 0, none, some 2, some 5, some 7] rfl (Nat.zero_le _) (ren1z _) (slBr_rl rfl rfl) ⟨⟨rfl, nilc_rl⟩, ⟨rfl, ⟨rfl, rfl, rfl⟩, ⟨rfl, rfl, rfl⟩, trivial⟩, ⟨rfl, rfl, rfl, row1H fun t ht => cn t ht⟩, ⟨rfl, rfl, rfl, row1H fun t ht => ?_⟩, trivial⟩
      have s1 := starts_next (C := C) (m := m) (e := e) 0 (N := rwP C m e 1) rfl t ht
      refine Eq.trans ?_ s1
      have ez : stF C m e 0 = ((0 : Int), ()) := by unfold stF; rw [z]; rfl
      refine (U.cat_eq _ _ _ _).trans ((U.cat_eq _ _ _ _).trans ?_).symm
      by_cases h1 : t < 1
      · obtain rfl : t = 0 := by omega
        exact ez
      · exact (if_neg h1).trans (if_neg h1).symm
    | succ i =>
      show ((sxR EBr [] 5 #[31, 32] asBr bdBr (el (i + 1)) (mkS 47 [2,3,7] slBr, memB1 (U.isz (rwP C m e (i + 1))) (rwP C m e (i + 1)) (coF C e) (i + 1 + 1) (stF C m e))).bind (fun r => .ret (r.1, r.2.2))).All _
      rw [ex]
      refine T.all_of_eq (t_B1 (U.isz (rwP C m e (i + 1))) (rwP C m e (i + 1)) (coF C e) (i + 1 + 1) (stF C m e) _ _) ?_
      rw [en, isz_add, eN]
      refine ⟨by show rwP C m e (i + 1 + 1) * 8 ≤ 140737488351232; omega, by show (i + 1 + 1 + 1) * 8 ≤ 140737488351232; omega, rfl, trivial, ?_⟩
      exact wk_of [some 0, none, some 2, some 5, some 7] rfl (Nat.zero_le _) (ren1z _) (slBr_rl rfl rfl) ⟨⟨rfl, nilc_rl⟩, ⟨rfl, ⟨rfl, rfl, rfl⟩, ⟨rfl, rfl, rfl⟩, trivial⟩, ⟨rfl, rfl, rfl, row1H fun t ht => cols_next ha C0 (i + 1) t ht⟩, ⟨rfl, rfl, rfl, row1H fun t ht => starts_next (i + 1) rfl t ht⟩, trivial⟩
  · intro n0 q hq _
    have h0 : n0 = 0 := hq.1
    subst h0
    refine ⟨_, rfl, ?_⟩
    obtain ⟨R, C, m, e, c, el⟩ := q
    cases c with
    | zero => exact wk_of [some 0, some 1, some 2, some 3, none, none, none, none, none] rfl (Nat.zero_le _) (ren1z _) (slBr_rl rfl rfl) ⟨⟨rfl, nilc_rl⟩, ⟨rfl, rfl, trivial⟩, ⟨rfl, ⟨rfl, rfl, rfl⟩, ⟨rfl, rfl, rfl⟩, trivial⟩, ⟨rfl, rfl, rfl, row1H fun _ _ => rfl⟩, trivial⟩
    | succ c => exact wk_of [some 0, none, some 2, some 3, some 4, none, none, none, none] rfl (Nat.zero_le _) (ren1z _) (slBr_rl rfl rfl) ⟨⟨rfl, nilc_rl⟩, ⟨rfl, ⟨rfl, rfl, rfl⟩, ⟨rfl, rfl, rfl⟩, trivial⟩, ⟨rfl, rfl, rfl, row1H fun _ _ => rfl⟩, ⟨rfl, rfl, rfl, row1H fun _ _ => rfl⟩, trivial⟩
  · intro n0 q i hq hi; rfl
theorem lBr_ok : ∀ p ∈ lBr, LoopsOK P p.2 (bodyOf P p.1) := by
  intro p hp
  simp only [lBr, List.mem_singleton] at hp
  subst hp
  refine loopsOK_ofG (by kernel_rfl) (by kernel_rfl) (fun k g hk => by simp at hk) fun k gf sc g hk => ?_
  simp only [List.mem_singleton, Prod.mk.injEq, LoopC.rngG.injEq] at hk
  obtain ⟨rfl, rfl, rfl, rfl⟩ := hk
  exact ⟨sc110_ok, rangeBr⟩
end Go.RX.Span

/- Sparse domains: by rows: the contract. -/
set_option linter.unusedVariables false
set_option linter.unusedSimpArgs false
set_option maxRecDepth 100000
namespace Go.RX.Span
open Go Go.RX
attribute [local irreducible] sx conB

theorem spAt_asc {N : Int} {m : Nat} {e : Nat → R1} (h : SpAt N m e) : ∀ {i j : Nat}, i < j → j < m → nv e i < nv e j := by
  intro i j hij
  induction j with
  | zero => omega
  | succ j ih =>
    intro hj
    have h1 := (h (j + 1) hj).2.2 (by omega)
    rw [Nat.add_sub_cancel] at h1
    by_cases g : i = j
    · subst g; exact h1
    · have := ih (by omega) (by omega); omega
section
variable {n : Nat} {f : Nat → R3} {k s h : Int} {m : Nat} {e : Nat → R1}
theorem sp_bs (g : spE n f k s h m e = 0) : BsAsk m e ∧ m ≤ 5000 ∧ AscR m e ∧ szD n f k s h ≤ 1000000 ∧ SpAt (szD n f k s h) m e := by
  obtain ⟨h1, h2, h3⟩ := spE_zero.1 g
  have h4 := (pdE_zero.1 h1).2
  have b : BsAsk m e := ⟨by omega, fun i j a b => spAt_asc h3 a b⟩
  exact ⟨b, h2, ⟨b, fun i hi => ⟨(h3 i hi).1, by have := (h3 i hi).2.1; omega⟩⟩, h4, h3⟩
theorem sp_tab (g : spE n f k s h m e = 0) (h2 : n = 2) : TabAsk (szR (f 0)) (szR (f 1)) m e ∧ szD n f k s h = szR (f 0) * szR (f 1) ∧ rwP (szR (f 1)) m e (szR (f 0)).toNat = m := by
  obtain ⟨b, hm, ha, h4, h3⟩ := sp_bs g
  have hc := (pdE_zero.1 (spE_zero.1 g).1).1
  obtain ⟨⟨_, d2⟩, _⟩ := chD_zero.1 hc
  obtain ⟨_, a1, a2⟩ := rr_size (d2 0 (by omega))
  obtain ⟨_, b1, b2⟩ := rr_size (d2 1 (by omega))
  have es : szD n f k s h = szR (f 0) * szR (f 1) := by unfold szD colD; rw [if_neg (fun x => x hc), if_neg (by omega)]
  refine ⟨⟨a1, a2, b1, b2, ha⟩, es, ?_⟩
  unfold rwP
  refine bsI_of (Nat.le_refl _) (fun i hi => ?_) fun i h1 h2 => by omega
  have := (h3 i hi).2.1
  rw [es] at this
  rw [Int.toNat_of_nonneg a1]; exact this
end
section
variable (n : Nat) (f : Nat → R3) (k s h : Int) (m : Nat) (e : Nat → R1)
noncomputable def brE : Int := if spE n f k s h m e ≠ 0 then spE n f k s h m e else if n ≠ 2 then 50 else 0
/-- The starts of the rows; the columns. -/
def stL : List Int := (List.range ((szR (f 0)).toNat + 1)).map fun j => ((rwP (szR (f 1)) m e j : Nat) : Int)
def coL : List Int := (nl m e).map (· % szR (f 1))
def stN : Nat := (stL f m e).length
def stG : Nat → R1 := lF (stL f m e)
def coN : Nat := (coL f m e).length
def coG : Nat → R1 := lF (coL f m e)
end
theorem st_len (f : Nat → R3) (m : Nat) (e : Nat → R1) : stN f m e = (szR (f 0)).toNat + 1 := by unfold stN stL; simp
theorem co_len (f : Nat → R3) (m : Nat) (e : Nat → R1) : coN f m e = m := by unfold coN coL; rw [List.length_map, nl_len]
theorem st_get (f : Nat → R3) (m : Nat) (e : Nat → R1) {j : Nat} (h : j < stN f m e) : stG f m e j = stF (szR (f 1)) m e j := by
  rw [st_len] at h
  unfold stG lF stL stF
  rw [List.getD_eq_getElem?_getD, List.getElem?_map, List.getElem?_range h]; rfl
theorem co_get (f : Nat → R3) (m : Nat) (e : Nat → R1) {j : Nat} (h : j < coN f m e) : coG f m e j = coF (szR (f 1)) e j := by
  rw [co_len] at h
  unfold coG lF coL coF nl
  rw [List.getD_eq_getElem?_getD, List.getElem?_map, List.getElem?_map, List.getElem?_range h]; rfl
noncomputable def c_ByRows : Con := fun args => match args with
  | [.agg [.row [.int .i64, .int .i64, .int .i64] n f, .lit (.int .i64 k), .lit (.int .i64 s), .lit (.int .i64 h), .row [.int .i64] m e]] => .ask (Row64 n f)
    (.ret (.tup [.agg [.row [.int .i64] (lk zn (lk brE n f k s h m e) (lk stN f m e)) (lk stG f m e), .row [.int .i64] (lk zn (lk brE n f k s h m e) (lk coN f m e)) (lk coG f m e)], .lit (.int .i64 (lk brE n f k s h m e))]))
  | _ => .stuck 1
theorem cl_err2 {E E' : Int} (hE : E = E') (h0 : E ≠ 0) {n N : Nat} {f G : Nat → R1} :
    Cl (SV.tup [.agg [.lit (.slice none 0 0), .lit (.slice none 0 0)], .lit (.int .i64 E)]) (.tup [.agg [.row [.int .i64] (zn E' n) f, .row [.int .i64] (zn E' N) G], .lit (.int .i64 E')]) := by
  subst hE
  rw [zn_e h0, zn_e h0]
  exact ⟨⟨cl_nil, cl_nil, rfl⟩, .inl rfl, rfl⟩
theorem ByRows_ok : ConOK P 22 c_ByRows := con_cl (allOKL mixed kBr_ok lBr_ok) 10 22 fun args r hh => by
  unfold c_ByRows at hh
  split at hh
  · rename_i n f k s h m e
    have hp := (T.is_ask hh).1
    obtain rfl := T.is_ret (T.is_ask hh).2
    refine T.all_of_eq (t_ByR n f k s h m e) ?_
    have tn1' : U.toNat (1 : Int) = 1 := tn 1
    simp only [lk_eq, tn0, tn1', Int.ofNat_eq_natCast]
    refine ⟨hp, fun g => ?_, fun g => ⟨fun g2 => ?_, fun g2 => ?_⟩⟩
    · have g := U.ne_t.mp g
      exact cl_err2 (by unfold brE; rw [if_pos g]) g
    · have g := U.ne_f.mp g
      have g2 := U.ne_t.mp g2
      exact cl_err2 (by unfold brE; rw [if_neg (fun x => x g), if_pos (by omega)]) (by decide)
    · have g := U.ne_f.mp g
      have g2 : (n : Int) = 2 := U.ne_f.mp g2
      have h2 : n = 2 := by omega
      obtain ⟨ta, es, ep⟩ := sp_tab g h2
      have e0 : brE n f k s h m e = 0 := by unfold brE; rw [if_neg (fun x => x g), if_neg (fun x => x h2)]
      rw [e0]
      refine ⟨⟨by omega, by omega⟩, hp 0 (by omega), ⟨by omega, by omega⟩, hp 1 (by omega), ⟨ta, trivial, trivial⟩, ⟨⟨rfl, ta, rfl, rfl, ep⟩, trivial, trivial, trivial, trivial, trivial, trivial, trivial, trivial, trivial, trivial⟩, fun g3 => ?_, fun g3 => ?_⟩
      · rw [U.isz_eq] at g3
        have g3 : (szR (f 0)).toNat = 0 := of_decide_eq_true g3
        have z := rwP_0 (C := szR (f 1)) ta.2.2.2.2
        rw [g3, z] at ep
        have eB : stN f m e = 1 := by rw [st_len, g3]
        refine ⟨⟨⟨eB.symm, row1H fun t ht => ?_⟩, ⟨by show 0 = coN f m e; rw [co_len]; exact ep, row1H fun t ht => absurd ht (Nat.not_lt_zero t)⟩, rfl⟩, .inl rfl, rfl⟩
        obtain rfl : t = 0 := by have : t < 1 := ht; omega
        show _ = stG f m e 0
        rw [st_get f m e (by omega)]
        unfold stF; rw [z]; rfl
      · exact ⟨⟨⟨(st_len f m e).symm, row1H fun t ht => (st_get f m e (by rw [st_len]; exact ht)).symm⟩, ⟨(co_len f m e).symm, row1H fun t ht => (co_get f m e (by rw [co_len]; exact ht)).symm⟩, rfl⟩, .inl rfl, rfl⟩
  · exact hh.elim
end Go.RX.Span

/- Sparse domains: the example: the walk. -/
set_option linter.unusedVariables false
set_option linter.unusedSimpArgs false
set_option maxRecDepth 100000
namespace Go.RX.Span
open Go Go.RX
attribute [local irreducible] sx conB

/-- What is to be shown of the example. -/
def OfA (n : Nat) (f : Nat → R3) (k s h : Int) (M : Nat) (F : Nat → RL) : Prop := Row64 n f ∧ ofE n f k s h M F = 0 ∧ ofL (psL n f k s h M F) = [0, 3, 9]
def ByA (n : Nat) (f : Nat → R3) (k s h : Int) (m : Nat) (e : Nat → R1) : Prop := Row64 n f ∧ brE n f k s h m e = 0 ∧ stL f m e = [0, 2, 2, 3] ∧ coL f m e = [0, 3, 1]
noncomputable def c_OfA : Con := fun args => match args with
  | [.agg [.row [.int .i64, .int .i64, .int .i64] n f, .lit (.int .i64 k), .lit (.int .i64 s), .lit (.int .i64 h)], .row [.sl [.int .i64]] M F] =>
    .ask (lk OfA n f k s h M F) (.ret (.tup [.agg [.row [.int .i64, .int .i64, .int .i64] n f, .lit (.int .i64 k), .lit (.int .i64 s), .lit (.int .i64 h), .row [.int .i64] 3 (lk lF [0, 3, 9])], .lit (.int .i64 0)]))
  | _ => .stuck 1
noncomputable def c_ByA : Con := fun args => match args with
  | [.agg [.row [.int .i64, .int .i64, .int .i64] n f, .lit (.int .i64 k), .lit (.int .i64 s), .lit (.int .i64 h), .row [.int .i64] m e]] => .ask (lk ByA n f k s h m e)
    (.ret (.tup [.agg [.row [.int .i64] 4 (lk lF [0, 2, 2, 3]), .row [.int .i64] 3 (lk lF [0, 3, 1])], .lit (.int .i64 0)]))
  | _ => .stuck 1
theorem OfA_ok : ConOK P 21 c_OfA := fun args r h => Of_ok args r (by
  unfold c_OfA at h
  split at h
  · obtain ⟨hp, h⟩ := T.is_ask h
    rw [lk_eq] at hp
    obtain ⟨h1, h2, h3⟩ := hp
    refine ⟨h1, ?_⟩
    obtain rfl := T.is_ret h
    simp only [lk_eq, h2, zn_0, zi_0]
    unfold osN osF
    rw [h3]; rfl
  · exact h.elim)
theorem ByA_ok : ConOK P 22 c_ByA := fun args r h => ByRows_ok args r (by
  unfold c_ByA at h
  split at h
  · obtain ⟨hp, h⟩ := T.is_ask h
    rw [lk_eq] at hp
    obtain ⟨h1, h2, h3, h4⟩ := hp
    refine ⟨h1, ?_⟩
    obtain rfl := T.is_ret h
    simp only [lk_eq, h2, zn_0, zi_0]
    unfold stN stG coN coG
    rw [h3, h4]; rfl
  · exact h.elim)
noncomputable abbrev kAw : List (Nat × Con) := [(21, c_OfA), (22, c_ByA), (23, c_Equal)] --%K
theorem kAw_ok : ∀ p ∈ kAw, ConOK P p.1 p.2 := by
  intro p hp
  simp only [kAw, List.mem_cons, List.not_mem_nil, or_false] at hp
  rcases hp with rfl | rfl | rfl
  · exact OfA_ok
  · exact ByA_ok
  · exact Equal_ok
noncomputable def c_awake : Con := fun args => match args with
  | [] => .ret (.lit (.bool true))
  | _ => .stuck 1
end Go.RX.Span

/- Sparse domains: the example: the walk. -/
set_option linter.unusedVariables false
set_option linter.unusedSimpArgs false
set_option maxRecDepth 100000
namespace Go.RX.Span
open Go Go.RX
attribute [local irreducible] sx conB

--%R ofList \[\(\((\d) : Int\), \(\)\) => ofList (ss := [.int .i64]) [((\1 : Int), ())
--%R ofList \[\(\((\d) : Int\), \((\d) : Int\) => ofList (ss := [.int .i64, .int .i64, .int .i64]) [((\1 : Int), (\2 : Int)
--%R ofList\s+\[\(\(\(2 => ofList (ss := [.sl [.int .i64]]) [(((2
--%R castEls rfl => castEls (ss := [.int .i64]) (ss' := [.int .i64]) rfl
set_option maxRecDepth 100000 in
theorem t_awake  : conB Go.Proofs.Tryz.prog (conOf kAw) noLoops 10 6 [] =
    T.ask (lk OfA (2 : Nat) (ofList (ss := [.int .i64, .int .i64, .int .i64]) [((0 : Int), (3 : Int), (1 : Int), ()), ((0 : Int), (2 : Int), (1 : Int), ())].reverse) (0 : Int) (0 : Int)
      (0 : Int) (3 : Nat) (ofList (ss := [.sl [.int .i64]]) [(((2 : Nat), castEls (ss := [.int .i64]) (ss' := [.int .i64]) rfl (ofList (ss := [.int .i64]) [((0 : Int), ()), ((0 : Int),
      ())].reverse)), ()), (((2 : Nat), castEls (ss := [.int .i64]) (ss' := [.int .i64]) rfl (ofList (ss := [.int .i64]) [((3 : Int), ()), ((0 : Int), ())].reverse)), ()), (((2 : Nat),
      castEls (ss := [.int .i64]) (ss' := [.int .i64]) rfl (ofList (ss := [.int .i64]) [((1 : Int), ()), ((2 : Int), ())].reverse)), ())].reverse)) (.ask (lk ByA (2 : Nat) (ofList (ss :=
      [.int .i64, .int .i64, .int .i64]) [((0 : Int), (3 : Int), (1 : Int), ()), ((0 : Int), (2 : Int), (1 : Int), ())].reverse) (0 : Int) (0 : Int) (0 : Int) (3 : Nat) (lk lF [(0 : Int),
      (3 : Int), (9 : Int)])) (.br (U.eq (0 : Int) (0 : Int)) (.br (U.eq (0 : Int) (0 : Int)) (.ask ((3 : Nat) ≤ nat_lit 9223372036854775807) (.br (lk eqR (nat_lit 3) (lk lF [(0 : Int),
      (3 : Int), (9 : Int)]) (nat_lit 3) (U.nth [((0 : Int), PUnit.unit), ((3 : Int), PUnit.unit), ((9 : Int), PUnit.unit)] ((0 : Int), PUnit.unit))) (.ask ((4 : Nat) ≤ nat_lit
      9223372036854775807) (.br (lk eqR (nat_lit 4) (lk lF [(0 : Int), (2 : Int), (2 : Int), (3 : Int)]) (nat_lit 4) (U.nth [((0 : Int), PUnit.unit), ((2 : Int), PUnit.unit), ((2 : Int),
      PUnit.unit), ((3 : Int), PUnit.unit)] ((0 : Int), PUnit.unit))) (.ask ((3 : Nat) ≤ nat_lit 9223372036854775807) (.ret (.lit (.bool (lk eqR (nat_lit 3) (lk lF [(0 : Int), (3 : Int),
      (1 : Int)]) (nat_lit 3) (U.nth [((0 : Int), PUnit.unit), ((3 : Int), PUnit.unit), ((1 : Int), PUnit.unit)] ((0 : Int), PUnit.unit))))))) (.ret (.lit (.bool false))))) (.ret (.lit
      (.bool false))))) (.ret (.lit (.bool false)))) (.ret (.lit (.bool false))))) := by kernel_rfl
end Go.RX.Span

/- Sparse domains: the example. -/
set_option linter.unusedVariables false
set_option linter.unusedSimpArgs false
set_option maxRecDepth 100000
namespace Go.RX.Span
open Go Go.RX
attribute [local irreducible] sx conB

def tr3 (a b c : Int) : R3 := (a, b, c, ())
section
variable {f : Nat → R3} {F : Nat → RL}
theorem ex_ch (h0 : f 0 = tr3 0 2 1) (h1 : f 1 = tr3 0 3 1) : chD 2 f 0 0 0 = 0 ∧ szD 2 f 0 0 0 = 12 ∧ Row64 2 f ∧ szR (f 0) = 3 ∧ szR (f 1) = 4 := by
  have c : chD 2 f 0 0 0 = 0 := by unfold chD; rw [h0, h1]; decide
  refine ⟨c, ?_, fun i hi => ?_, ?_, ?_⟩
  · unfold szD colD
    rw [if_neg (fun x => x c), if_neg (by decide), h0, h1]; decide
  · rcases (show i = 0 ∨ i = 1 by omega) with rfl | rfl
    · rw [h0]; unfold I64; decide
    · rw [h1]; unfold I64; decide
  · rw [h0]; decide
  · rw [h1]; decide
theorem ex_pos (h0 : f 0 = tr3 0 2 1) (h1 : f 1 = tr3 0 3 1) {e : Nat → R1} {x y p : Int} (hx : nv e 0 = x) (hy : nv e 1 = y) (a : has 0 2 1 x = true) (b : has 0 3 1 y = true) (hp : pos 0 2 1 x * 4 + pos 0 3 1 y = p) :
    hasD 2 f 0 0 0 2 e = true ∧ posD 2 f 0 0 0 2 e = p := by
  obtain ⟨c, _, _, _, s1⟩ := ex_ch h0 h1
  have g : hasD 2 f 0 0 0 2 e = true := decide_eq_true ⟨c, rfl, by rw [h0]; show has 0 2 1 (nv e 0) = true; rw [hx]; exact a, fun _ => by rw [h1]; show has 0 3 1 (nv e 1) = true; rw [hy]; exact b⟩
  refine ⟨g, ?_⟩
  rw [posD_is g, if_neg (by decide), s1, hx, hy, h0, h1]
  exact hp
theorem ex_of (h0 : f 0 = tr3 0 2 1) (h1 : f 1 = tr3 0 3 1) (g0 : (F 0).1.1 = 2 ∧ nv (F 0).1.2 0 = 2 ∧ nv (F 0).1.2 1 = 1) (g1 : (F 1).1.1 = 2 ∧ nv (F 1).1.2 0 = 0 ∧ nv (F 1).1.2 1 = 3) (g2 : (F 2).1.1 = 2 ∧ nv (F 2).1.2 0 = 0 ∧ nv (F 2).1.2 1 = 0) : OfA 2 f 0 0 0 3 F := by
  obtain ⟨c, sz, r, _⟩ := ex_ch h0 h1
  obtain ⟨a0, p0⟩ := ex_pos h0 h1 (p := 9) g0.2.1 g0.2.2 (by decide) (by decide) (by decide)
  obtain ⟨a1, p1⟩ := ex_pos h0 h1 (p := 3) g1.2.1 g1.2.2 (by decide) (by decide) (by decide)
  obtain ⟨a2, p2⟩ := ex_pos h0 h1 (p := 0) g2.2.1 g2.2.2 (by decide) (by decide) (by decide)
  have e0 : ofP 2 f 0 0 0 F 0 = 9 := by unfold ofP; rw [g0.1]; exact p0
  have e1 : ofP 2 f 0 0 0 F 1 = 3 := by unfold ofP; rw [g1.1]; exact p1
  have e2 : ofP 2 f 0 0 0 F 2 = 0 := by unfold ofP; rw [g2.1]; exact p2
  have ps : psL 2 f 0 0 0 3 F = [9, 3, 0] := by
    rw [psL_s, psL_s, psL_s, e0, e1, e2]; rfl
  have ol : ofL (psL 2 f 0 0 0 3 F) = [0, 3, 9] := by rw [ps]; decide
  have ok : ofOk 2 f 0 0 0 3 F = true := ofOk_t.2 fun i hi => by
    rcases (show i = 0 ∨ i = 1 ∨ i = 2 by omega) with rfl | rfl | rfl
    · rw [g0.1]; exact a0
    · rw [g1.1]; exact a1
    · rw [g2.1]; exact a2
  refine ⟨r, ?_, ol⟩
  unfold ofE
  rw [if_neg (fun x => x (pdE_zero.2 ⟨c, by rw [sz]; decide⟩)), if_neg (by decide), if_neg (by rw [ok]; decide), ol, if_neg (by decide)]
theorem ex_of' {a b c : Nat → R1} (h0 : f 0 = tr3 0 2 1) (h1 : f 1 = tr3 0 3 1) (F0 : F 0 = ((2, a), ())) (F1 : F 1 = ((2, b), ())) (F2 : F 2 = ((2, c), ())) (a0 : nv a 0 = 2) (a1 : nv a 1 = 1) (b0 : nv b 0 = 0) (b1 : nv b 1 = 3) (c0 : nv c 0 = 0) (c1 : nv c 1 = 0) : OfA 2 f 0 0 0 3 F :=
  ex_of h0 h1 (by rw [F0]; exact ⟨rfl, a0, a1⟩) (by rw [F1]; exact ⟨rfl, b0, b1⟩) (by rw [F2]; exact ⟨rfl, c0, c1⟩)
theorem ex_by (h0 : f 0 = tr3 0 2 1) (h1 : f 1 = tr3 0 3 1) : ByA 2 f 0 0 0 3 (lF [0, 3, 9]) := by
  obtain ⟨c, sz, r, s0, s1⟩ := ex_ch h0 h1
  have sp : spE 2 f 0 0 0 3 (lF [0, 3, 9]) = 0 := spE_zero.2 ⟨pdE_zero.2 ⟨c, by rw [sz]; decide⟩, by decide, by
    rw [sz]
    intro i hi
    rcases (show i = 0 ∨ i = 1 ∨ i = 2 by omega) with rfl | rfl | rfl <;> decide⟩
  refine ⟨r, by unfold brE; rw [if_neg (fun x => x sp), if_neg (by decide)], ?_, ?_⟩
  · unfold stL; rw [s0, s1]; decide
  · unfold coL; rw [s1]; decide
end
theorem nth1 (l : List R1) (d : R1) (i : Nat) : (U.nth l d i).1 = (l.getD i d).1 := by rw [U.nth_eq]
theorem eqR_3 {a b c : Int} {g : Nat → R1} (h0 : (g 0).1 = a) (h1 : (g 1).1 = b) (h2 : (g 2).1 = c) : eqR 3 (lF [a, b, c]) 3 g = true := eqR_t.2 ⟨rfl, fun i hi => by
  rcases (show i = 0 ∨ i = 1 ∨ i = 2 by omega) with rfl | rfl | rfl
  · exact h0.symm
  · exact h1.symm
  · exact h2.symm⟩
theorem eqR_4 {a b c d : Int} {g : Nat → R1} (h0 : (g 0).1 = a) (h1 : (g 1).1 = b) (h2 : (g 2).1 = c) (h3 : (g 3).1 = d) : eqR 4 (lF [a, b, c, d]) 4 g = true := eqR_t.2 ⟨rfl, fun i hi => by
  rcases (show i = 0 ∨ i = 1 ∨ i = 2 ∨ i = 3 by omega) with rfl | rfl | rfl | rfl
  · exact h0.symm
  · exact h1.symm
  · exact h2.symm
  · exact h3.symm⟩
theorem awake_ok : ConOK P 6 c_awake := con_of (allOK mixed kAw_ok) 10 6 fun args r h => by
  unfold c_awake at h
  split at h
  · obtain rfl := T.is_ret h
    refine T.all_of_eq t_awake ?_
    simp only [lk_eq]
    refine ⟨ex_of' rfl rfl (ofList_get _ 0 _ rfl) (ofList_get _ 1 _ rfl) (ofList_get _ 2 _ rfl) rfl rfl rfl rfl rfl rfl, ex_by rfl rfl, fun _ => ⟨fun _ => ⟨by decide, fun _ => ⟨by decide, fun _ => ⟨by decide, ?_⟩, fun g => ?_⟩, fun g => ?_⟩, fun g => absurd rfl (U.eq_f.mp g)⟩, fun g => absurd rfl (U.eq_f.mp g)⟩
    · exact congrArg (fun b => SV.lit (.bool b)) (eqR_3 ((nth1 _ _ _).trans rfl) ((nth1 _ _ _).trans rfl) ((nth1 _ _ _).trans rfl))
    · exact Bool.noConfusion (g.symm.trans (eqR_4 ((nth1 _ _ _).trans rfl) ((nth1 _ _ _).trans rfl) ((nth1 _ _ _).trans rfl) ((nth1 _ _ _).trans rfl)))
    · exact Bool.noConfusion (g.symm.trans (eqR_3 ((nth1 _ _ _).trans rfl) ((nth1 _ _ _).trans rfl) ((nth1 _ _ _).trans rfl)))
  · exact h.elim
end Go.RX.Span

/- Sparse domains: the reference's put: the states. -/
set_option linter.unusedVariables false
set_option linter.unusedSimpArgs false
set_option maxRecDepth 100000
namespace Go.RX.Span
open Go Go.RX
attribute [local irreducible] sx conB

/-- How many are ahead, from the front. -/
def pfN (n : Nat) (e : Nat → R1) (x : Int) : Nat := ((nl n e).takeWhile fun y => decide (y < x)).length
def puL (n : Nat) (e : Nat → R1) (x : Int) : List Int := putI (nl n e) x
def puN (n : Nat) (e : Nat → R1) (x : Int) : Nat := (puL n e x).length
def puF (n : Nat) (e : Nat → R1) (x : Int) : Nat → R1 := lF (puL n e x)
def Sm (n : Nat) : Prop := n ≤ 100000
noncomputable abbrev slPu (n : Nat) (e : Nat → R1) (x i : Int) : List SV := [.row [.int .i64] n e, .lit (.int .i64 x), .lit (.int .i64 i)]
noncomputable def gPu : Nat → Few → T (Ex × Few)
  | n0, ([.row [.int .i64] n e, .lit (.int .i64 x), .ki .i64 0], []) => .ask (n0 = 0 ∧ Sm n) (.ret (.exit 0, (slPu n e x ((lk pfN n e x : Nat) : Int), [])))
  | _, _ => .stuck 1
noncomputable abbrev lPu : List (Nat × Loops) := [(72, [(2, .sum (few 45 [0,1,5] gPu))])] --%K
noncomputable def c_put : Con := fun args => match args with
  | [.row [.int .i64] n e, .lit (.int .i64 x)] => .ask (lk Sm n) (.ret (.row [.int .i64] (lk puN n e x) (lk puF n e x)))
  | _ => .stuck 1
end Go.RX.Span

/- Sparse domains: the reference's put: the walks. -/
set_option linter.unusedVariables false
set_option linter.unusedSimpArgs false
set_option maxRecDepth 100000
namespace Go.RX.Span
open Go Go.RX
attribute [local irreducible] sx conB

--%R < ↑n\b => < ((n : Nat) : Int)
--%R ≤ ↑n\b => ≤ ((n : Nat) : Int)
--%R ↑\(lk pfN n e x\) => ((lk pfN n e x : Nat) : Int)
set_option maxRecDepth 100000 in
theorem t_Pu (n : Nat) (e : Nat → R1) (x i : Int) : (sx E0 [] 0 (loopOf P 72 2) (mkS 45 [0,1,5] (slPu n e x i), [])).bind (proj 45 [0,1,5]) =
    T.br (U.lt i (Int.ofNat n)) (.ask ((0 : Int) ≤ i ∧ i < ((n : Nat) : Int)) (.br (U.lt (e (U.toNat i)).1 x) (.ret (Ex.normal, [.row [.int .i64] n e, .lit (.int .i64 x), .lit (.int
      .i64 (U.add .i64 i (1 : Int)))], [])) (.ret (Ex.exit (nat_lit 0), [.row [.int .i64] n e, .lit (.int .i64 x), .lit (.int .i64 i)], [])))) (.ret (Ex.exit (nat_lit 0), [.row [.int
      .i64] n e, .lit (.int .i64 x), .lit (.int .i64 i)], [])) := by kernel_rfl
set_option maxRecDepth 100000 in
theorem t_put (n : Nat) (e : Nat → R1) (x : Int) : conB Go.Proofs.Tryz.prog (conOf []) (loopsOf lPu) 10 72 [.row [.int .i64] n e, .lit (.int .i64 x)] =
    T.ask (nat_lit 0 = (0 : Nat) ∧ Sm n) (.br (U.lt (Int.ofNat (lk pfN n e x)) (Int.ofNat n)) (.ask ((0 : Int) ≤ ((lk pfN n e x : Nat) : Int) ∧ ((lk pfN n e x : Nat) : Int) < ((n : Nat)
      : Int)) (.br (U.eq (e (U.toNat ((lk pfN n e x : Nat) : Int))).1 x) (.ret (.row [.int .i64] n e)) (.ask ((0 : Int) ≤ (0 : Int) ∧ (0 : Int) ≤ Int.ofNat (lk pfN n e x) ∧ Int.ofNat (lk
      pfN n e x) ≤ ((n : Nat) : Int)) (.ask (((0 : Nat) + U.toNat (Int.ofNat (lk pfN n e x))) * nat_lit 8 ≤ nat_lit 140737488351232) (.ask (((0 : Nat) + U.toNat (Int.ofNat (lk pfN n e x))
      + (1 : Nat)) * nat_lit 8 ≤ nat_lit 140737488351232) (.ask ((0 : Int) ≤ Int.ofNat (lk pfN n e x) ∧ Int.ofNat (lk pfN n e x) ≤ ((n : Nat) : Int) ∧ ↑n ≤ ((n : Nat) : Int)) (.ask (((0 :
      Nat) + U.toNat (Int.ofNat (lk pfN n e x)) + (1 : Nat) + U.nsub n (U.toNat (Int.ofNat (lk pfN n e x)))) * nat_lit 8 ≤ nat_lit 140737488351232) (.ret (.row [.int .i64] ((nat_lit 0 +
      U.toNat (Int.ofNat (lk pfN n e x))).add (nat_lit 1) + U.nsub n (U.toNat (Int.ofNat (lk pfN n e x)))) (U.cat ((nat_lit 0 + U.toNat (Int.ofNat (lk pfN n e x))).add (nat_lit 1)) (U.cat
      (nat_lit 0 + U.toNat (Int.ofNat (lk pfN n e x))) (U.cat (nat_lit 0) (fun x => ((0 : Int), PUnit.unit)) e) fun x_1 => (x, PUnit.unit)) fun i => e (i + U.toNat (Int.ofNat (lk pfN n e
      x))))))))))))) (.ask ((0 : Int) ≤ (0 : Int) ∧ (0 : Int) ≤ Int.ofNat (lk pfN n e x) ∧ Int.ofNat (lk pfN n e x) ≤ ((n : Nat) : Int)) (.ask (((0 : Nat) + U.toNat (Int.ofNat (lk pfN n e
      x))) * nat_lit 8 ≤ nat_lit 140737488351232) (.ask (((0 : Nat) + U.toNat (Int.ofNat (lk pfN n e x)) + (1 : Nat)) * nat_lit 8 ≤ nat_lit 140737488351232) (.ask ((0 : Int) ≤ Int.ofNat
      (lk pfN n e x) ∧ Int.ofNat (lk pfN n e x) ≤ ((n : Nat) : Int) ∧ ↑n ≤ ((n : Nat) : Int)) (.ask (((0 : Nat) + U.toNat (Int.ofNat (lk pfN n e x)) + (1 : Nat) + U.nsub n (U.toNat
      (Int.ofNat (lk pfN n e x)))) * nat_lit 8 ≤ nat_lit 140737488351232) (.ret (.row [.int .i64] ((nat_lit 0 + U.toNat (Int.ofNat (lk pfN n e x))).add (nat_lit 1) + U.nsub n (U.toNat
      (Int.ofNat (lk pfN n e x)))) (U.cat ((nat_lit 0 + U.toNat (Int.ofNat (lk pfN n e x))).add (nat_lit 1)) (U.cat (nat_lit 0 + U.toNat (Int.ofNat (lk pfN n e x))) (U.cat (nat_lit 0)
      (fun x => ((0 : Int), PUnit.unit)) e) fun x_1 => (x, PUnit.unit)) fun i => e (i + U.toNat (Int.ofNat (lk pfN n e x)))))))))))) := by kernel_rfl
end Go.RX.Span

/- Sparse domains: the reference's put. -/
set_option linter.unusedVariables false
set_option linter.unusedSimpArgs false
set_option maxRecDepth 100000
namespace Go.RX.Span
open Go Go.RX
attribute [local irreducible] sx conB

def pfL (l : List Int) (x : Int) : Nat := (l.takeWhile fun y => decide (y < x)).length
theorem pfL_cons (y x : Int) (l : List Int) : pfL (y :: l) x = if y < x then pfL l x + 1 else 0 := by
  unfold pfL
  rw [List.takeWhile_cons]
  by_cases h : y < x
  · simp [h]
  · simp [h]
theorem pfL_le (x : Int) : ∀ l : List Int, pfL l x ≤ l.length
  | [] => Nat.le_refl _
  | y :: l => by
    rw [pfL_cons]
    have := pfL_le x l
    split <;> simp <;> omega
theorem pfL_lt (x : Int) : ∀ (l : List Int) (i : Nat), i < pfL l x → l.getD i 0 < x
  | [], i, h => absurd h (Nat.not_lt_zero i)
  | y :: l, i, h => by
    rw [pfL_cons] at h
    by_cases g : y < x
    · rw [if_pos g] at h
      cases i with
      | zero => exact g
      | succ i => exact pfL_lt x l i (by omega)
    · rw [if_neg g] at h; omega
theorem pfL_at (x : Int) : ∀ l : List Int, pfL l x < l.length → x ≤ l.getD (pfL l x) 0
  | [], h => absurd h (Nat.not_lt_zero _)
  | y :: l, h => by
    rw [pfL_cons] at h ⊢
    by_cases g : y < x
    · rw [if_pos g] at h ⊢
      exact pfL_at x l (by simp at h; omega)
    · rw [if_neg g]; show x ≤ y; omega
theorem putI_split (x : Int) : ∀ l : List Int, putI l x = if pfL l x < l.length ∧ l.getD (pfL l x) 0 = x then l else l.take (pfL l x) ++ x :: l.drop (pfL l x)
  | [] => rfl
  | y :: l => by
    have ih := putI_split x l
    unfold putI
    rw [pfL_cons]
    by_cases g : y < x
    · rw [if_pos g, if_pos g, ih]
      by_cases c : pfL l x < l.length ∧ l.getD (pfL l x) 0 = x
      · rw [if_pos c, if_pos ⟨by simp; exact c.1, c.2⟩]
      · rw [if_neg c, if_neg (fun h => c ⟨by have := h.1; simp at this; exact this, h.2⟩)]; rfl
    · rw [if_neg g, if_neg g]
      by_cases c : y = x
      · rw [if_pos c, if_pos ⟨by simp, c⟩]
      · rw [if_neg c, if_neg (fun h => c h.2)]; rfl
theorem pf_is (n : Nat) (e : Nat → R1) (x : Int) : pfN n e x ≤ n ∧ (∀ i, i < pfN n e x → nv e i < x) ∧ (pfN n e x < n → x ≤ nv e (pfN n e x)) := by
  have h1 := pfL_le x (nl n e)
  rw [nl_len] at h1
  have hp : pfN n e x = pfL (nl n e) x := rfl
  refine ⟨h1, fun i hi => ?_, fun h => ?_⟩
  · have := pfL_lt x (nl n e) i hi
    rwa [nl_get (by omega)] at this
  · have := pfL_at x (nl n e) (by rw [nl_len]; exact h)
    rw [← hp, nl_get h] at this
    exact this
theorem pf_of {n : Nat} {e : Nat → R1} {x : Int} {i : Nat} (hi : i ≤ n) (h1 : ∀ j, j < i → nv e j < x) (h2 : i < n → x ≤ nv e i) : pfN n e x = i := by
  obtain ⟨a, b, c⟩ := pf_is n e x
  rcases Nat.lt_trichotomy (pfN n e x) i with g | g | g
  · have := h1 _ g; have := c (by omega); omega
  · exact g
  · have := b _ g; have := h2 (by omega); omega
theorem pu_same {n : Nat} {e : Nat → R1} {x : Int} (h : pfN n e x < n) (hx : nv e (pfN n e x) = x) : puL n e x = nl n e := by
  unfold puL
  have hp : pfN n e x = pfL (nl n e) x := rfl
  rw [putI_split, if_pos ⟨by rw [← hp, nl_len]; exact h, by rw [← hp, nl_get h]; exact hx⟩]
theorem pu_new {n : Nat} {e : Nat → R1} {x : Int} (h : pfN n e x < n → nv e (pfN n e x) ≠ x) : puN n e x = n + 1 ∧ (∀ j, j < pfN n e x → puF n e x j = e j) ∧ puF n e x (pfN n e x) = (x, ()) ∧ ∀ j, pfN n e x < j → j < n + 1 → puF n e x j = e (j - 1) := by
  have hp : pfN n e x = pfL (nl n e) x := rfl
  have hle := (pf_is n e x).1
  have e0 : puL n e x = (nl n e).take (pfN n e x) ++ x :: (nl n e).drop (pfN n e x) := by
    unfold puL
    rw [putI_split, if_neg, ← hp]
    rintro ⟨g1, g2⟩
    rw [← hp, nl_len] at g1
    rw [← hp, nl_get g1] at g2
    exact h g1 g2
  have el : ((nl n e).take (pfN n e x)).length = pfN n e x := by rw [List.length_take, nl_len]; omega
  have r1 : ∀ {a b : R1}, a.1 = b.1 → a = b := fun h => Prod.ext h rfl
  refine ⟨?_, fun j hj => ?_, ?_, fun j h1 h2 => ?_⟩
  · unfold puN; rw [e0, List.length_append, el, List.length_cons, List.length_drop, nl_len]; omega
  · refine r1 ?_
    show (puL n e x).getD j 0 = nv e j
    rw [e0, List.getD_eq_getElem?_getD, List.getElem?_append_left (by omega), List.getElem?_take_of_lt hj, ← List.getD_eq_getElem?_getD, nl_get (by omega)]
  · refine r1 ?_
    show (puL n e x).getD _ 0 = x
    rw [e0, List.getD_eq_getElem?_getD, List.getElem?_append_right (by omega), el, Nat.sub_self]; rfl
  · refine r1 ?_
    show (puL n e x).getD j 0 = nv e (j - 1)
    rw [e0, List.getD_eq_getElem?_getD, List.getElem?_append_right (by omega), el]
    obtain ⟨d, hd⟩ : ∃ d, j - pfN n e x = d + 1 := ⟨j - pfN n e x - 1, by omega⟩
    rw [hd, List.getElem?_cons_succ, List.getElem?_drop, ← List.getD_eq_getElem?_getD, nl_get (by omega)]
    exact congrArg (nv e) (by omega)
structure XPu where
  (n : Nat) (e : Nat → R1) (x : Int) (i : Nat)
noncomputable abbrev VPu (q : XPu) : Few := (slPu q.n q.e q.x q.i, [])
noncomputable def OPu (q : XPu) : Ex × Few := (.exit 0, (slPu q.n q.e q.x ((pfN q.n q.e q.x : Nat) : Int), []))
def PhiPu (n0 : Nat) (q : XPu) : Prop := n0 = 0 ∧ Sm q.n ∧ q.i ≤ q.n ∧ ∀ j, j < q.i → nv q.e j < q.x
theorem wPu {vs vs' : List SV} (h : RlL (idR 0) vs vs') : Wk 45 [0,1,5] 0 (vs, []) (vs', []) := wk_of (idR 0) rfl (Nat.zero_le _) (fun b hb => by omega) h trivial
theorem roundPu (n0 : Nat) (q : XPu) (hq : PhiPu n0 q) : ((sx E0 [] n0 (loopOf P 72 2) (mkS 45 [0,1,5] (VPu q).1, (VPu q).2)).bind (proj 45 [0,1,5])).All fun r => match r.1 with
      | .normal => ∃ q', PhiPu n0 q' ∧ q'.n - q'.i < q.n - q.i ∧ Wk 45 [0,1,5] n0 r.2 (VPu q') ∧ ∀ o, o = OPu q' → o = OPu q
      | e => ∃ s, (e, s) = OPu q ∧ Wk 45 [0,1,5] n0 r.2 s := by
  obtain ⟨n, e, x, i⟩ := q
  obtain ⟨h0, hn, hi, hall⟩ := hq
  have h0 : n0 = 0 := h0
  have hn : n ≤ 100000 := hn
  have hi : i ≤ n := hi
  have hall : ∀ j, j < i → nv e j < x := hall
  subst h0
  refine T.all_of_eq (t_Pu n e x (i : Int)) ?_
  have out : pfN n e x = i → ∃ s, (Ex.exit 0, s) = OPu ⟨n, e, x, i⟩ ∧ Wk 45 [0,1,5] 0 (slPu n e x (i : Int), []) s := fun h =>
    ⟨_, rfl, wPu ⟨⟨rfl, row1H fun _ _ => rfl⟩, rfl, by show Value.int .i64 (i : Int) = Value.int .i64 ((pfN n e x : Nat) : Int); rw [h], trivial⟩⟩
  by_cases hlt : i < n
  · rw [add1p (j := i) (by omega), tnH]
    refine ⟨fun _ => ⟨⟨by omega, by omega⟩, fun g => ?_, fun g => ?_⟩, fun g => absurd (U.lt_f.mp g) (by simp only [Int.ofNat_eq_natCast]; omega)⟩
    · have g : nv e i < x := U.lt_t.mp g
      refine ⟨⟨n, e, x, i + 1⟩, ⟨rfl, hn, hlt, fun j hj => ?_⟩, (show n - (i + 1) < n - i by omega), wPu ⟨⟨rfl, row1H fun _ _ => rfl⟩, rfl, rfl, trivial⟩, fun o ho => ho⟩
      by_cases ej : j = i
      · subst ej; exact g
      · exact hall j (by have : j < i + 1 := hj; omega)
    · have g : x ≤ nv e i := U.lt_f.mp g
      exact out (pf_of hi hall fun _ => g)
  · obtain rfl : i = n := by omega
    exact ⟨fun g => absurd (U.lt_t.mp g) (by simp only [Int.ofNat_eq_natCast]; omega), fun _ => out (pf_of hi hall fun h => absurd h hlt)⟩
theorem loopPu : LoopOK P (loopOf P 72 2) (few 45 [0,1,5] gPu) :=
  loop_few (E := E0) mixed E0_ok loopsOK_none 45 [0,1,5] (X := XPu) gPu (fun _ x => VPu x) PhiPu (fun q => q.n - q.i) (fun _ x o => o = OPu x)
    (fun n0 st r h => by
      unfold gPu at h
      split at h
      · obtain ⟨h0, hp⟩ := (T.is_ask h).1
        obtain rfl := T.is_ret (T.is_ask h).2
        subst h0
        exact ⟨⟨_, _, _, 0⟩, ⟨rfl, hp, Nat.zero_le _, fun j hj => absurd hj (Nat.not_lt_zero j)⟩, wPu ⟨⟨rfl, row1H fun _ _ => rfl⟩, rfl, rfl, trivial⟩, fun o ho => by rw [ho]; simp only [lk_eq]; rfl⟩
      · exact h.elim)
    roundPu
theorem lPu_ok : ∀ p ∈ lPu, LoopsOK P p.2 (bodyOf P p.1) := by
  intro p hp
  simp only [lPu, List.mem_singleton] at hp
  subst hp
  refine loopsOK_of (by kernel_rfl) fun k g hk => ?_
  simp only [List.mem_singleton, Prod.mk.injEq, LoopC.sum.injEq] at hk
  obtain ⟨rfl, rfl⟩ := hk
  exact loopPu
theorem put_ok : ConOK P 72 c_put := con_cl (allOKL mixed none_ok lPu_ok) 10 72 fun args r h => by
  unfold c_put at h
  split at h
  · rename_i n e x
    have hp := (T.is_ask h).1
    obtain rfl := T.is_ret (T.is_ask h).2
    rw [lk_eq] at hp
    have hn : n ≤ 100000 := hp
    refine T.all_of_eq (t_put n e x) ?_
    have t2 : U.toNat (Int.ofNat (pfN n e x)) = pfN n e x := tn _
    simp only [lk_eq, tnH, t2, U.nsub_eq, Int.ofNat_eq_natCast]
    obtain ⟨p1, p2, p3⟩ := pf_is n e x
    have main : (pfN n e x < n → nv e (pfN n e x) ≠ x) → Cl (SV.row [Sh.int IntKind.i64] ((0 + pfN n e x).add 1 + (n - pfN n e x)) (U.cat ((0 + pfN n e x).add 1) (U.cat (0 + pfN n e x) (U.cat 0 (fun _ => ((0 : Int), PUnit.unit)) e) fun _ => (x, PUnit.unit)) fun i => e (i + pfN n e x))) (SV.row [Sh.int IntKind.i64] (puN n e x) (puF n e x)) := fun h => by
      obtain ⟨a1, a2, a3, a4⟩ := pu_new h
      refine ⟨?_, row1H fun j hj => ?_⟩
      · show (0 + pfN n e x + 1) + (n - pfN n e x) = _
        rw [a1]; omega
      · have hj : j < (0 + pfN n e x + 1) + (n - pfN n e x) := hj
        refine (U.cat_eq _ _ _ _).trans ?_
        by_cases g : j < 0 + pfN n e x + 1
        · refine (if_pos g).trans ((U.cat_eq _ _ _ _).trans ?_)
          by_cases g2 : j < 0 + pfN n e x
          · exact (if_pos g2).trans ((U.cat_eq _ _ _ _).trans ((if_neg (Nat.not_lt_zero _)).trans (a2 j (by omega)).symm))
          · obtain rfl : j = pfN n e x := by omega
            exact (if_neg g2).trans a3.symm
        · refine (if_neg g).trans (Eq.trans ?_ (a4 j (by omega) (by omega)).symm)
          show e (j - (0 + pfN n e x + 1) + pfN n e x) = e (j - 1)
          exact congrArg e (by omega)
    refine ⟨⟨trivial, hp⟩, fun g => ⟨⟨by omega, by have := U.lt_t.mp g; omega⟩, fun g2 => ?_, fun g2 => ⟨⟨by omega, by omega, by omega⟩, by omega, by omega, ⟨by omega, by omega, by omega⟩, by omega, main fun _ => U.eq_f.mp g2⟩⟩, fun g => ⟨⟨by omega, by omega, by omega⟩, by omega, by omega, ⟨by omega, by omega, by omega⟩, by omega, main fun h => absurd (U.lt_f.mp g) (by omega)⟩⟩
    have g := U.lt_t.mp g
    have e0 := pu_same (n := n) (e := e) (x := x) (by omega) (U.eq_t.mp g2)
    refine ⟨?_, row1H fun j hj => ?_⟩
    · unfold puN; rw [e0, nl_len]
    · refine Prod.ext ?_ rfl
      show nv e j = (puL n e x).getD j 0
      rw [e0, nl_get hj]
  · exact h.elim
end Go.RX.Span

/- Sparse domains: Transpose. -/
set_option linter.unusedVariables false
set_option linter.unusedSimpArgs false
set_option maxRecDepth 100000
namespace Go.RX.Span
open Go Go.RX
attribute [local irreducible] sx conB

theorem asc_nl {m : Nat} {e : Nat → R1} (h : BsAsk m e) : Asc (nl m e) := by
  unfold Asc nl
  rw [List.pairwise_map]
  exact List.Pairwise.imp_of_mem (fun {a b} _ hb hab => h.2 a b hab (List.mem_range.1 hb)) List.pairwise_lt_range
theorem mem_nl {m : Nat} {e : Nat → R1} {x : Int} : x ∈ nl m e ↔ ∃ i, i < m ∧ nv e i = x := by
  unfold nl
  rw [List.mem_map]
  exact ⟨fun ⟨i, h1, h2⟩ => ⟨i, List.mem_range.1 h1, h2⟩, fun ⟨i, h1, h2⟩ => ⟨i, List.mem_range.2 h1, h2⟩⟩
end Go.RX.Span

/- Sparse domains: the reference's Transpose. -/
set_option linter.unusedVariables false
set_option linter.unusedSimpArgs false
set_option maxRecDepth 100000
namespace Go.RX.Span
open Go Go.RX
attribute [local irreducible] sx conB

theorem bx_rl {ρ : Ren} {n : Nat} {f : Nat → R3} {k s h : Int} {m : Nat} {e : Nat → R1} : RlL ρ [.row [.int .i64, .int .i64, .int .i64] n f, .lit (.int .i64 k), .lit (.int .i64 s), .lit (.int .i64 h), .row [.int .i64] m e] [.row [.int .i64, .int .i64, .int .i64] n f, .lit (.int .i64 k), .lit (.int .i64 s), .lit (.int .i64 h), .row [.int .i64] m e] :=
  ⟨⟨rfl, sameRow_refl _ _⟩, rfl, rfl, rfl, ⟨rfl, sameRow_refl _ _⟩, trivial⟩
theorem ofL_le (ps : List Int) : (ofL ps).length ≤ ps.length := by rw [ofL_len]; exact ddL_len ps
end Go.RX.Span

/- Sparse domains: the reference's Check of a domain without positions. -/
set_option linter.unusedVariables false
set_option linter.unusedSimpArgs false
set_option maxRecDepth 100000
namespace Go.RX.Span
open Go Go.RX
attribute [local irreducible] sx conB

theorem con_arg {P : Program} {f : FuncId} {c c' : Con} (h : ConOK P f c) (g : ∀ args r, (c' args).Is r → ∃ args' r', ClL args args' ∧ (c args').Is r' ∧ Cl r' r) : ConOK P f c' := by
  intro args r hc lv w vals hlv hr
  obtain ⟨args', r', h1, h2, h3⟩ := g args r hc
  refine (h args' r' h2 lv w vals hlv (ClL.rep args args' vals h1 hr)).mono ?_
  rintro e w' ⟨v, g1, g2, g3⟩
  exact ⟨v, g1, g2, Cl.rep r' r v h3 g3⟩
noncomputable def c_SpCheckN : Con := fun args => match args with
  | [.agg [.row [.int .i64, .int .i64, .int .i64] n f, .lit (.int .i64 k), .lit (.int .i64 s), .lit (.int .i64 h), .row [.int .i64] m e]] => .ask (Row64 n f) (.ret (.lit (.int .i64 (lk spE n f k s h m e))))
  | [.agg [.row [.int .i64, .int .i64, .int .i64] n f, .lit (.int .i64 k), .lit (.int .i64 s), .lit (.int .i64 h), .lit (.slice none 0 0)]] => .ask (Row64 n f) (.ret (.lit (.int .i64 (lk pdE n f k s h))))
  | _ => .stuck 1
theorem spE_nil (n : Nat) (f : Nat → R3) (k s h : Int) (e : Nat → R1) : spE n f k s h 0 e = pdE n f k s h := by
  unfold spE
  by_cases g : pdE n f k s h = 0
  · have z : SpAt (szD n f k s h) 0 e := fun i hi => absurd hi (Nat.not_lt_zero i)
    rw [if_neg (fun x => x g), if_neg (by decide), if_pos z, g]
  · rw [if_pos g]
theorem clL_self4 {n : Nat} {f : Nat → R3} {k s h : Int} {x y : SV} (hx : Cl x y) : ClL [.row [.int .i64, .int .i64, .int .i64] n f, .lit (.int .i64 k), .lit (.int .i64 s), .lit (.int .i64 h), x] [.row [.int .i64, .int .i64, .int .i64] n f, .lit (.int .i64 k), .lit (.int .i64 s), .lit (.int .i64 h), y] :=
  ⟨⟨rfl, sameRow_refl _ _⟩, .inl rfl, .inl rfl, .inl rfl, hx, rfl⟩
theorem SpQCheckN_ok : ConOK P 33 c_SpCheckN := con_arg SpQCheck_ok fun args r hh => by
  unfold c_SpCheckN at hh
  split at hh
  · rename_i n f k s h m e
    have hp := (T.is_ask hh).1
    obtain rfl := T.is_ret (T.is_ask hh).2
    exact ⟨[.agg [.row [.int .i64, .int .i64, .int .i64] n f, .lit (.int .i64 k), .lit (.int .i64 s), .lit (.int .i64 h), .row [.int .i64] m e]], _, ⟨clL_self4 ⟨rfl, sameRow_refl _ _⟩, rfl⟩, ⟨hp, rfl⟩, .inl rfl⟩
  · rename_i n f k s h
    have hp := (T.is_ask hh).1
    obtain rfl := T.is_ret (T.is_ask hh).2
    refine ⟨[.agg [.row [.int .i64, .int .i64, .int .i64] n f, .lit (.int .i64 k), .lit (.int .i64 s), .lit (.int .i64 h), .row [.int .i64] 0 (lF [])]], _, ⟨clL_self4 (.inr ⟨rfl, rfl⟩), rfl⟩, ⟨hp, rfl⟩, ?_⟩
    simp only [lk_eq]
    rw [spE_nil]
    exact .inl rfl
  · exact hh.elim
end Go.RX.Span

/- Sparse domains: FromRows: the loops. -/
set_option linter.unusedVariables false
set_option linter.unusedSimpArgs false
set_option maxRecDepth 100000
namespace Go.RX.Span
open Go Go.RX
attribute [local irreducible] sx conB

theorem andb_t (u : Bool) : U.andb u (U.isz 0) = u := by rw [U.andb_eq, U.isz_eq]; simp
end Go.RX.Span

/- Sparse domains: short, few: what they call. -/
set_option linter.unusedVariables false
set_option linter.unusedSimpArgs false
set_option maxRecDepth 100000
namespace Go.RX.Span
open Go Go.RX
attribute [local irreducible] sx conB

noncomputable abbrev kSh : List (Nat × Con) := [(19, c_Check), (20, c_Size), (35, c_Equal3), (23, c_Equal)] --%K
theorem kSh_ok : ∀ p ∈ kSh, ConOK P p.1 p.2 := by
  intro p hp
  simp only [kSh, List.mem_cons, List.not_mem_nil, or_false] at hp
  rcases hp with rfl | rfl | rfl | rfl
  · exact rCheck_ok
  · exact rSize_ok
  · exact Equal3_ok
  · exact Equal_ok
noncomputable abbrev ESh : Env := ⟨P, conOf kSh, scall P (conOf kSh) noLoops 10⟩
theorem ESh_ok : EnvOK ESh := envOK (allOK mixed kSh_ok) 10
end Go.RX.Span

/- Sparse domains: short, few, same: the states. -/
set_option linter.unusedVariables false
set_option linter.unusedSimpArgs false
set_option maxRecDepth 100000
namespace Go.RX.Span
open Go Go.RX
attribute [local irreducible] sx conB

def longB (r : R3) : Bool := decide (chk r.1 r.2.1 r.2.2.1 = 0 ∧ 1000 < size r.1 r.2.1 r.2.2.1)
def anyB (n : Nat) (f : Nat → R3) : Bool := (List.range n).any fun i => longB (f i)
def shB (n : Nat) (f : Nat → R3) : Bool := decide (n ≤ 10) && !(anyB n f)
def fwB (n : Nat) (f : Nat → R3) (m : Nat) : Bool := shB n f && decide (m ≤ 100)
def PreIx (n0 : Nat) (n : Nat) (f : Nat → R3) : Prop := n0 = 0 ∧ n ≤ 10 ∧ Row64 n f
noncomputable abbrev slIx (n : Nat) (f : Nat → R3) (i : Int) : List SV := [.row [.int .i64, .int .i64, .int .i64] n f, .fn (.func 18) [] [], .any, .lit (.int .i64 (n : Int)), .lit (.int .i64 i)]
open Classical in
noncomputable def fstI (n : Nat) (f : Nat → R3) : Nat := if h : ∃ i, i < n ∧ longB (f i) = true ∧ ∀ j, j < i → longB (f j) = false then h.choose else 0
theorem fstI_eq {n : Nat} {f : Nat → R3} {i : Nat} (h1 : i < n) (h2 : longB (f i) = true) (h3 : ∀ j, j < i → longB (f j) = false) : fstI n f = i := by
  have h : ∃ i, i < n ∧ longB (f i) = true ∧ ∀ j, j < i → longB (f j) = false := ⟨i, h1, h2, h3⟩
  unfold fstI
  rw [dif_pos h]
  obtain ⟨g1, g2, g3⟩ := h.choose_spec
  rcases Nat.lt_trichotomy h.choose i with g | g | g
  · rw [h3 _ g] at g2; cases g2
  · exact g
  · rw [g3 _ g] at h2; cases h2
noncomputable def gIx : Nat → Few → T (Ex × Few)
  | n0, ([.row [.int .i64, .int .i64, .int .i64] n f, .fn (.func g) [] [], _, .lit (.int .i64 N), .ki .i64 z], []) =>
    .ask (lk PreIx n0 n f ∧ g = 18 ∧ N = (n : Int) ∧ z = 0) (.br (lk anyB n f) (.ret (.ret, ([.any, .any, .lit (.int .i64 ((lk fstI n f : Nat) : Int)), .any, .any], []))) (.ret (.exit 0, ([.any, .any, .any, .any, .any], []))))
  | _, _ => .stuck 1
noncomputable abbrev lIx : List (Nat × Loops) := [(41, [(2, .sum (few 19 [0,1,4,7,8] gIx))])] --%K
noncomputable def c_CF : Con := fun args => match args with
  | [.row [.int .i64, .int .i64, .int .i64] n f, .fn (.func g) [] []] => .ask (lk PreIx 0 n f ∧ g = 18) (.ret (.lit (.bool (lk anyB n f))))
  | _ => .stuck 1
noncomputable def c_short : Con := fun args => match args with
  | [.agg [.row [.int .i64, .int .i64, .int .i64] n f, .lit (.int .i64 k), .lit (.int .i64 s), .lit (.int .i64 h)]] => .ask (Row64 n f) (.ret (.lit (.bool (lk shB n f))))
  | _ => .stuck 1
noncomputable def c_few : Con := fun args => match args with
  | [.agg [.row [.int .i64, .int .i64, .int .i64] n f, .lit (.int .i64 k), .lit (.int .i64 s), .lit (.int .i64 h), .row [.int .i64] m e]] => .ask (Row64 n f) (.ret (.lit (.bool (lk fwB n f m))))
  | _ => .stuck 1
noncomputable def smB (n : Nat) (f : Nat → R3) (k s h : Int) (m : Nat) (e : Nat → R1) (n1 : Nat) (f1 : Nat → R3) (k1 s1 h1 : Int) (m1 : Nat) (e1 : Nat → R1) : Bool := eqR3 n f n1 f1 && (decide (k = k1 ∧ s = s1 ∧ h = h1) && eqR m e m1 e1)
noncomputable def c_same : Con := fun args => match args with
  | [.agg [.row [.int .i64, .int .i64, .int .i64] n f, .lit (.int .i64 k), .lit (.int .i64 s), .lit (.int .i64 h), .row [.int .i64] m e], .agg [.row [.int .i64, .int .i64, .int .i64] n1 f1, .lit (.int .i64 k1), .lit (.int .i64 s1), .lit (.int .i64 h1), .row [.int .i64] m1 e1]] =>
    .ask (n ≤ top ∧ m ≤ top) (.ret (.lit (.bool (lk smB n f k s h m e n1 f1 k1 s1 h1 m1 e1))))
  | _ => .stuck 1
noncomputable abbrev kS2 : List (Nat × Con) := (17, c_CF) :: kSh --%K
noncomputable abbrev kS3 : List (Nat × Con) := (5, c_short) :: kS2 --%K
end Go.RX.Span

/- Sparse domains: short, few, same: the walks. -/
set_option linter.unusedVariables false
set_option linter.unusedSimpArgs false
set_option maxRecDepth 100000
namespace Go.RX.Span
open Go Go.RX
attribute [local irreducible] sx conB

--%R < ↑(\w+)\b => < ((\1 : Nat) : Int)
--%R ↑(\w+) (=|≤) => ((\1 : Nat) : Int) \2
set_option maxRecDepth 100000 in
theorem t_Ix (n : Nat) (f : Nat → R3) (i : Int) : (sx ESh [] 0 (loopOf P 41 2) (mkS 19 [0,1,4,7,8] (slIx n f i), [])).bind (proj 19 [0,1,4,7,8]) =
    T.br (U.lt i (Int.ofNat n)) (.ask ((0 : Int) ≤ i ∧ i < ((n : Nat) : Int)) (.ask (I64 (f (U.toNat i)).1 ∧ I64 (f (U.toNat i)).2.1 ∧ I64 (f (U.toNat i)).2.2.1) (.br (U.eq (lk chk (f
      (U.toNat i)).1 (f (U.toNat i)).2.1 (f (U.toNat i)).2.2.1) (0 : Int)) (.ask (I64 (f (U.toNat i)).1 ∧ I64 (f (U.toNat i)).2.1 ∧ I64 (f (U.toNat i)).2.2.1) (.br (U.gt (lk size (f
      (U.toNat i)).1 (f (U.toNat i)).2.1 (f (U.toNat i)).2.2.1) (1000 : Int)) (.ret (Ex.ret, [.row [.int .i64, .int .i64, .int .i64] n f, SV.fn (Fn.func (nat_lit 18)) [] [], .lit (.int
      .i64 i), .lit (.int .i64 (Int.ofNat n)), .lit (.int .i64 i)], [(nat_lit 0, some (Blk.cells [.lit (.int .i64 (f (U.toNat i)).1), .lit (.int .i64 (f (U.toNat i)).2.1), .lit (.int .i64
      (f (U.toNat i)).2.2.1)] (nat_lit 46)))])) (.ret (Ex.normal, [.row [.int .i64, .int .i64, .int .i64] n f, SV.fn (Fn.func (nat_lit 18)) [] [], SV.any, .lit (.int .i64 (Int.ofNat n)),
      .lit (.int .i64 (U.add .i64 i (1 : Int)))], [(nat_lit 0, some (Blk.cells [.lit (.int .i64 (f (U.toNat i)).1), .lit (.int .i64 (f (U.toNat i)).2.1), .lit (.int .i64 (f (U.toNat
      i)).2.2.1)] (nat_lit 46)))])))) (.ret (Ex.normal, [.row [.int .i64, .int .i64, .int .i64] n f, SV.fn (Fn.func (nat_lit 18)) [] [], SV.any, .lit (.int .i64 (Int.ofNat n)), .lit (.int
      .i64 (U.add .i64 i (1 : Int)))], [(nat_lit 0, some (Blk.cells [.lit (.int .i64 (f (U.toNat i)).1), .lit (.int .i64 (f (U.toNat i)).2.1), .lit (.int .i64 (f (U.toNat i)).2.2.1)]
      (nat_lit 46)))]))))) (.ret (Ex.exit (nat_lit 0), [.row [.int .i64, .int .i64, .int .i64] n f, SV.fn (Fn.func (nat_lit 18)) [] [], SV.any, .lit (.int .i64 (Int.ofNat n)), .lit (.int
      .i64 i)], [])) := by kernel_rfl
set_option maxRecDepth 100000 in
theorem t_CF (n : Nat) (f : Nat → R3) : conB Go.Proofs.Tryz.prog (conOf kSh) (loopsOf lIx) 10 17 [.row [.int .i64, .int .i64, .int .i64] n f, .fn (.func 18) [] []] =
    T.ask (lk PreIx (nat_lit 0) n f ∧ (18 : FuncId) = (18 : FuncId) ∧ ((n : Nat) : Int) = ↑n ∧ (0 : Int) = (0 : Int)) (.br (lk anyB n f) (.ret (.lit (.bool (U.ge (Int.ofNat (lk fstI n
      f)) (0 : Int))))) (.ret (.lit (.bool false)))) := by kernel_rfl
set_option maxRecDepth 100000 in
theorem t_short (n : Nat) (f : Nat → R3) (k s h : Int) : conB Go.Proofs.Tryz.prog (conOf kS2) noLoops 10 5 [.agg [.row [.int .i64, .int .i64, .int .i64] n f, .lit (.int .i64 k), .lit (.int .i64 s), .lit (.int .i64 h)]] =
    T.br (U.le (Int.ofNat n) (10 : Int)) (.ask (lk PreIx (0 : Nat) n f ∧ (18 : Nat) = (18 : FuncId)) (.ret (.lit (.bool (U.not (lk anyB n f)))))) (.ret (.lit (.bool false))) := by kernel_rfl
set_option maxRecDepth 100000 in
theorem t_few (n : Nat) (f : Nat → R3) (k s h : Int) (m : Nat) (e : Nat → R1) : conB Go.Proofs.Tryz.prog (conOf kS3) noLoops 10 4 [.agg [.row [.int .i64, .int .i64, .int .i64] n f, .lit (.int .i64 k), .lit (.int .i64 s), .lit (.int .i64 h), .row [.int .i64] m e]] =
    T.ask (Row64 n f) (.br (lk shB n f) (.ret (.lit (.bool (U.le (Int.ofNat m) (100 : Int))))) (.ret (.lit (.bool false)))) := by kernel_rfl
set_option maxRecDepth 100000 in
theorem t_same (n : Nat) (f : Nat → R3) (k s h : Int) (m : Nat) (e : Nat → R1) (n1 : Nat) (f1 : Nat → R3) (k1 s1 h1 : Int) (m1 : Nat) (e1 : Nat → R1) : conB Go.Proofs.Tryz.prog (conOf kS3) noLoops 10 10 [.agg [.row [.int .i64, .int .i64, .int .i64] n f, .lit (.int .i64 k), .lit (.int .i64 s), .lit (.int .i64 h), .row [.int .i64] m e], .agg [.row [.int .i64, .int .i64, .int .i64] n1 f1, .lit (.int .i64 k1), .lit (.int .i64 s1), .lit (.int .i64 h1), .row [.int .i64] m1 e1]] =
    T.ask (n ≤ nat_lit 9223372036854775807) (.br (lk eqR3 n f n1 f1) (.br (U.andb (U.eq k k1) (U.andb (U.eq s s1) (U.eq h h1))) (.ask (m ≤ nat_lit 9223372036854775807) (.ret (.lit
      (.bool (lk eqR m e m1 e1))))) (.ret (.lit (.bool false)))) (.ret (.lit (.bool false)))) := by kernel_rfl
end Go.RX.Span

/- Sparse domains: short, few, same. -/
set_option linter.unusedVariables false
set_option linter.unusedSimpArgs false
set_option maxRecDepth 100000
namespace Go.RX.Span
open Go Go.RX
attribute [local irreducible] sx conB

theorem anyB_t {n : Nat} {f : Nat → R3} : anyB n f = true ↔ ∃ i, i < n ∧ longB (f i) = true := by
  unfold anyB
  rw [List.any_eq_true]
  exact ⟨fun ⟨i, h1, h2⟩ => ⟨i, List.mem_range.1 h1, h2⟩, fun ⟨i, h1, h2⟩ => ⟨i, List.mem_range.2 h1, h2⟩⟩
structure XIx where
  (n : Nat) (f : Nat → R3) (i : Nat)
noncomputable abbrev VIx (q : XIx) : Few := (slIx q.n q.f q.i, [])
noncomputable def O1Ix (q : XIx) : Ex × Few := (.ret, ([.any, .any, .lit (.int .i64 ((fstI q.n q.f : Nat) : Int)), .any, .any], []))
noncomputable def O2Ix : Ex × Few := (.exit 0, ([.any, .any, .any, .any, .any], []))
def PhiIx (n0 : Nat) (q : XIx) : Prop := PreIx n0 q.n q.f ∧ q.i ≤ q.n ∧ ∀ j, j < q.i → longB (q.f j) = false
def ZIx (q : XIx) (o : Ex × Few) : Prop := (anyB q.n q.f = true → o = O1Ix q) ∧ (anyB q.n q.f = false → o = O2Ix)
theorem wIx {vs vs' : List SV} {m : Mem} (h : RlL (idR 0) vs vs') : Wk 19 [0,1,4,7,8] 0 (vs, m) (vs', []) := wk_of (idR 0) rfl (Nat.zero_le _) (fun b hb => by omega) h trivial
theorem roundIx (n0 : Nat) (q : XIx) (hq : PhiIx n0 q) : ((sx ESh [] n0 (loopOf P 41 2) (mkS 19 [0,1,4,7,8] (VIx q).1, (VIx q).2)).bind (proj 19 [0,1,4,7,8])).All fun r => match r.1 with
      | .normal => ∃ q', PhiIx n0 q' ∧ q'.n - q'.i < q.n - q.i ∧ Wk 19 [0,1,4,7,8] n0 r.2 (VIx q') ∧ ∀ o, ZIx q' o → ZIx q o
      | e => ∃ s, ZIx q (e, s) ∧ Wk 19 [0,1,4,7,8] n0 r.2 s := by
  obtain ⟨n, f, i⟩ := q
  obtain ⟨hp, hi, hall⟩ := hq
  have hp : PreIx n0 n f := hp
  have hi : i ≤ n := hi
  have hall : ∀ j, j < i → longB (f j) = false := hall
  have hp' := hp
  obtain ⟨h0, hn, hr⟩ := hp'
  subst h0
  refine T.all_of_eq (t_Ix n f (i : Int)) ?_
  have st : ∀ (v : SV), RlL (idR 0) [.row [.int .i64, .int .i64, .int .i64] n f, .fn (.func 18) [] [], v, .lit (.int .i64 (n : Int)), .lit (.int .i64 ((i + 1 : Nat) : Int))] (slIx n f ((i + 1 : Nat) : Int)) := fun v => ⟨⟨rfl, sameRow_refl _ _⟩, ⟨rfl, trivial, trivial⟩, rl_any _, rfl, rfl, trivial⟩
  by_cases hlt : i < n
  · rw [add1p (j := i) (by omega), tnH]
    simp only [lk_eq]
    have next : longB (f i) = false → ∀ (v : SV) (m : Mem), ∃ q', PhiIx 0 q' ∧ q'.n - q'.i < n - i ∧ Wk 19 [0,1,4,7,8] 0 ([.row [.int .i64, .int .i64, .int .i64] n f, .fn (.func 18) [] [], v, .lit (.int .i64 (n : Int)), .lit (.int .i64 ((i + 1 : Nat) : Int))], m) (VIx q') ∧ ∀ o, ZIx q' o → ZIx ⟨n, f, i⟩ o := fun hb v m =>
      ⟨⟨n, f, i + 1⟩, ⟨hp, hlt, fun j hj => by
        have hj : j < i + 1 := hj
        by_cases ej : j = i
        · subst ej; exact hb
        · exact hall j (by omega)⟩, (show n - (i + 1) < n - i by omega), wIx (st v), fun o ho => ho⟩
    refine ⟨fun _ => ⟨⟨by omega, by omega⟩, hr i hlt, fun g => ⟨hr i hlt, fun g2 => ?_, fun g2 => ?_⟩, fun g => ?_⟩, fun g => absurd (U.lt_f.mp g) (by simp only [Int.ofNat_eq_natCast]; omega)⟩
    · have hl : longB (f i) = true := decide_eq_true ⟨U.eq_t.mp g, by have := U.gt_t.mp g2; exact this⟩
      have ha : anyB n f = true := anyB_t.2 ⟨i, hlt, hl⟩
      have hf := fstI_eq hlt hl hall
      refine ⟨(O1Ix ⟨n, f, i⟩).2, ⟨fun _ => rfl, fun h => by have h : anyB n f = false := h; rw [ha] at h; cases h⟩, wIx ⟨rl_any _, rl_any _, ?_, rl_any _, rl_any _, trivial⟩⟩
      show Value.int .i64 (i : Int) = Value.int .i64 ((fstI n f : Nat) : Int)
      rw [hf]
    · have hl : longB (f i) = false := decide_eq_false fun h => by have := U.gt_f.mp g2; omega
      exact next hl _ _
    · have hl : longB (f i) = false := decide_eq_false fun h => U.eq_f.mp g h.1
      exact next hl _ _
  · obtain rfl : i = n := by omega
    have ha : anyB i f = false := by
      cases hb : anyB i f
      · rfl
      · obtain ⟨j, h1, h2⟩ := anyB_t.1 hb
        rw [hall j h1] at h2; cases h2
    refine ⟨fun g => absurd (U.lt_t.mp g) (by simp only [Int.ofNat_eq_natCast]; omega), fun _ => ⟨O2Ix.2, ⟨(fun h => by have h : anyB i f = true := h; rw [ha] at h; cases h), fun _ => rfl⟩, wIx ⟨rl_any _, rl_any _, rl_any _, rl_any _, rl_any _, trivial⟩⟩⟩
theorem loopIx : LoopOK P (loopOf P 41 2) (few 19 [0,1,4,7,8] gIx) :=
  loop_few (E := ESh) mixed ESh_ok loopsOK_none 19 [0,1,4,7,8] (X := XIx) gIx (fun _ x => VIx x) PhiIx (fun q => q.n - q.i) (fun _ x o => ZIx x o)
    (fun n0 st r hh => by
      unfold gIx at hh
      split at hh
      · rename_i n0 n f g s2 N z
        obtain ⟨hp, rfl, rfl, rfl⟩ := (T.is_ask hh).1
        have hb := (T.is_ask hh).2
        rw [lk_eq] at hp
        have h0 := hp.1
        subst h0
        refine ⟨⟨n, f, 0⟩, ⟨hp, Nat.zero_le _, fun j hj => absurd hj (Nat.not_lt_zero j)⟩, wIx ⟨⟨rfl, sameRow_refl _ _⟩, ⟨rfl, trivial, trivial⟩, rl_any _, rfl, rfl, trivial⟩, fun o ho => ?_⟩
        rcases hb with ⟨he, hb⟩ | ⟨he, hb⟩
        · rw [lk_eq] at he
          obtain rfl := T.is_ret hb
          rw [ho.1 he]; simp only [lk_eq]; rfl
        · rw [lk_eq] at he
          obtain rfl := T.is_ret hb
          exact ho.2 he
      · exact hh.elim)
    roundIx
theorem lIx_ok : ∀ p ∈ lIx, LoopsOK P p.2 (bodyOf P p.1) := by
  intro p hp
  simp only [lIx, List.mem_singleton] at hp
  subst hp
  refine loopsOK_of (by kernel_rfl) fun k g hk => ?_
  simp only [List.mem_singleton, Prod.mk.injEq, LoopC.sum.injEq] at hk
  obtain ⟨rfl, rfl⟩ := hk
  exact loopIx
theorem lb_eq {x y : Bool} (h : x = y) : SV.lit (.bool x) = SV.lit (.bool y) := by rw [h]
theorem CF_ok : ConOK P 17 c_CF := con_of (allOKL mixed kSh_ok lIx_ok) 10 17 fun args r hh => by
  unfold c_CF at hh
  split at hh
  · rename_i n f g
    obtain ⟨hp, rfl⟩ := (T.is_ask hh).1
    obtain rfl := T.is_ret (T.is_ask hh).2
    rw [lk_eq] at hp
    refine T.all_of_eq (t_CF n f) ?_
    simp only [lk_eq]
    exact ⟨⟨hp, trivial, trivial, trivial⟩, fun g => lb_eq ((U.ge_t.mpr (Int.natCast_nonneg _)).trans g.symm), fun g => lb_eq g.symm⟩
  · exact hh.elim
theorem kS2_ok : ∀ p ∈ kS2, ConOK P p.1 p.2 := by
  intro p hp
  rcases List.mem_cons.1 hp with rfl | hp
  · exact CF_ok
  · exact kSh_ok p hp
theorem short_ok : ConOK P 5 c_short := con_of (allOK mixed kS2_ok) 10 5 fun args r hh => by
  unfold c_short at hh
  split at hh
  · rename_i n f k s h
    have hp := (T.is_ask hh).1
    obtain rfl := T.is_ret (T.is_ask hh).2
    refine T.all_of_eq (t_short n f k s h) ?_
    simp only [lk_eq, Int.ofNat_eq_natCast]
    refine ⟨fun g => ⟨⟨⟨rfl, by have := U.le_t.mp g; omega, hp⟩, trivial⟩, lb_eq ?_⟩, fun g => lb_eq ?_⟩
    · have g := U.le_t.mp g
      unfold shB
      rw [decide_eq_true (show n ≤ 10 by omega), U.not_eq]; rfl
    · have g := U.le_f.mp g
      unfold shB
      rw [decide_eq_false (show ¬ n ≤ 10 by omega)]; rfl
  · exact hh.elim
theorem kS3_ok : ∀ p ∈ kS3, ConOK P p.1 p.2 := by
  intro p hp
  rcases List.mem_cons.1 hp with rfl | hp
  · exact short_ok
  · exact kS2_ok p hp
theorem few_ok : ConOK P 4 c_few := con_of (allOK mixed kS3_ok) 10 4 fun args r hh => by
  unfold c_few at hh
  split at hh
  · rename_i n f k s h m e
    have hp := (T.is_ask hh).1
    obtain rfl := T.is_ret (T.is_ask hh).2
    refine T.all_of_eq (t_few n f k s h m e) ?_
    simp only [lk_eq, Int.ofNat_eq_natCast]
    refine ⟨hp, fun g => lb_eq ?_, fun g => lb_eq ?_⟩
    · unfold fwB
      rw [g, U.le_eq, Bool.true_and]
      exact decide_eq_decide.2 (by omega)
    · unfold fwB; rw [g]; rfl
  · exact hh.elim
theorem same_ok : ConOK P 10 c_same := con_of (allOK mixed kS3_ok) 10 10 fun args r hh => by
  unfold c_same at hh
  split at hh
  · rename_i n f k s h m e n1 f1 k1 s1 h1 m1 e1
    obtain ⟨p1, p2⟩ := (T.is_ask hh).1
    obtain rfl := T.is_ret (T.is_ask hh).2
    refine T.all_of_eq (t_same n f k s h m e n1 f1 k1 s1 h1 m1 e1) ?_
    simp only [lk_eq]
    refine ⟨p1, fun g => ⟨fun g2 => ⟨p2, lb_eq ?_⟩, fun g2 => lb_eq ?_⟩, fun g => lb_eq ?_⟩
    · have g2 := U.andb_t.mp g2
      have g3 := U.andb_t.mp g2.2
      unfold smB
      rw [g, decide_eq_true (show k = k1 ∧ s = s1 ∧ h = h1 from ⟨U.eq_t.mp g2.1, U.eq_t.mp g3.1, U.eq_t.mp g3.2⟩)]; rfl
    · unfold smB
      rw [decide_eq_false (fun hx => by
        have : U.andb (U.eq k k1) (U.andb (U.eq s s1) (U.eq h h1)) = true := U.andb_t.mpr ⟨U.eq_t.mpr hx.1, U.andb_t.mpr ⟨U.eq_t.mpr hx.2.1, U.eq_t.mpr hx.2.2⟩⟩
        rw [this] at g2; cases g2)]
      cases eqR3 n f n1 f1 <;> rfl
    · unfold smB; rw [g]; rfl
  · exact hh.elim
end Go.RX.Span

