/- slices.Sort of whole numbers: the library's contract at this program. -/
import Derived.Ground.NamesProg
import Derived.Shelf.Slices.In.SortNone
import Derived.Shelf.Sort.Plain
import Derived.Test.YtoncmmlgpecklaaProg
import Derived.Test.YtoncmmlgpecklaaPJg
import Derived.Test.YtoncmmlgpecklaaPJf
import Derived.Test.YtoncmmlgpecklaaPJb
import Derived.Test.YtoncmmlgpecklaaPJe
namespace Go.Proofs
open Go.Shelf
end Go.Proofs
namespace Go.RX.Span
end Go.RX.Span

/- The numbers of a range as a slice of the call's own, sorted: the states. -/
set_option linter.unusedVariables false
set_option linter.unusedSimpArgs false
set_option maxRecDepth 100000
namespace Go.RX.Span
open Go Go.RX
attribute [local irreducible] sx conB

end Go.RX.Span

/- The numbers of a range as a slice of the call's own, sorted: the walk. -/
set_option linter.unusedVariables false
set_option linter.unusedSimpArgs false
set_option maxRecDepth 100000
namespace Go.RX.Span
open Go Go.RX
attribute [local irreducible] sx conB

theorem row1S {n : Nat} {f g : Nat → R1} (h : ∀ i, i < n → f i = g i) : sameRow n f g := ⟨eqShs_refl _, fun i hi => h i hi⟩
end Go.RX.Span

/- Lists compared but for a sum: EqualFunc with the law's function. -/
set_option linter.unusedVariables false
set_option linter.unusedSimpArgs false
set_option maxRecDepth 100000
namespace Go.RX.Span
open Go Go.RX
attribute [local irreducible] sx conB

end Go.RX.Span

/- Lists compared but for a sum: the walk. -/
set_option linter.unusedVariables false
set_option linter.unusedSimpArgs false
set_option maxRecDepth 100000
namespace Go.RX.Span
open Go Go.RX
attribute [local irreducible] sx conB

end Go.RX.Span

/- Numbers of columns: negated, the least, one that is not 0: contracts. -/
set_option linter.unusedVariables false
set_option linter.unusedSimpArgs false
set_option maxRecDepth 100000
namespace Go.RX.Span
open Go Go.RX
attribute [local irreducible] sx conB

def fi (F : Nat → R1) (i : Nat) : Int := (F i).1
def negF (F : Nat → R1) (i : Nat) : R1 := (-fi F i, ())
def minF (n : Nat) (F : Nat → R1) : Int := if n = 2 then (if fi F 1 < fi F 0 then fi F 1 else fi F 0) else fi F 0
def ixN (n : Nat) (F : Nat → R1) : Int := if fi F 0 ≠ 0 then 0 else if n = 2 ∧ fi F 1 ≠ 0 then 1 else -1
def anyN (n : Nat) (F : Nat → R1) : Bool := decide (fi F 0 ≠ 0 ∨ (n = 2 ∧ fi F 1 ≠ 0))
def OneTwo (n : Nat) (F : Nat → R1) : Prop := (n = 1 ∨ n = 2) ∧ ∀ i, i < n → -1000000 ≤ fi F i ∧ fi F i ≤ 1000000
noncomputable def c_Neg : Con := fun args => match args with
  | [.row [.int .i64] n F] => .ask (lk OneTwo n F) (.ret (.row [.int .i64] n (lk negF F)))
  | _ => .stuck 1
noncomputable def c_Min : Con := fun args => match args with
  | [.row [.int .i64] n F] => .ask (lk OneTwo n F) (.ret (.lit (.int .i64 (lk minF n F))))
  | _ => .stuck 1
noncomputable def c_Any : Con := fun args => match args with
  | [.row [.int .i64] n F, .fn (.func 105) [] []] => .ask (lk OneTwo n F) (.ret (.lit (.bool (lk anyN n F))))
  | _ => .stuck 1
noncomputable def c_Ix : Con := fun args => match args with
  | [.row [.int .i64] n F, .fn (.func 105) [] []] => .ask (lk OneTwo n F) (.ret (.lit (.int .i64 (lk ixN n F))))
  | _ => .stuck 1
noncomputable def c_Ne0 : Con := fun args => match args with
  | [.lit (.int .i64 x)] => .ret (.lit (.bool (U.ne x 0)))
  | _ => .stuck 1
noncomputable abbrev kN0 : List (Nat × Con) := [(105, c_Ne0)]
noncomputable abbrev kN1 : List (Nat × Con) := [(152, c_Ix)]
noncomputable abbrev lNg : List (Nat × Loops) := [(104, [(3, .un 3)])]
noncomputable abbrev lMi : List (Nat × Loops) := [(45, [(5, .un 3)])]
noncomputable abbrev lAn : List (Nat × Loops) := [(152, [(2, .un 3)])]
end Go.RX.Span

/- Numbers of columns: negated, the least, one that is not 0: the walks. -/
set_option linter.unusedVariables false
set_option linter.unusedSimpArgs false
set_option maxRecDepth 100000
namespace Go.RX.Span
open Go Go.RX
attribute [local irreducible] sx conB

--%R ↑\((\d+)\s+:\s+Nat\) => ((\1 : Nat) : Int)
set_option maxRecDepth 100000 in
theorem t_Neg1 (F : Nat → R1) : conB Go.Proofs.Try.prog (conOf []) (loopsOf lNg) 10 104 [.row [.int .i64] 1 F] =
    T.br (U.lt (0 : Int) (1 : Int)) (.ask ((0 : Int) ≤ (0 : Int) ∧ (0 : Int) < ((1 : Nat) : Int)) (.ask ((1 : Nat) * nat_lit 8 ≤ nat_lit 140737488351232) (.br (U.lt (1 : Int) (1 : Int))
      (.ask ((0 : Int) ≤ (1 : Int) ∧ (1 : Int) < ((1 : Nat) : Int)) (.ask (((1 : Nat) + (1 : Nat)) * nat_lit 8 ≤ nat_lit 140737488351232) (.br (U.lt (2 : Int) (1 : Int)) (.ask ((0 : Int)
      ≤ (2 : Int) ∧ (2 : Int) < ((1 : Nat) : Int)) (.ask (((1 : Nat) + (1 : Nat) + (1 : Nat)) * nat_lit 8 ≤ nat_lit 140737488351232) (.stuck (nat_lit 105)))) (.ret (.row [.int .i64]
      (nat_lit 2) (U.cat (nat_lit 1) (fun x => (U.sub .i64 0 (F (U.toNat (Int.ofNat 0))).1, PUnit.unit)) fun x => (U.sub .i64 0 (F (U.toNat (Int.ofNat 1))).1, PUnit.unit))))))) (.ret
      (.row [.int .i64] (nat_lit 1) fun x => (U.sub .i64 0 (F (U.toNat (Int.ofNat 0))).1, PUnit.unit)))))) (.ret (.lit (.slice none (nat_lit 0) (nat_lit 0)))) := by kernel_rfl
set_option maxRecDepth 100000 in
theorem t_Neg2 (F : Nat → R1) : conB Go.Proofs.Try.prog (conOf []) (loopsOf lNg) 10 104 [.row [.int .i64] 2 F] =
    T.br (U.lt (0 : Int) (2 : Int)) (.ask ((0 : Int) ≤ (0 : Int) ∧ (0 : Int) < ((2 : Nat) : Int)) (.ask ((1 : Nat) * nat_lit 8 ≤ nat_lit 140737488351232) (.br (U.lt (1 : Int) (2 : Int))
      (.ask ((0 : Int) ≤ (1 : Int) ∧ (1 : Int) < ((2 : Nat) : Int)) (.ask (((1 : Nat) + (1 : Nat)) * nat_lit 8 ≤ nat_lit 140737488351232) (.br (U.lt (2 : Int) (2 : Int)) (.ask ((0 : Int)
      ≤ (2 : Int) ∧ (2 : Int) < ((2 : Nat) : Int)) (.ask (((1 : Nat) + (1 : Nat) + (1 : Nat)) * nat_lit 8 ≤ nat_lit 140737488351232) (.stuck (nat_lit 105)))) (.ret (.row [.int .i64]
      (nat_lit 2) (U.cat (nat_lit 1) (fun x => (U.sub .i64 0 (F (U.toNat (Int.ofNat 0))).1, PUnit.unit)) fun x => (U.sub .i64 0 (F (U.toNat (Int.ofNat 1))).1, PUnit.unit))))))) (.ret
      (.row [.int .i64] (nat_lit 1) fun x => (U.sub .i64 0 (F (U.toNat (Int.ofNat 0))).1, PUnit.unit)))))) (.ret (.lit (.slice none (nat_lit 0) (nat_lit 0)))) := by kernel_rfl
set_option maxRecDepth 100000 in
theorem t_Min1 (F : Nat → R1) : conB Go.Proofs.Try.prog (conOf []) (loopsOf lMi) 10 45 [.row [.int .i64] 1 F] =
    T.br (U.lt (1 : Int) (1 : Int)) (.stuck (nat_lit 67)) (.ask ((0 : Int) ≤ (0 : Int) ∧ (0 : Int) < ((1 : Nat) : Int)) (.br (U.lt (1 : Int) (1 : Int)) (.ask ((0 : Int) ≤ (1 : Int) ∧ (1
      : Int) < ((1 : Nat) : Int)) (.br (U.lt (2 : Int) (1 : Int)) (.ask ((0 : Int) ≤ (2 : Int) ∧ (2 : Int) < ((1 : Nat) : Int)) (.br (U.lt (3 : Int) (1 : Int)) (.ask ((0 : Int) ≤ (3 :
      Int) ∧ (3 : Int) < ((1 : Nat) : Int)) (.stuck (nat_lit 105))) (.ret (.lit (.int .i64 (U.mm false (U.mm false (F (U.toNat (0 : Int))).1 (F (U.toNat (Int.ofNat 1))).1) (F (U.toNat
      (Int.ofNat 2))).1)))))) (.ret (.lit (.int .i64 (U.mm false (F (U.toNat (0 : Int))).1 (F (U.toNat (Int.ofNat 1))).1)))))) (.ret (.lit (.int .i64 (F (U.toNat (0 : Int))).1))))) := by kernel_rfl
set_option maxRecDepth 100000 in
theorem t_Min2 (F : Nat → R1) : conB Go.Proofs.Try.prog (conOf []) (loopsOf lMi) 10 45 [.row [.int .i64] 2 F] =
    T.br (U.lt (2 : Int) (1 : Int)) (.stuck (nat_lit 67)) (.ask ((0 : Int) ≤ (0 : Int) ∧ (0 : Int) < ((2 : Nat) : Int)) (.br (U.lt (1 : Int) (2 : Int)) (.ask ((0 : Int) ≤ (1 : Int) ∧ (1
      : Int) < ((2 : Nat) : Int)) (.br (U.lt (2 : Int) (2 : Int)) (.ask ((0 : Int) ≤ (2 : Int) ∧ (2 : Int) < ((2 : Nat) : Int)) (.br (U.lt (3 : Int) (2 : Int)) (.ask ((0 : Int) ≤ (3 :
      Int) ∧ (3 : Int) < ((2 : Nat) : Int)) (.stuck (nat_lit 105))) (.ret (.lit (.int .i64 (U.mm false (U.mm false (F (U.toNat (0 : Int))).1 (F (U.toNat (Int.ofNat 1))).1) (F (U.toNat
      (Int.ofNat 2))).1)))))) (.ret (.lit (.int .i64 (U.mm false (F (U.toNat (0 : Int))).1 (F (U.toNat (Int.ofNat 1))).1)))))) (.ret (.lit (.int .i64 (F (U.toNat (0 : Int))).1))))) := by kernel_rfl
set_option maxRecDepth 100000 in
theorem t_Ix1 (F : Nat → R1) : conB Go.Proofs.Try.prog (conOf kN0) (loopsOf lAn) 10 152 [.row [.int .i64] 1 F, .fn (.func 105) [] []] =
    T.br (U.lt (0 : Int) (1 : Int)) (.ask ((0 : Int) ≤ (0 : Int) ∧ (0 : Int) < ((1 : Nat) : Int)) (.br (U.ne (F (U.toNat (Int.ofNat 0))).1 (0 : Int)) (.ret (.lit (.int .i64 0))) (.br
      (U.lt (1 : Int) (1 : Int)) (.ask ((0 : Int) ≤ (1 : Int) ∧ (1 : Int) < ((1 : Nat) : Int)) (.br (U.ne (F (U.toNat (Int.ofNat 1))).1 (0 : Int)) (.ret (.lit (.int .i64 1))) (.br (U.lt
      (2 : Int) (1 : Int)) (.ask ((0 : Int) ≤ (2 : Int) ∧ (2 : Int) < ((1 : Nat) : Int)) (.br (U.ne (F (U.toNat (Int.ofNat 2))).1 (0 : Int)) (.ret (.lit (.int .i64 2))) (.stuck (nat_lit
      105)))) (.ret (.lit (.int .i64 (-1 : Int))))))) (.ret (.lit (.int .i64 (-1 : Int))))))) (.ret (.lit (.int .i64 (-1 : Int)))) := by kernel_rfl
set_option maxRecDepth 100000 in
theorem t_Ix2 (F : Nat → R1) : conB Go.Proofs.Try.prog (conOf kN0) (loopsOf lAn) 10 152 [.row [.int .i64] 2 F, .fn (.func 105) [] []] =
    T.br (U.lt (0 : Int) (2 : Int)) (.ask ((0 : Int) ≤ (0 : Int) ∧ (0 : Int) < ((2 : Nat) : Int)) (.br (U.ne (F (U.toNat (Int.ofNat 0))).1 (0 : Int)) (.ret (.lit (.int .i64 0))) (.br
      (U.lt (1 : Int) (2 : Int)) (.ask ((0 : Int) ≤ (1 : Int) ∧ (1 : Int) < ((2 : Nat) : Int)) (.br (U.ne (F (U.toNat (Int.ofNat 1))).1 (0 : Int)) (.ret (.lit (.int .i64 1))) (.br (U.lt
      (2 : Int) (2 : Int)) (.ask ((0 : Int) ≤ (2 : Int) ∧ (2 : Int) < ((2 : Nat) : Int)) (.br (U.ne (F (U.toNat (Int.ofNat 2))).1 (0 : Int)) (.ret (.lit (.int .i64 2))) (.stuck (nat_lit
      105)))) (.ret (.lit (.int .i64 (-1 : Int))))))) (.ret (.lit (.int .i64 (-1 : Int))))))) (.ret (.lit (.int .i64 (-1 : Int)))) := by kernel_rfl
set_option maxRecDepth 100000 in
theorem t_Any (n : Nat) (F : Nat → R1) : conB Go.Proofs.Try.prog (conOf kN1) noLoops 10 69 [.row [.int .i64] n F, .fn (.func 105) [] []] =
    T.ask (lk OneTwo n F) (.ret (.lit (.bool (U.ge (lk ixN n F) (0 : Int))))) := by kernel_rfl
set_option maxRecDepth 100000 in
theorem t_Ne0 (x : Int) : conB Go.Proofs.Try.prog (conOf []) noLoops 10 105 [.lit (.int .i64 x)] =
    T.ret (.lit (.bool (U.ne x (0 : Int)))) := by kernel_rfl
theorem cl_row1 {n m : Nat} {f g : Nat → R1} (h : n = m) (hf : ∀ i, i < n → f i = g i) : Cl (.row [.int .i64] n f) (.row [.int .i64] m g) := ⟨h, row1S hf⟩
theorem tnO : U.toNat (Int.ofNat 0) = 0 := tn 0
theorem tnI : U.toNat (Int.ofNat 1) = 1 := tn 1
theorem tn00 : U.toNat (0 : Int) = 0 := tn 0
theorem ltN {x y : Int} (h : x < y) : U.lt x y = true := U.lt_t.mpr h
theorem geN {x y : Int} (h : y ≤ x) : U.lt x y = false := U.lt_f.mpr (by omega)
theorem sub0 {x : Int} (h : -1000000 ≤ x ∧ x ≤ 1000000) : U.sub .i64 0 x = -x := by rw [U.sub64 (by unfold I64; omega)]; omega
theorem ng (F : Nat → R1) (j : Nat) (h : -1000000 ≤ fi F j ∧ fi F j ≤ 1000000) : ((U.sub .i64 0 (F (U.toNat (Int.ofNat j))).1, PUnit.unit) : R1) = negF F j := by
  have e : U.sub .i64 0 (fi F (U.toNat (Int.ofNat j))) = -fi F j := by rw [tn, sub0 h]
  exact congrArg (fun v : Int => ((v, ()) : R1)) e
theorem lNg_ok : ∀ p ∈ lNg, LoopsOK P p.2 (bodyOf P p.1) := by
  intro p hp
  simp only [lNg, List.mem_singleton] at hp
  subst hp
  exact loopsOK_un fun q hq => by simp only [List.mem_singleton] at hq; subst hq; exact ⟨3, rfl⟩
theorem lMi_ok : ∀ p ∈ lMi, LoopsOK P p.2 (bodyOf P p.1) := by
  intro p hp
  simp only [lMi, List.mem_singleton] at hp
  subst hp
  exact loopsOK_un fun q hq => by simp only [List.mem_singleton] at hq; subst hq; exact ⟨3, rfl⟩
theorem lAn_ok : ∀ p ∈ lAn, LoopsOK P p.2 (bodyOf P p.1) := by
  intro p hp
  simp only [lAn, List.mem_singleton] at hp
  subst hp
  exact loopsOK_un fun q hq => by simp only [List.mem_singleton] at hq; subst hq; exact ⟨3, rfl⟩
theorem Neg_ok : ConOK P 104 c_Neg := con_cl (allOKL mixed none_ok lNg_ok) 10 104 fun args r h => by
  unfold c_Neg at h
  split at h
  · rename_i n F
    obtain ⟨h1, h2⟩ := (lk_eq OneTwo ▸ (T.is_ask h).1 : OneTwo n F)
    obtain rfl := T.is_ret (T.is_ask h).2
    rw [lk_eq]
    rcases h1 with rfl | rfl
    · rw [t_Neg1]
      have b0 := h2 0 (by decide)
      refine ⟨fun _ => ⟨by decide, by decide, fun h => absurd (U.lt_t.mp h) (by decide), fun _ => cl_row1 rfl fun i hi => ?_⟩, fun h => absurd (U.lt_f.mp h) (by decide)⟩
      have hi : i < 1 := hi
      obtain rfl : i = 0 := by omega
      exact ng F 0 b0
    · rw [t_Neg2]
      have b0 := h2 0 (by decide)
      have b1 := h2 1 (by decide)
      refine ⟨fun _ => ⟨by decide, by decide, fun _ => ⟨by decide, by decide, fun h => absurd (U.lt_t.mp h) (by decide), fun _ => cl_row1 rfl fun i hi => ?_⟩, fun h => absurd (U.lt_f.mp h) (by decide)⟩, fun h => absurd (U.lt_f.mp h) (by decide)⟩
      refine (U.cat_eq _ _ _ _).trans ?_
      by_cases hi0 : i < 1
      · obtain rfl : i = 0 := by omega
        exact (if_pos (show 0 < 1 by decide)).trans (ng F 0 b0)
      · have hi : i < 2 := hi
        obtain rfl : i = 1 := by omega
        exact (if_neg (show ¬ 1 < 1 by decide)).trans (ng F 1 b1)
  · exact h.elim
theorem Min_ok : ConOK P 45 c_Min := con_of (allOKL mixed none_ok lMi_ok) 10 45 fun args r h => by
  unfold c_Min at h
  split at h
  · rename_i n F
    obtain ⟨h1, h2⟩ := (lk_eq OneTwo ▸ (T.is_ask h).1 : OneTwo n F)
    obtain rfl := T.is_ret (T.is_ask h).2
    rw [lk_eq]
    rcases h1 with rfl | rfl
    · rw [t_Min1]
      refine ⟨fun h => absurd (U.lt_t.mp h) (by decide), fun _ => ⟨by decide, fun h => absurd (U.lt_t.mp h) (by decide), fun _ => ?_⟩⟩
      show SV.lit (.int .i64 (fi F (U.toNat 0))) = _
      rw [tn00]; rfl
    · rw [t_Min2]
      refine ⟨fun h => absurd (U.lt_t.mp h) (by decide), fun _ => ⟨by decide, fun _ => ⟨by decide, fun h => absurd (U.lt_t.mp h) (by decide), fun _ => ?_⟩, fun h => absurd (U.lt_f.mp h) (by decide)⟩⟩
      show SV.lit (.int .i64 (U.mm false (fi F (U.toNat 0)) (fi F (U.toNat (Int.ofNat 1))))) = _
      rw [tn00, tnI, U.mm_eq]; unfold minF; rw [if_pos rfl]; rfl
  · exact h.elim
theorem Ne0_ok : ConOK P 105 c_Ne0 := con_of (allOK mixed none_ok) 10 105 fun args r h => by
  unfold c_Ne0 at h
  split at h
  · obtain rfl := T.is_ret h
    rw [t_Ne0]; exact rfl
  · exact h.elim
theorem kN0_ok : ∀ p ∈ kN0, ConOK P p.1 p.2 := by
  intro p hp
  simp only [kN0, List.mem_singleton] at hp
  subst hp
  exact Ne0_ok
theorem Ix_ok : ConOK P 152 c_Ix := con_of (allOKL mixed kN0_ok lAn_ok) 10 152 fun args r h => by
  unfold c_Ix at h
  split at h
  · rename_i n F
    obtain ⟨h1, h2⟩ := (lk_eq OneTwo ▸ (T.is_ask h).1 : OneTwo n F)
    obtain rfl := T.is_ret (T.is_ask h).2
    rw [lk_eq]
    rcases h1 with rfl | rfl
    · rw [t_Ix1]
      refine ⟨fun _ => ⟨by decide, fun h => ?_, fun h => ⟨fun h => absurd (U.lt_t.mp h) (by decide), fun _ => ?_⟩⟩, fun h => absurd (U.lt_f.mp h) (by decide)⟩
      · have h : fi F (U.toNat (Int.ofNat 0)) ≠ 0 := U.ne_t.mp h
        rw [tnO] at h
        unfold ixN; rw [if_pos h]; exact rfl
      · have h : fi F (U.toNat (Int.ofNat 0)) = 0 := U.ne_f.mp h
        rw [tnO] at h
        unfold ixN; rw [if_neg (by simp [h]), if_neg (fun h => absurd h.1 (by decide))]; exact rfl
    · rw [t_Ix2]
      refine ⟨fun _ => ⟨by decide, fun h => ?_, fun h => ⟨fun _ => ⟨by decide, fun h1 => ?_, fun h1 => ⟨fun h => absurd (U.lt_t.mp h) (by decide), fun _ => ?_⟩⟩, fun h => absurd (U.lt_f.mp h) (by decide)⟩⟩, fun h => absurd (U.lt_f.mp h) (by decide)⟩
      · have h : fi F (U.toNat (Int.ofNat 0)) ≠ 0 := U.ne_t.mp h
        rw [tnO] at h
        unfold ixN; rw [if_pos h]; exact rfl
      · have h : fi F (U.toNat (Int.ofNat 0)) = 0 := U.ne_f.mp h
        have h1 : fi F (U.toNat (Int.ofNat 1)) ≠ 0 := U.ne_t.mp h1
        rw [tnO] at h; rw [tnI] at h1
        unfold ixN; rw [if_neg (by simp [h]), if_pos ⟨rfl, h1⟩]; exact rfl
      · have h : fi F (U.toNat (Int.ofNat 0)) = 0 := U.ne_f.mp h
        have h1 : fi F (U.toNat (Int.ofNat 1)) = 0 := U.ne_f.mp h1
        rw [tnO] at h; rw [tnI] at h1
        unfold ixN; rw [if_neg (by simp [h]), if_neg (by simp [h1])]; exact rfl
  · exact h.elim
theorem kN1_ok : ∀ p ∈ kN1, ConOK P p.1 p.2 := by
  intro p hp
  simp only [kN1, List.mem_singleton] at hp
  subst hp
  exact Ix_ok
theorem Any_ok : ConOK P 69 c_Any := con_of (allOK mixed kN1_ok) 10 69 fun args r h => by
  unfold c_Any at h
  split at h
  · rename_i n F
    have h1 := (T.is_ask h).1
    obtain rfl := T.is_ret (T.is_ask h).2
    rw [t_Any]
    refine ⟨h1, ?_⟩
    have e : U.ge (ixN n F) 0 = anyN n F := by
      unfold ixN anyN
      rw [U.ge_eq]
      by_cases a : fi F 0 ≠ 0
      · rw [if_pos a]; simp [a]
      · rw [if_neg a]
        by_cases b : n = 2 ∧ fi F 1 ≠ 0
        · rw [if_pos b]; simp [b]
        · rw [if_neg b]; simp only [a, b, or_false, false_or]; decide
    rw [lk_eq, lk_eq]
    exact congrArg (fun b => SV.lit (.bool b)) e
  · exact h.elim
end Go.RX.Span

/- Domains: Subtract's loops: the states. -/
set_option linter.unusedVariables false
set_option linter.unusedSimpArgs false
set_option maxRecDepth 100000
namespace Go.RX.Span
open Go Go.RX
attribute [local irreducible] sx conB

end Go.RX.Span

/- Domains: Subtract of the program: the walk. -/
set_option linter.unusedVariables false
set_option linter.unusedSimpArgs false
set_option maxRecDepth 100000
namespace Go.RX.Span
open Go Go.RX
attribute [local irreducible] sx conB

--%R ofList\s+\[ => ofList (ss := [.int .i64, .int .i64, .int .i64]) [
--%R ↑n ≤ ↑n => (n : Int) ≤ (n : Int)
end Go.RX.Span

/- Domains: Subtract of the program: what it returns. -/
set_option linter.unusedVariables false
set_option linter.unusedSimpArgs false
set_option maxRecDepth 100000
namespace Go.RX.Span
open Go Go.RX
attribute [local irreducible] sx conB

section
variable (n : Nat) (f : Nat → R3) (k s h : Int) (m : Nat) (g : Nat → R3) (k' s' h' : Int)
end
section
variable {n : Nat} {f : Nat → R3} {k s h : Int} {m : Nat} {g : Nat → R3} {k' s' h' : Int}
end
end Go.RX.Span

/- Domains: the reference's Subtract: the loops' states. -/
set_option linter.unusedVariables false
set_option linter.unusedSimpArgs false
set_option maxRecDepth 100000
namespace Go.RX.Span
open Go Go.RX
attribute [local irreducible] sx conB

end Go.RX.Span

/- Domains: the reference's Intersect and Subtract: the walks. -/
set_option linter.unusedVariables false
set_option linter.unusedSimpArgs false
set_option maxRecDepth 100000
namespace Go.RX.Span
open Go Go.RX
attribute [local irreducible] sx conB

--%R ofList\s+\[ => ofList (ss := [.int .i64, .int .i64, .int .i64]) [
--%R ↑n ≤ ↑n => (n : Int) ≤ (n : Int)
end Go.RX.Span

/- Domains: the reference's pair, Intersect, Within, Same. -/
set_option linter.unusedVariables false
set_option linter.unusedSimpArgs false
set_option maxRecDepth 100000
namespace Go.RX.Span
open Go Go.RX
attribute [local irreducible] sx conB

end Go.RX.Span

/- Domains: the reference's Subtract and Same: what they return. -/
set_option linter.unusedVariables false
set_option linter.unusedSimpArgs false
set_option maxRecDepth 100000
namespace Go.RX.Span
open Go Go.RX
attribute [local irreducible] sx conB

theorem key3 (a b c x y z : Int) : (U.not (U.andb (U.eq a x) (U.andb (U.eq b y) (U.eq c z))) = false) ↔ (a = x ∧ b = y ∧ c = z) := by
  rw [U.not_f, U.andb_t, U.andb_t, U.eq_t, U.eq_t, U.eq_t]
end Go.RX.Span

/- Lists of domains compared: EqualFunc with Equal. -/
set_option linter.unusedVariables false
set_option linter.unusedSimpArgs false
set_option maxRecDepth 100000
namespace Go.RX.Span
open Go Go.RX
attribute [local irreducible] sx conB

end Go.RX.Span

/- Lists of domains compared: the walk. -/
set_option linter.unusedVariables false
set_option linter.unusedSimpArgs false
set_option maxRecDepth 100000
namespace Go.RX.Span
open Go Go.RX
attribute [local irreducible] sx conB

--%R \(castEls \(c_EqF\S+ ssD ssD ⟨rfl, rfl⟩\) ([FG])\) => \1
end Go.RX.Span

/- Domains: what the law of pairs returns. -/
set_option linter.unusedVariables false
set_option linter.unusedSimpArgs false
set_option maxRecDepth 100000
namespace Go.RX.Span
open Go Go.RX
attribute [local irreducible] sx conB

end Go.RX.Span

/- Domains: Translate, Expand, Interior, Exterior: plain; contract. -/
set_option linter.unusedVariables false
set_option linter.unusedSimpArgs false
set_option maxRecDepth 100000
namespace Go.RX.Span
open Go Go.RX
attribute [local irreducible] sx conB

def opE : Nat → R3 → Int → Int
  | 0, r, n => trE (rA r) (rB r) (rC r) n
  | 1, r, n => exE (rA r) (rB r) (rC r) n
  | 2, r, n => if n = 0 then 0 else inE (rA r) (rB r) (rC r) n
  | _, r, n => if n = 0 then 0 else xtE (rA r) (rB r) (rC r) n
def opF : Nat → R3 → Int → R3
  | 0, r, n => (trLow (rA r) (rB r) (rC r) n, trHigh (rA r) (rB r) (rC r) n, trStr (rA r) (rB r) (rC r) n, ())
  | 1, r, n => (exLow (rA r) (rB r) (rC r) n, exHigh (rA r) (rB r) (rC r) n, exStr (rA r) (rB r) (rC r) n, ())
  | 2, r, n => if n = 0 then r else (inLow (rA r) (rB r) (rC r) n, inHigh (rA r) (rB r) (rC r) n, inStr (rA r) (rB r) (rC r) n, ())
  | _, r, n => if n = 0 then r else (xtLow (rA r) (rB r) (rC r) n, xtHigh (rA r) (rB r) (rC r) n, xtStr (rA r) (rB r) (rC r) n, ())
section
variable (w : Nat) (n : Nat) (f : Nat → R3) (k s h : Int) (m : Nat) (e : Nat → R1)
def chgE : Int := if chD n f k s h ≠ 0 then chD n f k s h else if m ≠ n then 5 else if opE w (f 0) (e 0).1 ≠ 0 then opE w (f 0) (e 0).1 else if n = 2 then opE w (f 1) (e 1).1 else 0
def chgN : Nat := if chgE w n f k s h m e = 0 then n else 0
def chgX (x : Int) : Int := if chgE w n f k s h m e = 0 then x else 0
def chgF (i : Nat) : R3 := opF w (f i) (e i).1
end
noncomputable def c_chg (w : Nat) : Con := fun args => match args with
  | [.agg [.row [.int .i64, .int .i64, .int .i64] n f, .lit (.int .i64 k), .lit (.int .i64 s), .lit (.int .i64 h)], .row [.int .i64] m e] =>
    .ask (Row64 n f ∧ ∀ i, i < m → I64 (e i).1) (.ret (.tup [.agg [.row [.int .i64, .int .i64, .int .i64] (lk chgN w n f k s h m e) (lk chgF w f e), .lit (.int .i64 (lk chgX w n f k s h m e k)), .lit (.int .i64 (lk chgX w n f k s h m e s)), .lit (.int .i64 (lk chgX w n f k s h m e h))], .lit (.int .i64 (lk chgE w n f k s h m e))]))
  | _ => .stuck 1
end Go.RX.Span

/- Domains: Translate, Expand, Interior, Exterior of both: the walks. -/
set_option linter.unusedVariables false
set_option linter.unusedSimpArgs false
set_option maxRecDepth 100000
namespace Go.RX.Span
open Go Go.RX
attribute [local irreducible] sx conB

noncomputable abbrev d12 : List (Nat × Con) := (31, c_Translate) :: (204, c_Translate) :: (34, c_Expand) :: (205, c_Expand) :: (36, c_Interior) :: (206, c_Interior) :: (37, c_Exterior) :: (207, c_Exterior) :: d11 --%K
noncomputable abbrev lCh : List (Nat × Loops) := [(155, [(4, .un 3)])] --%K
noncomputable abbrev lqCh : List (Nat × Loops) := [(170, [(8, .un 3)])] --%K
theorem chg_err {w n : Nat} {f : Nat → R3} {k s h : Int} {m : Nat} {e : Nat → R1} {x : Int} (hE : chgE w n f k s h m e = x) (hx : x ≠ 0) :
    Cl (.tup [.agg [.lit (.slice none 0 0), .lit (.int .i64 0), .lit (.int .i64 0), .lit (.int .i64 0)], .lit (.int .i64 x)]) (.tup [.agg [.row [.int .i64, .int .i64, .int .i64] (chgN w n f k s h m e) (chgF w f e), .lit (.int .i64 (chgX w n f k s h m e k)), .lit (.int .i64 (chgX w n f k s h m e s)), .lit (.int .i64 (chgX w n f k s h m e h))], .lit (.int .i64 (chgE w n f k s h m e))]) := by
  have e1 : chgN w n f k s h m e = 0 := by unfold chgN; rw [if_neg (by rw [hE]; exact hx)]
  have e2 : ∀ y, chgX w n f k s h m e y = 0 := fun y => by unfold chgX; rw [if_neg (by rw [hE]; exact hx)]
  rw [e1, e2, e2, e2, hE]
  exact ⟨cl_agg ⟨cl_nil0 rfl, cl_lit rfl, cl_lit rfl, cl_lit rfl, rfl⟩, cl_lit rfl, rfl⟩
theorem chg_ok {w n : Nat} {f : Nat → R3} {k s h : Int} {m : Nat} {e : Nat → R1} {r : Nat} {g : Nat → R3} (hE : chgE w n f k s h m e = 0) (hr : r = n) (hg : ∀ i, i < n → g i = chgF w f e i) :
    Cl (.tup [.agg [.row [.int .i64, .int .i64, .int .i64] r g, .lit (.int .i64 k), .lit (.int .i64 s), .lit (.int .i64 h)], .lit (.int .i64 0)]) (.tup [.agg [.row [.int .i64, .int .i64, .int .i64] (chgN w n f k s h m e) (chgF w f e), .lit (.int .i64 (chgX w n f k s h m e k)), .lit (.int .i64 (chgX w n f k s h m e s)), .lit (.int .i64 (chgX w n f k s h m e h))], .lit (.int .i64 (chgE w n f k s h m e))]) := by
  subst hr
  have e1 : chgN w r f k s h m e = r := by unfold chgN; rw [if_pos hE]
  have e2 : ∀ y, chgX w r f k s h m e y = y := fun y => by unfold chgX; rw [if_pos hE]
  rw [e1, e2, e2, e2, hE]
  exact ⟨cl_agg ⟨cl_row' rfl hg, cl_lit rfl, cl_lit rfl, cl_lit rfl, rfl⟩, cl_lit rfl, rfl⟩
theorem chgE_1 {w n : Nat} {f : Nat → R3} {k s h : Int} {m : Nat} {e : Nat → R1} (c : chD n f k s h ≠ 0) : chgE w n f k s h m e = chD n f k s h := by unfold chgE; rw [if_pos c]
theorem chgE_2 {w n : Nat} {f : Nat → R3} {k s h : Int} {m : Nat} {e : Nat → R1} (c : chD n f k s h = 0) (q : m ≠ n) : chgE w n f k s h m e = 5 := by unfold chgE; rw [if_neg (by simp [c]), if_pos q]
theorem chgE_3 {w n : Nat} {f : Nat → R3} {k s h : Int} {e : Nat → R1} (c : chD n f k s h = 0) {x : Int} (q : opE w (f 0) (e 0).1 = x) (hx : x ≠ 0) : chgE w n f k s h n e = x := by unfold chgE; rw [if_neg (by simp [c]), if_neg (by simp), if_pos (by rw [q]; exact hx), q]
theorem chgE_4 {w : Nat} {f : Nat → R3} {k s h : Int} {e : Nat → R1} (c : chD 1 f k s h = 0) (q : opE w (f 0) (e 0).1 = 0) : chgE w 1 f k s h 1 e = 0 := by unfold chgE; rw [if_neg (by simp [c]), if_neg (by simp), if_neg (by simp [q]), if_neg (by omega)]
theorem chgE_5 {w : Nat} {f : Nat → R3} {k s h : Int} {e : Nat → R1} (c : chD 2 f k s h = 0) (q : opE w (f 0) (e 0).1 = 0) {x : Int} (q1 : opE w (f 1) (e 1).1 = x) : chgE w 2 f k s h 2 e = x := by unfold chgE; rw [if_neg (by simp [c]), if_neg (by simp), if_neg (by simp [q]), if_pos rfl, q1]
theorem one_of {i : Nat} (h : i < 1) : i = 0 := by omega
theorem two_of {i : Nat} (h : i < 2) : i = 0 ∨ i = 1 := by omega
theorem eqT {a : Int} (h : a = 0) : U.eq a 0 = true := by rw [U.eq_t]; exact h
theorem neF {a : Int} (h : a = 0) : U.ne a 0 = false := by rw [U.ne_f]; exact h
theorem neT {a : Int} (h : ¬ a = 0) : U.ne a 0 = true := by rw [U.ne_t]; exact h
theorem eqF {a : Int} (h : ¬ a = 0) : U.eq a 0 = false := by rw [U.eq_f]; exact h
theorem opEz2 (r : R3) {n : Int} (z : n = 0) : opE 2 r n = 0 := if_pos z
theorem opFz2 (r : R3) {n : Int} (z : n = 0) : opF 2 r n = r := if_pos z
theorem opEn2 (r : R3) {n : Int} (z : ¬ n = 0) : opE 2 r n = inE r.1 r.2.1 r.2.2.1 n := if_neg z
theorem opFn2 (r : R3) {n : Int} (z : ¬ n = 0) : opF 2 r n = (inLow r.1 r.2.1 r.2.2.1 n, inHigh r.1 r.2.1 r.2.2.1 n, inStr r.1 r.2.1 r.2.2.1 n, ()) := if_neg z
theorem opEz3 (r : R3) {n : Int} (z : n = 0) : opE 3 r n = 0 := if_pos z
theorem opFz3 (r : R3) {n : Int} (z : n = 0) : opF 3 r n = r := if_pos z
theorem opEn3 (r : R3) {n : Int} (z : ¬ n = 0) : opE 3 r n = xtE r.1 r.2.1 r.2.2.1 n := if_neg z
theorem opFn3 (r : R3) {n : Int} (z : ¬ n = 0) : opF 3 r n = (xtLow r.1 r.2.1 r.2.2.1 n, xtHigh r.1 r.2.1 r.2.2.1 n, xtStr r.1 r.2.1 r.2.2.1 n, ()) := if_neg z
set_option maxRecDepth 100000 in
theorem t_DTranslate (n : Nat) (f : Nat → R3) (k s h : Int) (m : Nat) (e : Nat → R1) : conB Go.Proofs.Try.prog (conOf d12) (loopsOf lCh) 10 90 [.agg [.row [.int .i64, .int .i64, .int .i64] n f, .lit (.int .i64 k), .lit (.int .i64 s), .lit (.int .i64 h)], .row [.int .i64] m e] =
    T.ask (Row64 n f) (.br (U.ne (lk chD n f k s h) (0 : Int)) (.ret (.tup [.agg [.lit (.slice none (nat_lit 0) (nat_lit 0)), .lit (.int .i64 0), .lit (.int .i64 0), .lit (.int .i64
      0)], .lit (.int .i64 (lk chD n f k s h))])) (.br (U.ne (Int.ofNat m) (Int.ofNat n)) (.ret (.tup [.agg [.lit (.slice none (nat_lit 0) (nat_lit 0)), .lit (.int .i64 0), .lit (.int
      .i64 0), .lit (.int .i64 0)], .lit (.int .i64 5)])) (.br (U.lt (0 : Int) (Int.ofNat n)) (.ask ((0 : Int) ≤ (0 : Int) ∧ (0 : Int) < ↑n) (.ask ((0 : Int) ≤ (0 : Int) ∧ (0 : Int) < ↑m)
      (.ask (I64 (f (U.toNat (Int.ofNat 0))).1 ∧ I64 (f (U.toNat (Int.ofNat 0))).2.1 ∧ I64 (f (U.toNat (Int.ofNat 0))).2.2.1 ∧ I64 (e (U.toNat (Int.ofNat 0))).1) (.br (U.ne (lk trE (f
      (U.toNat (Int.ofNat 0))).1 (f (U.toNat (Int.ofNat 0))).2.1 (f (U.toNat (Int.ofNat 0))).2.2.1 (e (U.toNat (Int.ofNat 0))).1) (0 : Int)) (.br (U.ne (lk trE (f (U.toNat (Int.ofNat
      0))).1 (f (U.toNat (Int.ofNat 0))).2.1 (f (U.toNat (Int.ofNat 0))).2.2.1 (e (U.toNat (Int.ofNat 0))).1) (0 : Int)) (.ret (.tup [.agg [.lit (.slice none (nat_lit 0) (nat_lit 0)),
      .lit (.int .i64 0), .lit (.int .i64 0), .lit (.int .i64 0)], .lit (.int .i64 (lk trE (f (U.toNat (Int.ofNat 0))).1 (f (U.toNat (Int.ofNat 0))).2.1 (f (U.toNat (Int.ofNat 0))).2.2.1
      (e (U.toNat (Int.ofNat 0))).1))])) (.ret (.tup [.agg [.lit (.slice none (nat_lit 0) (nat_lit 0)), .lit (.int .i64 k), .lit (.int .i64 s), .lit (.int .i64 h)], .lit (.int .i64 0)])))
      (.ask ((1 : Nat) * nat_lit 24 ≤ nat_lit 140737488351232) (.br (U.lt (1 : Int) (Int.ofNat n)) (.ask ((0 : Int) ≤ (1 : Int) ∧ (1 : Int) < ↑n) (.ask ((0 : Int) ≤ (1 : Int) ∧ (1 : Int)
      < ↑m) (.ask (I64 (f (U.toNat (Int.ofNat 1))).1 ∧ I64 (f (U.toNat (Int.ofNat 1))).2.1 ∧ I64 (f (U.toNat (Int.ofNat 1))).2.2.1 ∧ I64 (e (U.toNat (Int.ofNat 1))).1) (.br (U.ne (lk trE
      (f (U.toNat (Int.ofNat 1))).1 (f (U.toNat (Int.ofNat 1))).2.1 (f (U.toNat (Int.ofNat 1))).2.2.1 (e (U.toNat (Int.ofNat 1))).1) (0 : Int)) (.br (U.ne (lk trE (f (U.toNat (Int.ofNat
      1))).1 (f (U.toNat (Int.ofNat 1))).2.1 (f (U.toNat (Int.ofNat 1))).2.2.1 (e (U.toNat (Int.ofNat 1))).1) (0 : Int)) (.ret (.tup [.agg [.lit (.slice none (nat_lit 0) (nat_lit 0)),
      .lit (.int .i64 0), .lit (.int .i64 0), .lit (.int .i64 0)], .lit (.int .i64 (lk trE (f (U.toNat (Int.ofNat 1))).1 (f (U.toNat (Int.ofNat 1))).2.1 (f (U.toNat (Int.ofNat 1))).2.2.1
      (e (U.toNat (Int.ofNat 1))).1))])) (.ret (.tup [.agg [.row [.int .i64, .int .i64, .int .i64] (nat_lit 1) fun x => (lk trLow (f (U.toNat (Int.ofNat 0))).1 (f (U.toNat (Int.ofNat
      0))).2.1 (f (U.toNat (Int.ofNat 0))).2.2.1 (e (U.toNat (Int.ofNat 0))).1, lk trHigh (f (U.toNat (Int.ofNat 0))).1 (f (U.toNat (Int.ofNat 0))).2.1 (f (U.toNat (Int.ofNat 0))).2.2.1
      (e (U.toNat (Int.ofNat 0))).1, lk trStr (f (U.toNat (Int.ofNat 0))).1 (f (U.toNat (Int.ofNat 0))).2.1 (f (U.toNat (Int.ofNat 0))).2.2.1 (e (U.toNat (Int.ofNat 0))).1, PUnit.unit),
      .lit (.int .i64 k), .lit (.int .i64 s), .lit (.int .i64 h)], .lit (.int .i64 0)]))) (.ask (((1 : Nat) + (1 : Nat)) * nat_lit 24 ≤ nat_lit 140737488351232) (.br (U.lt (2 : Int)
      (Int.ofNat n)) (.ask ((0 : Int) ≤ (2 : Int) ∧ (2 : Int) < ↑n) (.ask ((0 : Int) ≤ (2 : Int) ∧ (2 : Int) < ↑m) (.ask (I64 (f (U.toNat (Int.ofNat 2))).1 ∧ I64 (f (U.toNat (Int.ofNat
      2))).2.1 ∧ I64 (f (U.toNat (Int.ofNat 2))).2.2.1 ∧ I64 (e (U.toNat (Int.ofNat 2))).1) (.br (U.ne (lk trE (f (U.toNat (Int.ofNat 2))).1 (f (U.toNat (Int.ofNat 2))).2.1 (f (U.toNat
      (Int.ofNat 2))).2.2.1 (e (U.toNat (Int.ofNat 2))).1) (0 : Int)) (.br (U.ne (lk trE (f (U.toNat (Int.ofNat 2))).1 (f (U.toNat (Int.ofNat 2))).2.1 (f (U.toNat (Int.ofNat 2))).2.2.1 (e
      (U.toNat (Int.ofNat 2))).1) (0 : Int)) (.ret (.tup [.agg [.lit (.slice none (nat_lit 0) (nat_lit 0)), .lit (.int .i64 0), .lit (.int .i64 0), .lit (.int .i64 0)], .lit (.int .i64
      (lk trE (f (U.toNat (Int.ofNat 2))).1 (f (U.toNat (Int.ofNat 2))).2.1 (f (U.toNat (Int.ofNat 2))).2.2.1 (e (U.toNat (Int.ofNat 2))).1))])) (.ret (.tup [.agg [.row [.int .i64, .int
      .i64, .int .i64] (nat_lit 2) (U.cat (nat_lit 1) (fun x => (lk trLow (f (U.toNat (Int.ofNat 0))).1 (f (U.toNat (Int.ofNat 0))).2.1 (f (U.toNat (Int.ofNat 0))).2.2.1 (e (U.toNat
      (Int.ofNat 0))).1, lk trHigh (f (U.toNat (Int.ofNat 0))).1 (f (U.toNat (Int.ofNat 0))).2.1 (f (U.toNat (Int.ofNat 0))).2.2.1 (e (U.toNat (Int.ofNat 0))).1, lk trStr (f (U.toNat
      (Int.ofNat 0))).1 (f (U.toNat (Int.ofNat 0))).2.1 (f (U.toNat (Int.ofNat 0))).2.2.1 (e (U.toNat (Int.ofNat 0))).1, PUnit.unit)) fun x => (lk trLow (f (U.toNat (Int.ofNat 1))).1 (f
      (U.toNat (Int.ofNat 1))).2.1 (f (U.toNat (Int.ofNat 1))).2.2.1 (e (U.toNat (Int.ofNat 1))).1, lk trHigh (f (U.toNat (Int.ofNat 1))).1 (f (U.toNat (Int.ofNat 1))).2.1 (f (U.toNat
      (Int.ofNat 1))).2.2.1 (e (U.toNat (Int.ofNat 1))).1, lk trStr (f (U.toNat (Int.ofNat 1))).1 (f (U.toNat (Int.ofNat 1))).2.1 (f (U.toNat (Int.ofNat 1))).2.2.1 (e (U.toNat (Int.ofNat
      1))).1, PUnit.unit)), .lit (.int .i64 k), .lit (.int .i64 s), .lit (.int .i64 h)], .lit (.int .i64 0)]))) (.ask (((1 : Nat) + (1 : Nat) + (1 : Nat)) * nat_lit 24 ≤ nat_lit
      140737488351232) (.stuck (nat_lit 105))))))) (.br (U.ne (lk trE (f (U.toNat (Int.ofNat 1))).1 (f (U.toNat (Int.ofNat 1))).2.1 (f (U.toNat (Int.ofNat 1))).2.2.1 (e (U.toNat
      (Int.ofNat 1))).1) (0 : Int)) (.ret (.tup [.agg [.lit (.slice none (nat_lit 0) (nat_lit 0)), .lit (.int .i64 0), .lit (.int .i64 0), .lit (.int .i64 0)], .lit (.int .i64 (lk trE (f
      (U.toNat (Int.ofNat 1))).1 (f (U.toNat (Int.ofNat 1))).2.1 (f (U.toNat (Int.ofNat 1))).2.2.1 (e (U.toNat (Int.ofNat 1))).1))])) (.ret (.tup [.agg [.row [.int .i64, .int .i64, .int
      .i64] (nat_lit 2) (U.cat (nat_lit 1) (fun x => (lk trLow (f (U.toNat (Int.ofNat 0))).1 (f (U.toNat (Int.ofNat 0))).2.1 (f (U.toNat (Int.ofNat 0))).2.2.1 (e (U.toNat (Int.ofNat
      0))).1, lk trHigh (f (U.toNat (Int.ofNat 0))).1 (f (U.toNat (Int.ofNat 0))).2.1 (f (U.toNat (Int.ofNat 0))).2.2.1 (e (U.toNat (Int.ofNat 0))).1, lk trStr (f (U.toNat (Int.ofNat
      0))).1 (f (U.toNat (Int.ofNat 0))).2.1 (f (U.toNat (Int.ofNat 0))).2.2.1 (e (U.toNat (Int.ofNat 0))).1, PUnit.unit)) fun x => (lk trLow (f (U.toNat (Int.ofNat 1))).1 (f (U.toNat
      (Int.ofNat 1))).2.1 (f (U.toNat (Int.ofNat 1))).2.2.1 (e (U.toNat (Int.ofNat 1))).1, lk trHigh (f (U.toNat (Int.ofNat 1))).1 (f (U.toNat (Int.ofNat 1))).2.1 (f (U.toNat (Int.ofNat
      1))).2.2.1 (e (U.toNat (Int.ofNat 1))).1, lk trStr (f (U.toNat (Int.ofNat 1))).1 (f (U.toNat (Int.ofNat 1))).2.1 (f (U.toNat (Int.ofNat 1))).2.2.1 (e (U.toNat (Int.ofNat 1))).1,
      PUnit.unit)), .lit (.int .i64 k), .lit (.int .i64 s), .lit (.int .i64 h)], .lit (.int .i64 0)]))))))))) (.br (U.ne (lk trE (f (U.toNat (Int.ofNat 0))).1 (f (U.toNat (Int.ofNat
      0))).2.1 (f (U.toNat (Int.ofNat 0))).2.2.1 (e (U.toNat (Int.ofNat 0))).1) (0 : Int)) (.ret (.tup [.agg [.lit (.slice none (nat_lit 0) (nat_lit 0)), .lit (.int .i64 0), .lit (.int
      .i64 0), .lit (.int .i64 0)], .lit (.int .i64 (lk trE (f (U.toNat (Int.ofNat 0))).1 (f (U.toNat (Int.ofNat 0))).2.1 (f (U.toNat (Int.ofNat 0))).2.2.1 (e (U.toNat (Int.ofNat
      0))).1))])) (.ret (.tup [.agg [.row [.int .i64, .int .i64, .int .i64] (nat_lit 1) fun x => (lk trLow (f (U.toNat (Int.ofNat 0))).1 (f (U.toNat (Int.ofNat 0))).2.1 (f (U.toNat
      (Int.ofNat 0))).2.2.1 (e (U.toNat (Int.ofNat 0))).1, lk trHigh (f (U.toNat (Int.ofNat 0))).1 (f (U.toNat (Int.ofNat 0))).2.1 (f (U.toNat (Int.ofNat 0))).2.2.1 (e (U.toNat (Int.ofNat
      0))).1, lk trStr (f (U.toNat (Int.ofNat 0))).1 (f (U.toNat (Int.ofNat 0))).2.1 (f (U.toNat (Int.ofNat 0))).2.2.1 (e (U.toNat (Int.ofNat 0))).1, PUnit.unit), .lit (.int .i64 k), .lit
      (.int .i64 s), .lit (.int .i64 h)], .lit (.int .i64 0)]))))))))) (.ret (.tup [.agg [.lit (.slice none (nat_lit 0) (nat_lit 0)), .lit (.int .i64 k), .lit (.int .i64 s), .lit (.int
      .i64 h)], .lit (.int .i64 0)]))))) := by kernel_rfl
theorem DTranslate_ok (h12 : ∀ p ∈ d12, ConOK P p.1 p.2) (hl : ∀ p ∈ lCh, LoopsOK P p.2 (bodyOf P p.1)) : ConOK P 90 (c_chg 0) := con_cl (allOKL mixed h12 hl) 10 90 fun args r h => by
  unfold c_chg at h
  split at h
  · rename_i n f k s h' m e
    obtain ⟨hp, hq⟩ := (T.is_ask h).1
    have h := (T.is_ask h).2
    obtain rfl := T.is_ret h
    rw [t_DTranslate]
    simp only [tn, lk_eq]
    simp only [Int.ofNat_eq_natCast]
    by_cases c : chD n f k s h' = 0
    · by_cases q : m = n
      · subst q
        have hn := (chD_zero.1 c).1.1
        have hI : ∀ i, i < m → I64 (f i).1 ∧ I64 (f i).2.1 ∧ I64 (f i).2.2.1 ∧ I64 (e i).1 := fun i hi => ⟨(hp i hi).1, (hp i hi).2.1, (hp i hi).2.2, hq i hi⟩
        have hI0 := hI 0 (by omega)
        by_cases E0 : trE (f 0).1 (f 0).2.1 (f 0).2.2.1 (e 0).1 = 0
        · rcases hn with rfl | rfl
          · simp [T.All, U.ne_eq, U.lt_eq, hp, hI0, c, E0]
            refine chg_ok (chgE_4 (w := 0) c E0) rfl fun i hi => ?_
            obtain rfl := one_of hi
            rfl
          · have hI1 := hI 1 (by omega)
            by_cases E1 : trE (f 1).1 (f 1).2.1 (f 1).2.2.1 (e 1).1 = 0
            · simp [T.All, U.ne_eq, U.lt_eq, hp, hI0, hI1, c, E0, E1]
              refine chg_ok (chgE_5 (w := 0) c E0 E1) rfl fun i hi => ?_
              rcases two_of hi with rfl | rfl
              · exact cat_l (by omega)
              · exact cat_r (by omega)
            · simp [T.All, U.ne_eq, U.lt_eq, hp, hI0, hI1, c, E0, E1]
              exact chg_err (chgE_5 (w := 0) c E0 rfl) E1
        · rcases hn with rfl | rfl <;>
          · simp [T.All, U.ne_eq, U.lt_eq, hp, hI0, c, E0]
            exact chg_err (chgE_3 (w := 0) c rfl E0) E0
      · have q' : ¬ ((m : Int) = (n : Int)) := by omega
        simp [T.All, U.ne_eq, hp, c, q']
        exact chg_err (chgE_2 (w := 0) c q) (by omega)
    · simp [T.All, U.ne_eq, hp, c]
      exact chg_err (chgE_1 (w := 0) c) c
  · exact h.elim
set_option maxRecDepth 100000 in
theorem t_qDTranslate (n : Nat) (f : Nat → R3) (k s h : Int) (m : Nat) (e : Nat → R1) : conB Go.Proofs.Try.prog (conOf d12) (loopsOf lqCh) 10 91 [.agg [.row [.int .i64, .int .i64, .int .i64] n f, .lit (.int .i64 k), .lit (.int .i64 s), .lit (.int .i64 h)], .row [.int .i64] m e] =
    T.ask (Row64 n f) (.br (U.ne (lk chD n f k s h) (0 : Int)) (.ret (.tup [.agg [.lit (.slice none (nat_lit 0) (nat_lit 0)), .lit (.int .i64 0), .lit (.int .i64 0), .lit (.int .i64
      0)], .lit (.int .i64 (lk chD n f k s h))])) (.br (U.ne (Int.ofNat m) (Int.ofNat n)) (.ret (.tup [.agg [.lit (.slice none (nat_lit 0) (nat_lit 0)), .lit (.int .i64 0), .lit (.int
      .i64 0), .lit (.int .i64 0)], .lit (.int .i64 5)])) (.br (U.lt (0 : Int) (Int.ofNat m)) (.ask ((0 : Int) ≤ (0 : Int) ∧ (0 : Int) < ↑n) (.ask ((0 : Int) ≤ (0 : Int) ∧ (0 : Int) < ↑m)
      (.ask (I64 (f (U.toNat (Int.ofNat 0))).1 ∧ I64 (f (U.toNat (Int.ofNat 0))).2.1 ∧ I64 (f (U.toNat (Int.ofNat 0))).2.2.1 ∧ I64 (e (U.toNat (Int.ofNat 0))).1) (.br (U.ne (lk trE (f
      (U.toNat (Int.ofNat 0))).1 (f (U.toNat (Int.ofNat 0))).2.1 (f (U.toNat (Int.ofNat 0))).2.2.1 (e (U.toNat (Int.ofNat 0))).1) (0 : Int)) (.ret (.tup [.agg [.lit (.slice none (nat_lit
      0) (nat_lit 0)), .lit (.int .i64 0), .lit (.int .i64 0), .lit (.int .i64 0)], .lit (.int .i64 (lk trE (f (U.toNat (Int.ofNat 0))).1 (f (U.toNat (Int.ofNat 0))).2.1 (f (U.toNat
      (Int.ofNat 0))).2.2.1 (e (U.toNat (Int.ofNat 0))).1))])) (.ask ((1 : Nat) * nat_lit 24 ≤ nat_lit 140737488351232) (.br (U.lt (1 : Int) (Int.ofNat m)) (.ask ((0 : Int) ≤ (1 : Int) ∧
      (1 : Int) < ↑n) (.ask ((0 : Int) ≤ (1 : Int) ∧ (1 : Int) < ↑m) (.ask (I64 (f (U.toNat (Int.ofNat 1))).1 ∧ I64 (f (U.toNat (Int.ofNat 1))).2.1 ∧ I64 (f (U.toNat (Int.ofNat 1))).2.2.1
      ∧ I64 (e (U.toNat (Int.ofNat 1))).1) (.br (U.ne (lk trE (f (U.toNat (Int.ofNat 1))).1 (f (U.toNat (Int.ofNat 1))).2.1 (f (U.toNat (Int.ofNat 1))).2.2.1 (e (U.toNat (Int.ofNat
      1))).1) (0 : Int)) (.ret (.tup [.agg [.lit (.slice none (nat_lit 0) (nat_lit 0)), .lit (.int .i64 0), .lit (.int .i64 0), .lit (.int .i64 0)], .lit (.int .i64 (lk trE (f (U.toNat
      (Int.ofNat 1))).1 (f (U.toNat (Int.ofNat 1))).2.1 (f (U.toNat (Int.ofNat 1))).2.2.1 (e (U.toNat (Int.ofNat 1))).1))])) (.ask (((1 : Nat) + (1 : Nat)) * nat_lit 24 ≤ nat_lit
      140737488351232) (.br (U.lt (2 : Int) (Int.ofNat m)) (.ask ((0 : Int) ≤ (2 : Int) ∧ (2 : Int) < ↑n) (.ask ((0 : Int) ≤ (2 : Int) ∧ (2 : Int) < ↑m) (.ask (I64 (f (U.toNat (Int.ofNat
      2))).1 ∧ I64 (f (U.toNat (Int.ofNat 2))).2.1 ∧ I64 (f (U.toNat (Int.ofNat 2))).2.2.1 ∧ I64 (e (U.toNat (Int.ofNat 2))).1) (.br (U.ne (lk trE (f (U.toNat (Int.ofNat 2))).1 (f
      (U.toNat (Int.ofNat 2))).2.1 (f (U.toNat (Int.ofNat 2))).2.2.1 (e (U.toNat (Int.ofNat 2))).1) (0 : Int)) (.ret (.tup [.agg [.lit (.slice none (nat_lit 0) (nat_lit 0)), .lit (.int
      .i64 0), .lit (.int .i64 0), .lit (.int .i64 0)], .lit (.int .i64 (lk trE (f (U.toNat (Int.ofNat 2))).1 (f (U.toNat (Int.ofNat 2))).2.1 (f (U.toNat (Int.ofNat 2))).2.2.1 (e (U.toNat
      (Int.ofNat 2))).1))])) (.ask (((1 : Nat) + (1 : Nat) + (1 : Nat)) * nat_lit 24 ≤ nat_lit 140737488351232) (.stuck (nat_lit 105))))))) (.ret (.tup [.agg [.row [.int .i64, .int .i64,
      .int .i64] (nat_lit 2) (U.cat (nat_lit 1) (fun x => (lk trLow (f (U.toNat (Int.ofNat 0))).1 (f (U.toNat (Int.ofNat 0))).2.1 (f (U.toNat (Int.ofNat 0))).2.2.1 (e (U.toNat (Int.ofNat
      0))).1, lk trHigh (f (U.toNat (Int.ofNat 0))).1 (f (U.toNat (Int.ofNat 0))).2.1 (f (U.toNat (Int.ofNat 0))).2.2.1 (e (U.toNat (Int.ofNat 0))).1, lk trStr (f (U.toNat (Int.ofNat
      0))).1 (f (U.toNat (Int.ofNat 0))).2.1 (f (U.toNat (Int.ofNat 0))).2.2.1 (e (U.toNat (Int.ofNat 0))).1, PUnit.unit)) fun x => (lk trLow (f (U.toNat (Int.ofNat 1))).1 (f (U.toNat
      (Int.ofNat 1))).2.1 (f (U.toNat (Int.ofNat 1))).2.2.1 (e (U.toNat (Int.ofNat 1))).1, lk trHigh (f (U.toNat (Int.ofNat 1))).1 (f (U.toNat (Int.ofNat 1))).2.1 (f (U.toNat (Int.ofNat
      1))).2.2.1 (e (U.toNat (Int.ofNat 1))).1, lk trStr (f (U.toNat (Int.ofNat 1))).1 (f (U.toNat (Int.ofNat 1))).2.1 (f (U.toNat (Int.ofNat 1))).2.2.1 (e (U.toNat (Int.ofNat 1))).1,
      PUnit.unit)), .lit (.int .i64 k), .lit (.int .i64 s), .lit (.int .i64 h)], .lit (.int .i64 0)])))))))) (.ret (.tup [.agg [.row [.int .i64, .int .i64, .int .i64] (nat_lit 1) fun x =>
      (lk trLow (f (U.toNat (Int.ofNat 0))).1 (f (U.toNat (Int.ofNat 0))).2.1 (f (U.toNat (Int.ofNat 0))).2.2.1 (e (U.toNat (Int.ofNat 0))).1, lk trHigh (f (U.toNat (Int.ofNat 0))).1 (f
      (U.toNat (Int.ofNat 0))).2.1 (f (U.toNat (Int.ofNat 0))).2.2.1 (e (U.toNat (Int.ofNat 0))).1, lk trStr (f (U.toNat (Int.ofNat 0))).1 (f (U.toNat (Int.ofNat 0))).2.1 (f (U.toNat
      (Int.ofNat 0))).2.2.1 (e (U.toNat (Int.ofNat 0))).1, PUnit.unit), .lit (.int .i64 k), .lit (.int .i64 s), .lit (.int .i64 h)], .lit (.int .i64 0)])))))))) (.ret (.tup [.agg [.lit
      (.slice none (nat_lit 0) (nat_lit 0)), .lit (.int .i64 k), .lit (.int .i64 s), .lit (.int .i64 h)], .lit (.int .i64 0)]))))) := by kernel_rfl
theorem qDTranslate_ok (h12 : ∀ p ∈ d12, ConOK P p.1 p.2) (hl : ∀ p ∈ lqCh, LoopsOK P p.2 (bodyOf P p.1)) : ConOK P 91 (c_chg 0) := con_cl (allOKL mixed h12 hl) 10 91 fun args r h => by
  unfold c_chg at h
  split at h
  · rename_i n f k s h' m e
    obtain ⟨hp, hq⟩ := (T.is_ask h).1
    have h := (T.is_ask h).2
    obtain rfl := T.is_ret h
    rw [t_qDTranslate]
    simp only [tn, lk_eq]
    simp only [Int.ofNat_eq_natCast]
    by_cases c : chD n f k s h' = 0
    · by_cases q : m = n
      · subst q
        have hn := (chD_zero.1 c).1.1
        have hI : ∀ i, i < m → I64 (f i).1 ∧ I64 (f i).2.1 ∧ I64 (f i).2.2.1 ∧ I64 (e i).1 := fun i hi => ⟨(hp i hi).1, (hp i hi).2.1, (hp i hi).2.2, hq i hi⟩
        have hI0 := hI 0 (by omega)
        by_cases E0 : trE (f 0).1 (f 0).2.1 (f 0).2.2.1 (e 0).1 = 0
        · rcases hn with rfl | rfl
          · simp [T.All, U.ne_eq, U.lt_eq, hp, hI0, c, E0]
            refine chg_ok (chgE_4 (w := 0) c E0) rfl fun i hi => ?_
            obtain rfl := one_of hi
            rfl
          · have hI1 := hI 1 (by omega)
            by_cases E1 : trE (f 1).1 (f 1).2.1 (f 1).2.2.1 (e 1).1 = 0
            · simp [T.All, U.ne_eq, U.lt_eq, hp, hI0, hI1, c, E0, E1]
              refine chg_ok (chgE_5 (w := 0) c E0 E1) rfl fun i hi => ?_
              rcases two_of hi with rfl | rfl
              · exact cat_l (by omega)
              · exact cat_r (by omega)
            · simp [T.All, U.ne_eq, U.lt_eq, hp, hI0, hI1, c, E0, E1]
              exact chg_err (chgE_5 (w := 0) c E0 rfl) E1
        · rcases hn with rfl | rfl <;>
          · simp [T.All, U.ne_eq, U.lt_eq, hp, hI0, c, E0]
            exact chg_err (chgE_3 (w := 0) c rfl E0) E0
      · have q' : ¬ ((m : Int) = (n : Int)) := by omega
        simp [T.All, U.ne_eq, hp, c, q']
        exact chg_err (chgE_2 (w := 0) c q) (by omega)
    · simp [T.All, U.ne_eq, hp, c]
      exact chg_err (chgE_1 (w := 0) c) c
  · exact h.elim
set_option maxRecDepth 100000 in
theorem t_DExpand (n : Nat) (f : Nat → R3) (k s h : Int) (m : Nat) (e : Nat → R1) : conB Go.Proofs.Try.prog (conOf d12) (loopsOf lCh) 10 92 [.agg [.row [.int .i64, .int .i64, .int .i64] n f, .lit (.int .i64 k), .lit (.int .i64 s), .lit (.int .i64 h)], .row [.int .i64] m e] =
    T.ask (Row64 n f) (.br (U.ne (lk chD n f k s h) (0 : Int)) (.ret (.tup [.agg [.lit (.slice none (nat_lit 0) (nat_lit 0)), .lit (.int .i64 0), .lit (.int .i64 0), .lit (.int .i64
      0)], .lit (.int .i64 (lk chD n f k s h))])) (.br (U.ne (Int.ofNat m) (Int.ofNat n)) (.ret (.tup [.agg [.lit (.slice none (nat_lit 0) (nat_lit 0)), .lit (.int .i64 0), .lit (.int
      .i64 0), .lit (.int .i64 0)], .lit (.int .i64 5)])) (.br (U.lt (0 : Int) (Int.ofNat n)) (.ask ((0 : Int) ≤ (0 : Int) ∧ (0 : Int) < ↑n) (.ask ((0 : Int) ≤ (0 : Int) ∧ (0 : Int) < ↑m)
      (.ask (I64 (f (U.toNat (Int.ofNat 0))).1 ∧ I64 (f (U.toNat (Int.ofNat 0))).2.1 ∧ I64 (f (U.toNat (Int.ofNat 0))).2.2.1 ∧ I64 (e (U.toNat (Int.ofNat 0))).1) (.br (U.ne (lk exE (f
      (U.toNat (Int.ofNat 0))).1 (f (U.toNat (Int.ofNat 0))).2.1 (f (U.toNat (Int.ofNat 0))).2.2.1 (e (U.toNat (Int.ofNat 0))).1) (0 : Int)) (.br (U.ne (lk exE (f (U.toNat (Int.ofNat
      0))).1 (f (U.toNat (Int.ofNat 0))).2.1 (f (U.toNat (Int.ofNat 0))).2.2.1 (e (U.toNat (Int.ofNat 0))).1) (0 : Int)) (.ret (.tup [.agg [.lit (.slice none (nat_lit 0) (nat_lit 0)),
      .lit (.int .i64 0), .lit (.int .i64 0), .lit (.int .i64 0)], .lit (.int .i64 (lk exE (f (U.toNat (Int.ofNat 0))).1 (f (U.toNat (Int.ofNat 0))).2.1 (f (U.toNat (Int.ofNat 0))).2.2.1
      (e (U.toNat (Int.ofNat 0))).1))])) (.ret (.tup [.agg [.lit (.slice none (nat_lit 0) (nat_lit 0)), .lit (.int .i64 k), .lit (.int .i64 s), .lit (.int .i64 h)], .lit (.int .i64 0)])))
      (.ask ((1 : Nat) * nat_lit 24 ≤ nat_lit 140737488351232) (.br (U.lt (1 : Int) (Int.ofNat n)) (.ask ((0 : Int) ≤ (1 : Int) ∧ (1 : Int) < ↑n) (.ask ((0 : Int) ≤ (1 : Int) ∧ (1 : Int)
      < ↑m) (.ask (I64 (f (U.toNat (Int.ofNat 1))).1 ∧ I64 (f (U.toNat (Int.ofNat 1))).2.1 ∧ I64 (f (U.toNat (Int.ofNat 1))).2.2.1 ∧ I64 (e (U.toNat (Int.ofNat 1))).1) (.br (U.ne (lk exE
      (f (U.toNat (Int.ofNat 1))).1 (f (U.toNat (Int.ofNat 1))).2.1 (f (U.toNat (Int.ofNat 1))).2.2.1 (e (U.toNat (Int.ofNat 1))).1) (0 : Int)) (.br (U.ne (lk exE (f (U.toNat (Int.ofNat
      1))).1 (f (U.toNat (Int.ofNat 1))).2.1 (f (U.toNat (Int.ofNat 1))).2.2.1 (e (U.toNat (Int.ofNat 1))).1) (0 : Int)) (.ret (.tup [.agg [.lit (.slice none (nat_lit 0) (nat_lit 0)),
      .lit (.int .i64 0), .lit (.int .i64 0), .lit (.int .i64 0)], .lit (.int .i64 (lk exE (f (U.toNat (Int.ofNat 1))).1 (f (U.toNat (Int.ofNat 1))).2.1 (f (U.toNat (Int.ofNat 1))).2.2.1
      (e (U.toNat (Int.ofNat 1))).1))])) (.ret (.tup [.agg [.row [.int .i64, .int .i64, .int .i64] (nat_lit 1) fun x => (lk exLow (f (U.toNat (Int.ofNat 0))).1 (f (U.toNat (Int.ofNat
      0))).2.1 (f (U.toNat (Int.ofNat 0))).2.2.1 (e (U.toNat (Int.ofNat 0))).1, lk exHigh (f (U.toNat (Int.ofNat 0))).1 (f (U.toNat (Int.ofNat 0))).2.1 (f (U.toNat (Int.ofNat 0))).2.2.1
      (e (U.toNat (Int.ofNat 0))).1, lk exStr (f (U.toNat (Int.ofNat 0))).1 (f (U.toNat (Int.ofNat 0))).2.1 (f (U.toNat (Int.ofNat 0))).2.2.1 (e (U.toNat (Int.ofNat 0))).1, PUnit.unit),
      .lit (.int .i64 k), .lit (.int .i64 s), .lit (.int .i64 h)], .lit (.int .i64 0)]))) (.ask (((1 : Nat) + (1 : Nat)) * nat_lit 24 ≤ nat_lit 140737488351232) (.br (U.lt (2 : Int)
      (Int.ofNat n)) (.ask ((0 : Int) ≤ (2 : Int) ∧ (2 : Int) < ↑n) (.ask ((0 : Int) ≤ (2 : Int) ∧ (2 : Int) < ↑m) (.ask (I64 (f (U.toNat (Int.ofNat 2))).1 ∧ I64 (f (U.toNat (Int.ofNat
      2))).2.1 ∧ I64 (f (U.toNat (Int.ofNat 2))).2.2.1 ∧ I64 (e (U.toNat (Int.ofNat 2))).1) (.br (U.ne (lk exE (f (U.toNat (Int.ofNat 2))).1 (f (U.toNat (Int.ofNat 2))).2.1 (f (U.toNat
      (Int.ofNat 2))).2.2.1 (e (U.toNat (Int.ofNat 2))).1) (0 : Int)) (.br (U.ne (lk exE (f (U.toNat (Int.ofNat 2))).1 (f (U.toNat (Int.ofNat 2))).2.1 (f (U.toNat (Int.ofNat 2))).2.2.1 (e
      (U.toNat (Int.ofNat 2))).1) (0 : Int)) (.ret (.tup [.agg [.lit (.slice none (nat_lit 0) (nat_lit 0)), .lit (.int .i64 0), .lit (.int .i64 0), .lit (.int .i64 0)], .lit (.int .i64
      (lk exE (f (U.toNat (Int.ofNat 2))).1 (f (U.toNat (Int.ofNat 2))).2.1 (f (U.toNat (Int.ofNat 2))).2.2.1 (e (U.toNat (Int.ofNat 2))).1))])) (.ret (.tup [.agg [.row [.int .i64, .int
      .i64, .int .i64] (nat_lit 2) (U.cat (nat_lit 1) (fun x => (lk exLow (f (U.toNat (Int.ofNat 0))).1 (f (U.toNat (Int.ofNat 0))).2.1 (f (U.toNat (Int.ofNat 0))).2.2.1 (e (U.toNat
      (Int.ofNat 0))).1, lk exHigh (f (U.toNat (Int.ofNat 0))).1 (f (U.toNat (Int.ofNat 0))).2.1 (f (U.toNat (Int.ofNat 0))).2.2.1 (e (U.toNat (Int.ofNat 0))).1, lk exStr (f (U.toNat
      (Int.ofNat 0))).1 (f (U.toNat (Int.ofNat 0))).2.1 (f (U.toNat (Int.ofNat 0))).2.2.1 (e (U.toNat (Int.ofNat 0))).1, PUnit.unit)) fun x => (lk exLow (f (U.toNat (Int.ofNat 1))).1 (f
      (U.toNat (Int.ofNat 1))).2.1 (f (U.toNat (Int.ofNat 1))).2.2.1 (e (U.toNat (Int.ofNat 1))).1, lk exHigh (f (U.toNat (Int.ofNat 1))).1 (f (U.toNat (Int.ofNat 1))).2.1 (f (U.toNat
      (Int.ofNat 1))).2.2.1 (e (U.toNat (Int.ofNat 1))).1, lk exStr (f (U.toNat (Int.ofNat 1))).1 (f (U.toNat (Int.ofNat 1))).2.1 (f (U.toNat (Int.ofNat 1))).2.2.1 (e (U.toNat (Int.ofNat
      1))).1, PUnit.unit)), .lit (.int .i64 k), .lit (.int .i64 s), .lit (.int .i64 h)], .lit (.int .i64 0)]))) (.ask (((1 : Nat) + (1 : Nat) + (1 : Nat)) * nat_lit 24 ≤ nat_lit
      140737488351232) (.stuck (nat_lit 105))))))) (.br (U.ne (lk exE (f (U.toNat (Int.ofNat 1))).1 (f (U.toNat (Int.ofNat 1))).2.1 (f (U.toNat (Int.ofNat 1))).2.2.1 (e (U.toNat
      (Int.ofNat 1))).1) (0 : Int)) (.ret (.tup [.agg [.lit (.slice none (nat_lit 0) (nat_lit 0)), .lit (.int .i64 0), .lit (.int .i64 0), .lit (.int .i64 0)], .lit (.int .i64 (lk exE (f
      (U.toNat (Int.ofNat 1))).1 (f (U.toNat (Int.ofNat 1))).2.1 (f (U.toNat (Int.ofNat 1))).2.2.1 (e (U.toNat (Int.ofNat 1))).1))])) (.ret (.tup [.agg [.row [.int .i64, .int .i64, .int
      .i64] (nat_lit 2) (U.cat (nat_lit 1) (fun x => (lk exLow (f (U.toNat (Int.ofNat 0))).1 (f (U.toNat (Int.ofNat 0))).2.1 (f (U.toNat (Int.ofNat 0))).2.2.1 (e (U.toNat (Int.ofNat
      0))).1, lk exHigh (f (U.toNat (Int.ofNat 0))).1 (f (U.toNat (Int.ofNat 0))).2.1 (f (U.toNat (Int.ofNat 0))).2.2.1 (e (U.toNat (Int.ofNat 0))).1, lk exStr (f (U.toNat (Int.ofNat
      0))).1 (f (U.toNat (Int.ofNat 0))).2.1 (f (U.toNat (Int.ofNat 0))).2.2.1 (e (U.toNat (Int.ofNat 0))).1, PUnit.unit)) fun x => (lk exLow (f (U.toNat (Int.ofNat 1))).1 (f (U.toNat
      (Int.ofNat 1))).2.1 (f (U.toNat (Int.ofNat 1))).2.2.1 (e (U.toNat (Int.ofNat 1))).1, lk exHigh (f (U.toNat (Int.ofNat 1))).1 (f (U.toNat (Int.ofNat 1))).2.1 (f (U.toNat (Int.ofNat
      1))).2.2.1 (e (U.toNat (Int.ofNat 1))).1, lk exStr (f (U.toNat (Int.ofNat 1))).1 (f (U.toNat (Int.ofNat 1))).2.1 (f (U.toNat (Int.ofNat 1))).2.2.1 (e (U.toNat (Int.ofNat 1))).1,
      PUnit.unit)), .lit (.int .i64 k), .lit (.int .i64 s), .lit (.int .i64 h)], .lit (.int .i64 0)]))))))))) (.br (U.ne (lk exE (f (U.toNat (Int.ofNat 0))).1 (f (U.toNat (Int.ofNat
      0))).2.1 (f (U.toNat (Int.ofNat 0))).2.2.1 (e (U.toNat (Int.ofNat 0))).1) (0 : Int)) (.ret (.tup [.agg [.lit (.slice none (nat_lit 0) (nat_lit 0)), .lit (.int .i64 0), .lit (.int
      .i64 0), .lit (.int .i64 0)], .lit (.int .i64 (lk exE (f (U.toNat (Int.ofNat 0))).1 (f (U.toNat (Int.ofNat 0))).2.1 (f (U.toNat (Int.ofNat 0))).2.2.1 (e (U.toNat (Int.ofNat
      0))).1))])) (.ret (.tup [.agg [.row [.int .i64, .int .i64, .int .i64] (nat_lit 1) fun x => (lk exLow (f (U.toNat (Int.ofNat 0))).1 (f (U.toNat (Int.ofNat 0))).2.1 (f (U.toNat
      (Int.ofNat 0))).2.2.1 (e (U.toNat (Int.ofNat 0))).1, lk exHigh (f (U.toNat (Int.ofNat 0))).1 (f (U.toNat (Int.ofNat 0))).2.1 (f (U.toNat (Int.ofNat 0))).2.2.1 (e (U.toNat (Int.ofNat
      0))).1, lk exStr (f (U.toNat (Int.ofNat 0))).1 (f (U.toNat (Int.ofNat 0))).2.1 (f (U.toNat (Int.ofNat 0))).2.2.1 (e (U.toNat (Int.ofNat 0))).1, PUnit.unit), .lit (.int .i64 k), .lit
      (.int .i64 s), .lit (.int .i64 h)], .lit (.int .i64 0)]))))))))) (.ret (.tup [.agg [.lit (.slice none (nat_lit 0) (nat_lit 0)), .lit (.int .i64 k), .lit (.int .i64 s), .lit (.int
      .i64 h)], .lit (.int .i64 0)]))))) := by kernel_rfl
theorem DExpand_ok (h12 : ∀ p ∈ d12, ConOK P p.1 p.2) (hl : ∀ p ∈ lCh, LoopsOK P p.2 (bodyOf P p.1)) : ConOK P 92 (c_chg 1) := con_cl (allOKL mixed h12 hl) 10 92 fun args r h => by
  unfold c_chg at h
  split at h
  · rename_i n f k s h' m e
    obtain ⟨hp, hq⟩ := (T.is_ask h).1
    have h := (T.is_ask h).2
    obtain rfl := T.is_ret h
    rw [t_DExpand]
    simp only [tn, lk_eq]
    simp only [Int.ofNat_eq_natCast]
    by_cases c : chD n f k s h' = 0
    · by_cases q : m = n
      · subst q
        have hn := (chD_zero.1 c).1.1
        have hI : ∀ i, i < m → I64 (f i).1 ∧ I64 (f i).2.1 ∧ I64 (f i).2.2.1 ∧ I64 (e i).1 := fun i hi => ⟨(hp i hi).1, (hp i hi).2.1, (hp i hi).2.2, hq i hi⟩
        have hI0 := hI 0 (by omega)
        by_cases E0 : exE (f 0).1 (f 0).2.1 (f 0).2.2.1 (e 0).1 = 0
        · rcases hn with rfl | rfl
          · simp [T.All, U.ne_eq, U.lt_eq, hp, hI0, c, E0]
            refine chg_ok (chgE_4 (w := 1) c E0) rfl fun i hi => ?_
            obtain rfl := one_of hi
            rfl
          · have hI1 := hI 1 (by omega)
            by_cases E1 : exE (f 1).1 (f 1).2.1 (f 1).2.2.1 (e 1).1 = 0
            · simp [T.All, U.ne_eq, U.lt_eq, hp, hI0, hI1, c, E0, E1]
              refine chg_ok (chgE_5 (w := 1) c E0 E1) rfl fun i hi => ?_
              rcases two_of hi with rfl | rfl
              · exact cat_l (by omega)
              · exact cat_r (by omega)
            · simp [T.All, U.ne_eq, U.lt_eq, hp, hI0, hI1, c, E0, E1]
              exact chg_err (chgE_5 (w := 1) c E0 rfl) E1
        · rcases hn with rfl | rfl <;>
          · simp [T.All, U.ne_eq, U.lt_eq, hp, hI0, c, E0]
            exact chg_err (chgE_3 (w := 1) c rfl E0) E0
      · have q' : ¬ ((m : Int) = (n : Int)) := by omega
        simp [T.All, U.ne_eq, hp, c, q']
        exact chg_err (chgE_2 (w := 1) c q) (by omega)
    · simp [T.All, U.ne_eq, hp, c]
      exact chg_err (chgE_1 (w := 1) c) c
  · exact h.elim
set_option maxRecDepth 100000 in
theorem t_qDExpand (n : Nat) (f : Nat → R3) (k s h : Int) (m : Nat) (e : Nat → R1) : conB Go.Proofs.Try.prog (conOf d12) (loopsOf lqCh) 10 93 [.agg [.row [.int .i64, .int .i64, .int .i64] n f, .lit (.int .i64 k), .lit (.int .i64 s), .lit (.int .i64 h)], .row [.int .i64] m e] =
    T.ask (Row64 n f) (.br (U.ne (lk chD n f k s h) (0 : Int)) (.ret (.tup [.agg [.lit (.slice none (nat_lit 0) (nat_lit 0)), .lit (.int .i64 0), .lit (.int .i64 0), .lit (.int .i64
      0)], .lit (.int .i64 (lk chD n f k s h))])) (.br (U.ne (Int.ofNat m) (Int.ofNat n)) (.ret (.tup [.agg [.lit (.slice none (nat_lit 0) (nat_lit 0)), .lit (.int .i64 0), .lit (.int
      .i64 0), .lit (.int .i64 0)], .lit (.int .i64 5)])) (.br (U.lt (0 : Int) (Int.ofNat m)) (.ask ((0 : Int) ≤ (0 : Int) ∧ (0 : Int) < ↑n) (.ask ((0 : Int) ≤ (0 : Int) ∧ (0 : Int) < ↑m)
      (.ask (I64 (f (U.toNat (Int.ofNat 0))).1 ∧ I64 (f (U.toNat (Int.ofNat 0))).2.1 ∧ I64 (f (U.toNat (Int.ofNat 0))).2.2.1 ∧ I64 (e (U.toNat (Int.ofNat 0))).1) (.br (U.ne (lk exE (f
      (U.toNat (Int.ofNat 0))).1 (f (U.toNat (Int.ofNat 0))).2.1 (f (U.toNat (Int.ofNat 0))).2.2.1 (e (U.toNat (Int.ofNat 0))).1) (0 : Int)) (.ret (.tup [.agg [.lit (.slice none (nat_lit
      0) (nat_lit 0)), .lit (.int .i64 0), .lit (.int .i64 0), .lit (.int .i64 0)], .lit (.int .i64 (lk exE (f (U.toNat (Int.ofNat 0))).1 (f (U.toNat (Int.ofNat 0))).2.1 (f (U.toNat
      (Int.ofNat 0))).2.2.1 (e (U.toNat (Int.ofNat 0))).1))])) (.ask ((1 : Nat) * nat_lit 24 ≤ nat_lit 140737488351232) (.br (U.lt (1 : Int) (Int.ofNat m)) (.ask ((0 : Int) ≤ (1 : Int) ∧
      (1 : Int) < ↑n) (.ask ((0 : Int) ≤ (1 : Int) ∧ (1 : Int) < ↑m) (.ask (I64 (f (U.toNat (Int.ofNat 1))).1 ∧ I64 (f (U.toNat (Int.ofNat 1))).2.1 ∧ I64 (f (U.toNat (Int.ofNat 1))).2.2.1
      ∧ I64 (e (U.toNat (Int.ofNat 1))).1) (.br (U.ne (lk exE (f (U.toNat (Int.ofNat 1))).1 (f (U.toNat (Int.ofNat 1))).2.1 (f (U.toNat (Int.ofNat 1))).2.2.1 (e (U.toNat (Int.ofNat
      1))).1) (0 : Int)) (.ret (.tup [.agg [.lit (.slice none (nat_lit 0) (nat_lit 0)), .lit (.int .i64 0), .lit (.int .i64 0), .lit (.int .i64 0)], .lit (.int .i64 (lk exE (f (U.toNat
      (Int.ofNat 1))).1 (f (U.toNat (Int.ofNat 1))).2.1 (f (U.toNat (Int.ofNat 1))).2.2.1 (e (U.toNat (Int.ofNat 1))).1))])) (.ask (((1 : Nat) + (1 : Nat)) * nat_lit 24 ≤ nat_lit
      140737488351232) (.br (U.lt (2 : Int) (Int.ofNat m)) (.ask ((0 : Int) ≤ (2 : Int) ∧ (2 : Int) < ↑n) (.ask ((0 : Int) ≤ (2 : Int) ∧ (2 : Int) < ↑m) (.ask (I64 (f (U.toNat (Int.ofNat
      2))).1 ∧ I64 (f (U.toNat (Int.ofNat 2))).2.1 ∧ I64 (f (U.toNat (Int.ofNat 2))).2.2.1 ∧ I64 (e (U.toNat (Int.ofNat 2))).1) (.br (U.ne (lk exE (f (U.toNat (Int.ofNat 2))).1 (f
      (U.toNat (Int.ofNat 2))).2.1 (f (U.toNat (Int.ofNat 2))).2.2.1 (e (U.toNat (Int.ofNat 2))).1) (0 : Int)) (.ret (.tup [.agg [.lit (.slice none (nat_lit 0) (nat_lit 0)), .lit (.int
      .i64 0), .lit (.int .i64 0), .lit (.int .i64 0)], .lit (.int .i64 (lk exE (f (U.toNat (Int.ofNat 2))).1 (f (U.toNat (Int.ofNat 2))).2.1 (f (U.toNat (Int.ofNat 2))).2.2.1 (e (U.toNat
      (Int.ofNat 2))).1))])) (.ask (((1 : Nat) + (1 : Nat) + (1 : Nat)) * nat_lit 24 ≤ nat_lit 140737488351232) (.stuck (nat_lit 105))))))) (.ret (.tup [.agg [.row [.int .i64, .int .i64,
      .int .i64] (nat_lit 2) (U.cat (nat_lit 1) (fun x => (lk exLow (f (U.toNat (Int.ofNat 0))).1 (f (U.toNat (Int.ofNat 0))).2.1 (f (U.toNat (Int.ofNat 0))).2.2.1 (e (U.toNat (Int.ofNat
      0))).1, lk exHigh (f (U.toNat (Int.ofNat 0))).1 (f (U.toNat (Int.ofNat 0))).2.1 (f (U.toNat (Int.ofNat 0))).2.2.1 (e (U.toNat (Int.ofNat 0))).1, lk exStr (f (U.toNat (Int.ofNat
      0))).1 (f (U.toNat (Int.ofNat 0))).2.1 (f (U.toNat (Int.ofNat 0))).2.2.1 (e (U.toNat (Int.ofNat 0))).1, PUnit.unit)) fun x => (lk exLow (f (U.toNat (Int.ofNat 1))).1 (f (U.toNat
      (Int.ofNat 1))).2.1 (f (U.toNat (Int.ofNat 1))).2.2.1 (e (U.toNat (Int.ofNat 1))).1, lk exHigh (f (U.toNat (Int.ofNat 1))).1 (f (U.toNat (Int.ofNat 1))).2.1 (f (U.toNat (Int.ofNat
      1))).2.2.1 (e (U.toNat (Int.ofNat 1))).1, lk exStr (f (U.toNat (Int.ofNat 1))).1 (f (U.toNat (Int.ofNat 1))).2.1 (f (U.toNat (Int.ofNat 1))).2.2.1 (e (U.toNat (Int.ofNat 1))).1,
      PUnit.unit)), .lit (.int .i64 k), .lit (.int .i64 s), .lit (.int .i64 h)], .lit (.int .i64 0)])))))))) (.ret (.tup [.agg [.row [.int .i64, .int .i64, .int .i64] (nat_lit 1) fun x =>
      (lk exLow (f (U.toNat (Int.ofNat 0))).1 (f (U.toNat (Int.ofNat 0))).2.1 (f (U.toNat (Int.ofNat 0))).2.2.1 (e (U.toNat (Int.ofNat 0))).1, lk exHigh (f (U.toNat (Int.ofNat 0))).1 (f
      (U.toNat (Int.ofNat 0))).2.1 (f (U.toNat (Int.ofNat 0))).2.2.1 (e (U.toNat (Int.ofNat 0))).1, lk exStr (f (U.toNat (Int.ofNat 0))).1 (f (U.toNat (Int.ofNat 0))).2.1 (f (U.toNat
      (Int.ofNat 0))).2.2.1 (e (U.toNat (Int.ofNat 0))).1, PUnit.unit), .lit (.int .i64 k), .lit (.int .i64 s), .lit (.int .i64 h)], .lit (.int .i64 0)])))))))) (.ret (.tup [.agg [.lit
      (.slice none (nat_lit 0) (nat_lit 0)), .lit (.int .i64 k), .lit (.int .i64 s), .lit (.int .i64 h)], .lit (.int .i64 0)]))))) := by kernel_rfl
theorem qDExpand_ok (h12 : ∀ p ∈ d12, ConOK P p.1 p.2) (hl : ∀ p ∈ lqCh, LoopsOK P p.2 (bodyOf P p.1)) : ConOK P 93 (c_chg 1) := con_cl (allOKL mixed h12 hl) 10 93 fun args r h => by
  unfold c_chg at h
  split at h
  · rename_i n f k s h' m e
    obtain ⟨hp, hq⟩ := (T.is_ask h).1
    have h := (T.is_ask h).2
    obtain rfl := T.is_ret h
    rw [t_qDExpand]
    simp only [tn, lk_eq]
    simp only [Int.ofNat_eq_natCast]
    by_cases c : chD n f k s h' = 0
    · by_cases q : m = n
      · subst q
        have hn := (chD_zero.1 c).1.1
        have hI : ∀ i, i < m → I64 (f i).1 ∧ I64 (f i).2.1 ∧ I64 (f i).2.2.1 ∧ I64 (e i).1 := fun i hi => ⟨(hp i hi).1, (hp i hi).2.1, (hp i hi).2.2, hq i hi⟩
        have hI0 := hI 0 (by omega)
        by_cases E0 : exE (f 0).1 (f 0).2.1 (f 0).2.2.1 (e 0).1 = 0
        · rcases hn with rfl | rfl
          · simp [T.All, U.ne_eq, U.lt_eq, hp, hI0, c, E0]
            refine chg_ok (chgE_4 (w := 1) c E0) rfl fun i hi => ?_
            obtain rfl := one_of hi
            rfl
          · have hI1 := hI 1 (by omega)
            by_cases E1 : exE (f 1).1 (f 1).2.1 (f 1).2.2.1 (e 1).1 = 0
            · simp [T.All, U.ne_eq, U.lt_eq, hp, hI0, hI1, c, E0, E1]
              refine chg_ok (chgE_5 (w := 1) c E0 E1) rfl fun i hi => ?_
              rcases two_of hi with rfl | rfl
              · exact cat_l (by omega)
              · exact cat_r (by omega)
            · simp [T.All, U.ne_eq, U.lt_eq, hp, hI0, hI1, c, E0, E1]
              exact chg_err (chgE_5 (w := 1) c E0 rfl) E1
        · rcases hn with rfl | rfl <;>
          · simp [T.All, U.ne_eq, U.lt_eq, hp, hI0, c, E0]
            exact chg_err (chgE_3 (w := 1) c rfl E0) E0
      · have q' : ¬ ((m : Int) = (n : Int)) := by omega
        simp [T.All, U.ne_eq, hp, c, q']
        exact chg_err (chgE_2 (w := 1) c q) (by omega)
    · simp [T.All, U.ne_eq, hp, c]
      exact chg_err (chgE_1 (w := 1) c) c
  · exact h.elim
set_option maxRecDepth 100000 in
theorem t_DInterior (n : Nat) (f : Nat → R3) (k s h : Int) (m : Nat) (e : Nat → R1) : conB Go.Proofs.Try.prog (conOf d12) (loopsOf lCh) 10 94 [.agg [.row [.int .i64, .int .i64, .int .i64] n f, .lit (.int .i64 k), .lit (.int .i64 s), .lit (.int .i64 h)], .row [.int .i64] m e] =
    T.ask (Row64 n f) (.br (U.ne (lk chD n f k s h) (0 : Int)) (.ret (.tup [.agg [.lit (.slice none (nat_lit 0) (nat_lit 0)), .lit (.int .i64 0), .lit (.int .i64 0), .lit (.int .i64
      0)], .lit (.int .i64 (lk chD n f k s h))])) (.br (U.ne (Int.ofNat m) (Int.ofNat n)) (.ret (.tup [.agg [.lit (.slice none (nat_lit 0) (nat_lit 0)), .lit (.int .i64 0), .lit (.int
      .i64 0), .lit (.int .i64 0)], .lit (.int .i64 5)])) (.br (U.lt (0 : Int) (Int.ofNat n)) (.ask ((0 : Int) ≤ (0 : Int) ∧ (0 : Int) < ↑n) (.ask ((0 : Int) ≤ (0 : Int) ∧ (0 : Int) < ↑m)
      (.br (U.eq (e (U.toNat (Int.ofNat 0))).1 (0 : Int)) (.ask ((1 : Nat) * nat_lit 24 ≤ nat_lit 140737488351232) (.br (U.lt (1 : Int) (Int.ofNat n)) (.ask ((0 : Int) ≤ (1 : Int) ∧ (1 :
      Int) < ↑n) (.ask ((0 : Int) ≤ (1 : Int) ∧ (1 : Int) < ↑m) (.br (U.eq (e (U.toNat (Int.ofNat 1))).1 (0 : Int)) (.ask (((1 : Nat) + (1 : Nat)) * nat_lit 24 ≤ nat_lit 140737488351232)
      (.br (U.lt (2 : Int) (Int.ofNat n)) (.ask ((0 : Int) ≤ (2 : Int) ∧ (2 : Int) < ↑n) (.ask ((0 : Int) ≤ (2 : Int) ∧ (2 : Int) < ↑m) (.br (U.eq (e (U.toNat (Int.ofNat 2))).1 (0 : Int))
      (.ask (((1 : Nat) + (1 : Nat) + (1 : Nat)) * nat_lit 24 ≤ nat_lit 140737488351232) (.stuck (nat_lit 105))) (.ask (I64 (f (U.toNat (Int.ofNat 2))).1 ∧ I64 (f (U.toNat (Int.ofNat
      2))).2.1 ∧ I64 (f (U.toNat (Int.ofNat 2))).2.2.1 ∧ I64 (e (U.toNat (Int.ofNat 2))).1) (.br (U.ne (lk inE (f (U.toNat (Int.ofNat 2))).1 (f (U.toNat (Int.ofNat 2))).2.1 (f (U.toNat
      (Int.ofNat 2))).2.2.1 (e (U.toNat (Int.ofNat 2))).1) (0 : Int)) (.br (U.ne (lk inE (f (U.toNat (Int.ofNat 2))).1 (f (U.toNat (Int.ofNat 2))).2.1 (f (U.toNat (Int.ofNat 2))).2.2.1 (e
      (U.toNat (Int.ofNat 2))).1) (0 : Int)) (.ret (.tup [.agg [.lit (.slice none (nat_lit 0) (nat_lit 0)), .lit (.int .i64 0), .lit (.int .i64 0), .lit (.int .i64 0)], .lit (.int .i64
      (lk inE (f (U.toNat (Int.ofNat 2))).1 (f (U.toNat (Int.ofNat 2))).2.1 (f (U.toNat (Int.ofNat 2))).2.2.1 (e (U.toNat (Int.ofNat 2))).1))])) (.ret (.tup [.agg [.row [.int .i64, .int
      .i64, .int .i64] (nat_lit 2) (U.cat (nat_lit 1) (fun x => ((f (U.toNat (Int.ofNat 0))).1, (f (U.toNat (Int.ofNat 0))).2.1, (f (U.toNat (Int.ofNat 0))).2.2.1, PUnit.unit)) fun x =>
      ((f (U.toNat (Int.ofNat 1))).1, (f (U.toNat (Int.ofNat 1))).2.1, (f (U.toNat (Int.ofNat 1))).2.2.1, PUnit.unit)), .lit (.int .i64 k), .lit (.int .i64 s), .lit (.int .i64 h)], .lit
      (.int .i64 0)]))) (.ask (((1 : Nat) + (1 : Nat) + (1 : Nat)) * nat_lit 24 ≤ nat_lit 140737488351232) (.stuck (nat_lit 105)))))))) (.ret (.tup [.agg [.row [.int .i64, .int .i64, .int
      .i64] (nat_lit 2) (U.cat (nat_lit 1) (fun x => ((f (U.toNat (Int.ofNat 0))).1, (f (U.toNat (Int.ofNat 0))).2.1, (f (U.toNat (Int.ofNat 0))).2.2.1, PUnit.unit)) fun x => ((f (U.toNat
      (Int.ofNat 1))).1, (f (U.toNat (Int.ofNat 1))).2.1, (f (U.toNat (Int.ofNat 1))).2.2.1, PUnit.unit)), .lit (.int .i64 k), .lit (.int .i64 s), .lit (.int .i64 h)], .lit (.int .i64
      0)])))) (.ask (I64 (f (U.toNat (Int.ofNat 1))).1 ∧ I64 (f (U.toNat (Int.ofNat 1))).2.1 ∧ I64 (f (U.toNat (Int.ofNat 1))).2.2.1 ∧ I64 (e (U.toNat (Int.ofNat 1))).1) (.br (U.ne (lk
      inE (f (U.toNat (Int.ofNat 1))).1 (f (U.toNat (Int.ofNat 1))).2.1 (f (U.toNat (Int.ofNat 1))).2.2.1 (e (U.toNat (Int.ofNat 1))).1) (0 : Int)) (.br (U.ne (lk inE (f (U.toNat
      (Int.ofNat 1))).1 (f (U.toNat (Int.ofNat 1))).2.1 (f (U.toNat (Int.ofNat 1))).2.2.1 (e (U.toNat (Int.ofNat 1))).1) (0 : Int)) (.ret (.tup [.agg [.lit (.slice none (nat_lit 0)
      (nat_lit 0)), .lit (.int .i64 0), .lit (.int .i64 0), .lit (.int .i64 0)], .lit (.int .i64 (lk inE (f (U.toNat (Int.ofNat 1))).1 (f (U.toNat (Int.ofNat 1))).2.1 (f (U.toNat
      (Int.ofNat 1))).2.2.1 (e (U.toNat (Int.ofNat 1))).1))])) (.ret (.tup [.agg [.row [.int .i64, .int .i64, .int .i64] (nat_lit 1) fun x => ((f (U.toNat (Int.ofNat 0))).1, (f (U.toNat
      (Int.ofNat 0))).2.1, (f (U.toNat (Int.ofNat 0))).2.2.1, PUnit.unit), .lit (.int .i64 k), .lit (.int .i64 s), .lit (.int .i64 h)], .lit (.int .i64 0)]))) (.ask (((1 : Nat) + (1 :
      Nat)) * nat_lit 24 ≤ nat_lit 140737488351232) (.br (U.lt (2 : Int) (Int.ofNat n)) (.ask ((0 : Int) ≤ (2 : Int) ∧ (2 : Int) < ↑n) (.ask ((0 : Int) ≤ (2 : Int) ∧ (2 : Int) < ↑m) (.br
      (U.eq (e (U.toNat (Int.ofNat 2))).1 (0 : Int)) (.ask (((1 : Nat) + (1 : Nat) + (1 : Nat)) * nat_lit 24 ≤ nat_lit 140737488351232) (.stuck (nat_lit 105))) (.ask (I64 (f (U.toNat
      (Int.ofNat 2))).1 ∧ I64 (f (U.toNat (Int.ofNat 2))).2.1 ∧ I64 (f (U.toNat (Int.ofNat 2))).2.2.1 ∧ I64 (e (U.toNat (Int.ofNat 2))).1) (.br (U.ne (lk inE (f (U.toNat (Int.ofNat 2))).1
      (f (U.toNat (Int.ofNat 2))).2.1 (f (U.toNat (Int.ofNat 2))).2.2.1 (e (U.toNat (Int.ofNat 2))).1) (0 : Int)) (.br (U.ne (lk inE (f (U.toNat (Int.ofNat 2))).1 (f (U.toNat (Int.ofNat
      2))).2.1 (f (U.toNat (Int.ofNat 2))).2.2.1 (e (U.toNat (Int.ofNat 2))).1) (0 : Int)) (.ret (.tup [.agg [.lit (.slice none (nat_lit 0) (nat_lit 0)), .lit (.int .i64 0), .lit (.int
      .i64 0), .lit (.int .i64 0)], .lit (.int .i64 (lk inE (f (U.toNat (Int.ofNat 2))).1 (f (U.toNat (Int.ofNat 2))).2.1 (f (U.toNat (Int.ofNat 2))).2.2.1 (e (U.toNat (Int.ofNat
      2))).1))])) (.ret (.tup [.agg [.row [.int .i64, .int .i64, .int .i64] (nat_lit 2) (U.cat (nat_lit 1) (fun x => ((f (U.toNat (Int.ofNat 0))).1, (f (U.toNat (Int.ofNat 0))).2.1, (f
      (U.toNat (Int.ofNat 0))).2.2.1, PUnit.unit)) fun x => (lk inLow (f (U.toNat (Int.ofNat 1))).1 (f (U.toNat (Int.ofNat 1))).2.1 (f (U.toNat (Int.ofNat 1))).2.2.1 (e (U.toNat
      (Int.ofNat 1))).1, lk inHigh (f (U.toNat (Int.ofNat 1))).1 (f (U.toNat (Int.ofNat 1))).2.1 (f (U.toNat (Int.ofNat 1))).2.2.1 (e (U.toNat (Int.ofNat 1))).1, lk inStr (f (U.toNat
      (Int.ofNat 1))).1 (f (U.toNat (Int.ofNat 1))).2.1 (f (U.toNat (Int.ofNat 1))).2.2.1 (e (U.toNat (Int.ofNat 1))).1, PUnit.unit)), .lit (.int .i64 k), .lit (.int .i64 s), .lit (.int
      .i64 h)], .lit (.int .i64 0)]))) (.ask (((1 : Nat) + (1 : Nat) + (1 : Nat)) * nat_lit 24 ≤ nat_lit 140737488351232) (.stuck (nat_lit 105)))))))) (.br (U.ne (lk inE (f (U.toNat
      (Int.ofNat 1))).1 (f (U.toNat (Int.ofNat 1))).2.1 (f (U.toNat (Int.ofNat 1))).2.2.1 (e (U.toNat (Int.ofNat 1))).1) (0 : Int)) (.ret (.tup [.agg [.lit (.slice none (nat_lit 0)
      (nat_lit 0)), .lit (.int .i64 0), .lit (.int .i64 0), .lit (.int .i64 0)], .lit (.int .i64 (lk inE (f (U.toNat (Int.ofNat 1))).1 (f (U.toNat (Int.ofNat 1))).2.1 (f (U.toNat
      (Int.ofNat 1))).2.2.1 (e (U.toNat (Int.ofNat 1))).1))])) (.ret (.tup [.agg [.row [.int .i64, .int .i64, .int .i64] (nat_lit 2) (U.cat (nat_lit 1) (fun x => ((f (U.toNat (Int.ofNat
      0))).1, (f (U.toNat (Int.ofNat 0))).2.1, (f (U.toNat (Int.ofNat 0))).2.2.1, PUnit.unit)) fun x => (lk inLow (f (U.toNat (Int.ofNat 1))).1 (f (U.toNat (Int.ofNat 1))).2.1 (f (U.toNat
      (Int.ofNat 1))).2.2.1 (e (U.toNat (Int.ofNat 1))).1, lk inHigh (f (U.toNat (Int.ofNat 1))).1 (f (U.toNat (Int.ofNat 1))).2.1 (f (U.toNat (Int.ofNat 1))).2.2.1 (e (U.toNat (Int.ofNat
      1))).1, lk inStr (f (U.toNat (Int.ofNat 1))).1 (f (U.toNat (Int.ofNat 1))).2.1 (f (U.toNat (Int.ofNat 1))).2.2.1 (e (U.toNat (Int.ofNat 1))).1, PUnit.unit)), .lit (.int .i64 k),
      .lit (.int .i64 s), .lit (.int .i64 h)], .lit (.int .i64 0)])))))))))) (.ret (.tup [.agg [.row [.int .i64, .int .i64, .int .i64] (nat_lit 1) fun x => ((f (U.toNat (Int.ofNat 0))).1,
      (f (U.toNat (Int.ofNat 0))).2.1, (f (U.toNat (Int.ofNat 0))).2.2.1, PUnit.unit), .lit (.int .i64 k), .lit (.int .i64 s), .lit (.int .i64 h)], .lit (.int .i64 0)])))) (.ask (I64 (f
      (U.toNat (Int.ofNat 0))).1 ∧ I64 (f (U.toNat (Int.ofNat 0))).2.1 ∧ I64 (f (U.toNat (Int.ofNat 0))).2.2.1 ∧ I64 (e (U.toNat (Int.ofNat 0))).1) (.br (U.ne (lk inE (f (U.toNat
      (Int.ofNat 0))).1 (f (U.toNat (Int.ofNat 0))).2.1 (f (U.toNat (Int.ofNat 0))).2.2.1 (e (U.toNat (Int.ofNat 0))).1) (0 : Int)) (.br (U.ne (lk inE (f (U.toNat (Int.ofNat 0))).1 (f
      (U.toNat (Int.ofNat 0))).2.1 (f (U.toNat (Int.ofNat 0))).2.2.1 (e (U.toNat (Int.ofNat 0))).1) (0 : Int)) (.ret (.tup [.agg [.lit (.slice none (nat_lit 0) (nat_lit 0)), .lit (.int
      .i64 0), .lit (.int .i64 0), .lit (.int .i64 0)], .lit (.int .i64 (lk inE (f (U.toNat (Int.ofNat 0))).1 (f (U.toNat (Int.ofNat 0))).2.1 (f (U.toNat (Int.ofNat 0))).2.2.1 (e (U.toNat
      (Int.ofNat 0))).1))])) (.ret (.tup [.agg [.lit (.slice none (nat_lit 0) (nat_lit 0)), .lit (.int .i64 k), .lit (.int .i64 s), .lit (.int .i64 h)], .lit (.int .i64 0)]))) (.ask ((1 :
      Nat) * nat_lit 24 ≤ nat_lit 140737488351232) (.br (U.lt (1 : Int) (Int.ofNat n)) (.ask ((0 : Int) ≤ (1 : Int) ∧ (1 : Int) < ↑n) (.ask ((0 : Int) ≤ (1 : Int) ∧ (1 : Int) < ↑m) (.br
      (U.eq (e (U.toNat (Int.ofNat 1))).1 (0 : Int)) (.ask (((1 : Nat) + (1 : Nat)) * nat_lit 24 ≤ nat_lit 140737488351232) (.br (U.lt (2 : Int) (Int.ofNat n)) (.ask ((0 : Int) ≤ (2 :
      Int) ∧ (2 : Int) < ↑n) (.ask ((0 : Int) ≤ (2 : Int) ∧ (2 : Int) < ↑m) (.br (U.eq (e (U.toNat (Int.ofNat 2))).1 (0 : Int)) (.ask (((1 : Nat) + (1 : Nat) + (1 : Nat)) * nat_lit 24 ≤
      nat_lit 140737488351232) (.stuck (nat_lit 105))) (.ask (I64 (f (U.toNat (Int.ofNat 2))).1 ∧ I64 (f (U.toNat (Int.ofNat 2))).2.1 ∧ I64 (f (U.toNat (Int.ofNat 2))).2.2.1 ∧ I64 (e
      (U.toNat (Int.ofNat 2))).1) (.br (U.ne (lk inE (f (U.toNat (Int.ofNat 2))).1 (f (U.toNat (Int.ofNat 2))).2.1 (f (U.toNat (Int.ofNat 2))).2.2.1 (e (U.toNat (Int.ofNat 2))).1) (0 :
      Int)) (.br (U.ne (lk inE (f (U.toNat (Int.ofNat 2))).1 (f (U.toNat (Int.ofNat 2))).2.1 (f (U.toNat (Int.ofNat 2))).2.2.1 (e (U.toNat (Int.ofNat 2))).1) (0 : Int)) (.ret (.tup [.agg
      [.lit (.slice none (nat_lit 0) (nat_lit 0)), .lit (.int .i64 0), .lit (.int .i64 0), .lit (.int .i64 0)], .lit (.int .i64 (lk inE (f (U.toNat (Int.ofNat 2))).1 (f (U.toNat
      (Int.ofNat 2))).2.1 (f (U.toNat (Int.ofNat 2))).2.2.1 (e (U.toNat (Int.ofNat 2))).1))])) (.ret (.tup [.agg [.row [.int .i64, .int .i64, .int .i64] (nat_lit 2) (U.cat (nat_lit 1)
      (fun x => (lk inLow (f (U.toNat (Int.ofNat 0))).1 (f (U.toNat (Int.ofNat 0))).2.1 (f (U.toNat (Int.ofNat 0))).2.2.1 (e (U.toNat (Int.ofNat 0))).1, lk inHigh (f (U.toNat (Int.ofNat
      0))).1 (f (U.toNat (Int.ofNat 0))).2.1 (f (U.toNat (Int.ofNat 0))).2.2.1 (e (U.toNat (Int.ofNat 0))).1, lk inStr (f (U.toNat (Int.ofNat 0))).1 (f (U.toNat (Int.ofNat 0))).2.1 (f
      (U.toNat (Int.ofNat 0))).2.2.1 (e (U.toNat (Int.ofNat 0))).1, PUnit.unit)) fun x => ((f (U.toNat (Int.ofNat 1))).1, (f (U.toNat (Int.ofNat 1))).2.1, (f (U.toNat (Int.ofNat
      1))).2.2.1, PUnit.unit)), .lit (.int .i64 k), .lit (.int .i64 s), .lit (.int .i64 h)], .lit (.int .i64 0)]))) (.ask (((1 : Nat) + (1 : Nat) + (1 : Nat)) * nat_lit 24 ≤ nat_lit
      140737488351232) (.stuck (nat_lit 105)))))))) (.ret (.tup [.agg [.row [.int .i64, .int .i64, .int .i64] (nat_lit 2) (U.cat (nat_lit 1) (fun x => (lk inLow (f (U.toNat (Int.ofNat
      0))).1 (f (U.toNat (Int.ofNat 0))).2.1 (f (U.toNat (Int.ofNat 0))).2.2.1 (e (U.toNat (Int.ofNat 0))).1, lk inHigh (f (U.toNat (Int.ofNat 0))).1 (f (U.toNat (Int.ofNat 0))).2.1 (f
      (U.toNat (Int.ofNat 0))).2.2.1 (e (U.toNat (Int.ofNat 0))).1, lk inStr (f (U.toNat (Int.ofNat 0))).1 (f (U.toNat (Int.ofNat 0))).2.1 (f (U.toNat (Int.ofNat 0))).2.2.1 (e (U.toNat
      (Int.ofNat 0))).1, PUnit.unit)) fun x => ((f (U.toNat (Int.ofNat 1))).1, (f (U.toNat (Int.ofNat 1))).2.1, (f (U.toNat (Int.ofNat 1))).2.2.1, PUnit.unit)), .lit (.int .i64 k), .lit
      (.int .i64 s), .lit (.int .i64 h)], .lit (.int .i64 0)])))) (.ask (I64 (f (U.toNat (Int.ofNat 1))).1 ∧ I64 (f (U.toNat (Int.ofNat 1))).2.1 ∧ I64 (f (U.toNat (Int.ofNat 1))).2.2.1 ∧
      I64 (e (U.toNat (Int.ofNat 1))).1) (.br (U.ne (lk inE (f (U.toNat (Int.ofNat 1))).1 (f (U.toNat (Int.ofNat 1))).2.1 (f (U.toNat (Int.ofNat 1))).2.2.1 (e (U.toNat (Int.ofNat 1))).1)
      (0 : Int)) (.br (U.ne (lk inE (f (U.toNat (Int.ofNat 1))).1 (f (U.toNat (Int.ofNat 1))).2.1 (f (U.toNat (Int.ofNat 1))).2.2.1 (e (U.toNat (Int.ofNat 1))).1) (0 : Int)) (.ret (.tup
      [.agg [.lit (.slice none (nat_lit 0) (nat_lit 0)), .lit (.int .i64 0), .lit (.int .i64 0), .lit (.int .i64 0)], .lit (.int .i64 (lk inE (f (U.toNat (Int.ofNat 1))).1 (f (U.toNat
      (Int.ofNat 1))).2.1 (f (U.toNat (Int.ofNat 1))).2.2.1 (e (U.toNat (Int.ofNat 1))).1))])) (.ret (.tup [.agg [.row [.int .i64, .int .i64, .int .i64] (nat_lit 1) fun x => (lk inLow (f
      (U.toNat (Int.ofNat 0))).1 (f (U.toNat (Int.ofNat 0))).2.1 (f (U.toNat (Int.ofNat 0))).2.2.1 (e (U.toNat (Int.ofNat 0))).1, lk inHigh (f (U.toNat (Int.ofNat 0))).1 (f (U.toNat
      (Int.ofNat 0))).2.1 (f (U.toNat (Int.ofNat 0))).2.2.1 (e (U.toNat (Int.ofNat 0))).1, lk inStr (f (U.toNat (Int.ofNat 0))).1 (f (U.toNat (Int.ofNat 0))).2.1 (f (U.toNat (Int.ofNat
      0))).2.2.1 (e (U.toNat (Int.ofNat 0))).1, PUnit.unit), .lit (.int .i64 k), .lit (.int .i64 s), .lit (.int .i64 h)], .lit (.int .i64 0)]))) (.ask (((1 : Nat) + (1 : Nat)) * nat_lit
      24 ≤ nat_lit 140737488351232) (.br (U.lt (2 : Int) (Int.ofNat n)) (.ask ((0 : Int) ≤ (2 : Int) ∧ (2 : Int) < ↑n) (.ask ((0 : Int) ≤ (2 : Int) ∧ (2 : Int) < ↑m) (.br (U.eq (e
      (U.toNat (Int.ofNat 2))).1 (0 : Int)) (.ask (((1 : Nat) + (1 : Nat) + (1 : Nat)) * nat_lit 24 ≤ nat_lit 140737488351232) (.stuck (nat_lit 105))) (.ask (I64 (f (U.toNat (Int.ofNat
      2))).1 ∧ I64 (f (U.toNat (Int.ofNat 2))).2.1 ∧ I64 (f (U.toNat (Int.ofNat 2))).2.2.1 ∧ I64 (e (U.toNat (Int.ofNat 2))).1) (.br (U.ne (lk inE (f (U.toNat (Int.ofNat 2))).1 (f
      (U.toNat (Int.ofNat 2))).2.1 (f (U.toNat (Int.ofNat 2))).2.2.1 (e (U.toNat (Int.ofNat 2))).1) (0 : Int)) (.br (U.ne (lk inE (f (U.toNat (Int.ofNat 2))).1 (f (U.toNat (Int.ofNat
      2))).2.1 (f (U.toNat (Int.ofNat 2))).2.2.1 (e (U.toNat (Int.ofNat 2))).1) (0 : Int)) (.ret (.tup [.agg [.lit (.slice none (nat_lit 0) (nat_lit 0)), .lit (.int .i64 0), .lit (.int
      .i64 0), .lit (.int .i64 0)], .lit (.int .i64 (lk inE (f (U.toNat (Int.ofNat 2))).1 (f (U.toNat (Int.ofNat 2))).2.1 (f (U.toNat (Int.ofNat 2))).2.2.1 (e (U.toNat (Int.ofNat
      2))).1))])) (.ret (.tup [.agg [.row [.int .i64, .int .i64, .int .i64] (nat_lit 2) (U.cat (nat_lit 1) (fun x => (lk inLow (f (U.toNat (Int.ofNat 0))).1 (f (U.toNat (Int.ofNat
      0))).2.1 (f (U.toNat (Int.ofNat 0))).2.2.1 (e (U.toNat (Int.ofNat 0))).1, lk inHigh (f (U.toNat (Int.ofNat 0))).1 (f (U.toNat (Int.ofNat 0))).2.1 (f (U.toNat (Int.ofNat 0))).2.2.1
      (e (U.toNat (Int.ofNat 0))).1, lk inStr (f (U.toNat (Int.ofNat 0))).1 (f (U.toNat (Int.ofNat 0))).2.1 (f (U.toNat (Int.ofNat 0))).2.2.1 (e (U.toNat (Int.ofNat 0))).1, PUnit.unit))
      fun x => (lk inLow (f (U.toNat (Int.ofNat 1))).1 (f (U.toNat (Int.ofNat 1))).2.1 (f (U.toNat (Int.ofNat 1))).2.2.1 (e (U.toNat (Int.ofNat 1))).1, lk inHigh (f (U.toNat (Int.ofNat
      1))).1 (f (U.toNat (Int.ofNat 1))).2.1 (f (U.toNat (Int.ofNat 1))).2.2.1 (e (U.toNat (Int.ofNat 1))).1, lk inStr (f (U.toNat (Int.ofNat 1))).1 (f (U.toNat (Int.ofNat 1))).2.1 (f
      (U.toNat (Int.ofNat 1))).2.2.1 (e (U.toNat (Int.ofNat 1))).1, PUnit.unit)), .lit (.int .i64 k), .lit (.int .i64 s), .lit (.int .i64 h)], .lit (.int .i64 0)]))) (.ask (((1 : Nat) +
      (1 : Nat) + (1 : Nat)) * nat_lit 24 ≤ nat_lit 140737488351232) (.stuck (nat_lit 105)))))))) (.br (U.ne (lk inE (f (U.toNat (Int.ofNat 1))).1 (f (U.toNat (Int.ofNat 1))).2.1 (f
      (U.toNat (Int.ofNat 1))).2.2.1 (e (U.toNat (Int.ofNat 1))).1) (0 : Int)) (.ret (.tup [.agg [.lit (.slice none (nat_lit 0) (nat_lit 0)), .lit (.int .i64 0), .lit (.int .i64 0), .lit
      (.int .i64 0)], .lit (.int .i64 (lk inE (f (U.toNat (Int.ofNat 1))).1 (f (U.toNat (Int.ofNat 1))).2.1 (f (U.toNat (Int.ofNat 1))).2.2.1 (e (U.toNat (Int.ofNat 1))).1))])) (.ret
      (.tup [.agg [.row [.int .i64, .int .i64, .int .i64] (nat_lit 2) (U.cat (nat_lit 1) (fun x => (lk inLow (f (U.toNat (Int.ofNat 0))).1 (f (U.toNat (Int.ofNat 0))).2.1 (f (U.toNat
      (Int.ofNat 0))).2.2.1 (e (U.toNat (Int.ofNat 0))).1, lk inHigh (f (U.toNat (Int.ofNat 0))).1 (f (U.toNat (Int.ofNat 0))).2.1 (f (U.toNat (Int.ofNat 0))).2.2.1 (e (U.toNat (Int.ofNat
      0))).1, lk inStr (f (U.toNat (Int.ofNat 0))).1 (f (U.toNat (Int.ofNat 0))).2.1 (f (U.toNat (Int.ofNat 0))).2.2.1 (e (U.toNat (Int.ofNat 0))).1, PUnit.unit)) fun x => (lk inLow (f
      (U.toNat (Int.ofNat 1))).1 (f (U.toNat (Int.ofNat 1))).2.1 (f (U.toNat (Int.ofNat 1))).2.2.1 (e (U.toNat (Int.ofNat 1))).1, lk inHigh (f (U.toNat (Int.ofNat 1))).1 (f (U.toNat
      (Int.ofNat 1))).2.1 (f (U.toNat (Int.ofNat 1))).2.2.1 (e (U.toNat (Int.ofNat 1))).1, lk inStr (f (U.toNat (Int.ofNat 1))).1 (f (U.toNat (Int.ofNat 1))).2.1 (f (U.toNat (Int.ofNat
      1))).2.2.1 (e (U.toNat (Int.ofNat 1))).1, PUnit.unit)), .lit (.int .i64 k), .lit (.int .i64 s), .lit (.int .i64 h)], .lit (.int .i64 0)])))))))))) (.br (U.ne (lk inE (f (U.toNat
      (Int.ofNat 0))).1 (f (U.toNat (Int.ofNat 0))).2.1 (f (U.toNat (Int.ofNat 0))).2.2.1 (e (U.toNat (Int.ofNat 0))).1) (0 : Int)) (.ret (.tup [.agg [.lit (.slice none (nat_lit 0)
      (nat_lit 0)), .lit (.int .i64 0), .lit (.int .i64 0), .lit (.int .i64 0)], .lit (.int .i64 (lk inE (f (U.toNat (Int.ofNat 0))).1 (f (U.toNat (Int.ofNat 0))).2.1 (f (U.toNat
      (Int.ofNat 0))).2.2.1 (e (U.toNat (Int.ofNat 0))).1))])) (.ret (.tup [.agg [.row [.int .i64, .int .i64, .int .i64] (nat_lit 1) fun x => (lk inLow (f (U.toNat (Int.ofNat 0))).1 (f
      (U.toNat (Int.ofNat 0))).2.1 (f (U.toNat (Int.ofNat 0))).2.2.1 (e (U.toNat (Int.ofNat 0))).1, lk inHigh (f (U.toNat (Int.ofNat 0))).1 (f (U.toNat (Int.ofNat 0))).2.1 (f (U.toNat
      (Int.ofNat 0))).2.2.1 (e (U.toNat (Int.ofNat 0))).1, lk inStr (f (U.toNat (Int.ofNat 0))).1 (f (U.toNat (Int.ofNat 0))).2.1 (f (U.toNat (Int.ofNat 0))).2.2.1 (e (U.toNat (Int.ofNat
      0))).1, PUnit.unit), .lit (.int .i64 k), .lit (.int .i64 s), .lit (.int .i64 h)], .lit (.int .i64 0)])))))))))) (.ret (.tup [.agg [.lit (.slice none (nat_lit 0) (nat_lit 0)), .lit
      (.int .i64 k), .lit (.int .i64 s), .lit (.int .i64 h)], .lit (.int .i64 0)]))))) := by kernel_rfl
theorem DInterior_ok (h12 : ∀ p ∈ d12, ConOK P p.1 p.2) (hl : ∀ p ∈ lCh, LoopsOK P p.2 (bodyOf P p.1)) : ConOK P 94 (c_chg 2) := con_cl (allOKL mixed h12 hl) 10 94 fun args r h => by
  unfold c_chg at h
  split at h
  · rename_i n f k s h' m e
    obtain ⟨hp, hq⟩ := (T.is_ask h).1
    have h := (T.is_ask h).2
    obtain rfl := T.is_ret h
    rw [t_DInterior]
    simp only [tn, lk_eq]
    simp only [Int.ofNat_eq_natCast]
    by_cases c : chD n f k s h' = 0
    · by_cases q : m = n
      · subst q
        have hn := (chD_zero.1 c).1.1
        have hI : ∀ i, i < m → I64 (f i).1 ∧ I64 (f i).2.1 ∧ I64 (f i).2.2.1 ∧ I64 (e i).1 := fun i hi => ⟨(hp i hi).1, (hp i hi).2.1, (hp i hi).2.2, hq i hi⟩
        have hI0 := hI 0 (by omega)
        rcases hn with rfl | rfl
        · by_cases Z0 : @Eq Int (e 0).1 0
          · simp [T.All, U.ne_eq, U.eq_eq, U.lt_eq, hp, hI0, hI0, c, Z0, eqT Z0, neF Z0]
            refine chg_ok (chgE_4 (w := 2) c (opEz2 (f 0) Z0)) rfl fun i hi => ?_
            obtain rfl := one_of hi
            exact (opFz2 (f 0) Z0).symm
          · by_cases E0 : inE (f 0).1 (f 0).2.1 (f 0).2.2.1 (e 0).1 = 0
            · simp [T.All, U.ne_eq, U.eq_eq, U.lt_eq, hp, hI0, hI0, c, Z0, E0, eqF Z0, neT Z0]
              refine chg_ok (chgE_4 (w := 2) c ((opEn2 (f 0) Z0).trans E0)) rfl fun i hi => ?_
              obtain rfl := one_of hi
              exact (opFn2 (f 0) Z0).symm
            · simp [T.All, U.ne_eq, U.eq_eq, U.lt_eq, hp, hI0, hI0, c, Z0, E0, eqF Z0, neT Z0]
              exact chg_err (chgE_3 (w := 2) c (opEn2 (f 0) Z0) E0) E0
        · have hI1 := hI 1 (by omega)
          by_cases Z0 : @Eq Int (e 0).1 0
          · by_cases Z1 : @Eq Int (e 1).1 0
            · simp [T.All, U.ne_eq, U.eq_eq, U.lt_eq, hp, hI0, hI1, c, Z0, eqT Z0, neF Z0, Z1, eqT Z1, neF Z1]
              refine chg_ok (chgE_5 (w := 2) c (opEz2 (f 0) Z0) (opEz2 (f 1) Z1)) rfl fun i hi => ?_
              rcases two_of hi with rfl | rfl
              · exact (cat_l (by omega)).trans (opFz2 (f 0) Z0).symm
              · exact (cat_r (by omega)).trans (opFz2 (f 1) Z1).symm
            · by_cases E1 : inE (f 1).1 (f 1).2.1 (f 1).2.2.1 (e 1).1 = 0
              · simp [T.All, U.ne_eq, U.eq_eq, U.lt_eq, hp, hI0, hI1, c, Z0, eqT Z0, neF Z0, Z1, E1, eqF Z1, neT Z1]
                refine chg_ok (chgE_5 (w := 2) c (opEz2 (f 0) Z0) ((opEn2 (f 1) Z1).trans E1)) rfl fun i hi => ?_
                rcases two_of hi with rfl | rfl
                · exact (cat_l (by omega)).trans (opFz2 (f 0) Z0).symm
                · exact (cat_r (by omega)).trans (opFn2 (f 1) Z1).symm
              · simp [T.All, U.ne_eq, U.eq_eq, U.lt_eq, hp, hI0, hI1, c, Z0, eqT Z0, neF Z0, Z1, E1, eqF Z1, neT Z1]
                exact chg_err (chgE_5 (w := 2) c (opEz2 (f 0) Z0) (opEn2 (f 1) Z1)) E1
          · by_cases E0 : inE (f 0).1 (f 0).2.1 (f 0).2.2.1 (e 0).1 = 0
            · by_cases Z1 : @Eq Int (e 1).1 0
              · simp [T.All, U.ne_eq, U.eq_eq, U.lt_eq, hp, hI0, hI1, c, Z0, E0, eqF Z0, neT Z0, Z1, eqT Z1, neF Z1]
                refine chg_ok (chgE_5 (w := 2) c ((opEn2 (f 0) Z0).trans E0) (opEz2 (f 1) Z1)) rfl fun i hi => ?_
                rcases two_of hi with rfl | rfl
                · exact (cat_l (by omega)).trans (opFn2 (f 0) Z0).symm
                · exact (cat_r (by omega)).trans (opFz2 (f 1) Z1).symm
              · by_cases E1 : inE (f 1).1 (f 1).2.1 (f 1).2.2.1 (e 1).1 = 0
                · simp [T.All, U.ne_eq, U.eq_eq, U.lt_eq, hp, hI0, hI1, c, Z0, E0, eqF Z0, neT Z0, Z1, E1, eqF Z1, neT Z1]
                  refine chg_ok (chgE_5 (w := 2) c ((opEn2 (f 0) Z0).trans E0) ((opEn2 (f 1) Z1).trans E1)) rfl fun i hi => ?_
                  rcases two_of hi with rfl | rfl
                  · exact (cat_l (by omega)).trans (opFn2 (f 0) Z0).symm
                  · exact (cat_r (by omega)).trans (opFn2 (f 1) Z1).symm
                · simp [T.All, U.ne_eq, U.eq_eq, U.lt_eq, hp, hI0, hI1, c, Z0, E0, eqF Z0, neT Z0, Z1, E1, eqF Z1, neT Z1]
                  exact chg_err (chgE_5 (w := 2) c ((opEn2 (f 0) Z0).trans E0) (opEn2 (f 1) Z1)) E1
            · simp [T.All, U.ne_eq, U.eq_eq, U.lt_eq, hp, hI0, hI1, c, Z0, E0, eqF Z0, neT Z0]
              exact chg_err (chgE_3 (w := 2) c (opEn2 (f 0) Z0) E0) E0
      · have q' : ¬ ((m : Int) = (n : Int)) := by omega
        simp [T.All, U.ne_eq, hp, c, q']
        exact chg_err (chgE_2 (w := 2) c q) (by omega)
    · simp [T.All, U.ne_eq, hp, c]
      exact chg_err (chgE_1 (w := 2) c) c
  · exact h.elim
set_option maxRecDepth 100000 in
theorem t_qDInterior (n : Nat) (f : Nat → R3) (k s h : Int) (m : Nat) (e : Nat → R1) : conB Go.Proofs.Try.prog (conOf d12) (loopsOf lqCh) 10 95 [.agg [.row [.int .i64, .int .i64, .int .i64] n f, .lit (.int .i64 k), .lit (.int .i64 s), .lit (.int .i64 h)], .row [.int .i64] m e] =
    T.ask (Row64 n f) (.br (U.ne (lk chD n f k s h) (0 : Int)) (.ret (.tup [.agg [.lit (.slice none (nat_lit 0) (nat_lit 0)), .lit (.int .i64 0), .lit (.int .i64 0), .lit (.int .i64
      0)], .lit (.int .i64 (lk chD n f k s h))])) (.br (U.ne (Int.ofNat m) (Int.ofNat n)) (.ret (.tup [.agg [.lit (.slice none (nat_lit 0) (nat_lit 0)), .lit (.int .i64 0), .lit (.int
      .i64 0), .lit (.int .i64 0)], .lit (.int .i64 5)])) (.br (U.lt (0 : Int) (Int.ofNat m)) (.ask ((0 : Int) ≤ (0 : Int) ∧ (0 : Int) < ↑n) (.ask ((0 : Int) ≤ (0 : Int) ∧ (0 : Int) < ↑m)
      (.br (U.ne (e (U.toNat (Int.ofNat 0))).1 (0 : Int)) (.ask ((0 : Int) ≤ (0 : Int) ∧ (0 : Int) < ↑m) (.ask (I64 (f (U.toNat (Int.ofNat 0))).1 ∧ I64 (f (U.toNat (Int.ofNat 0))).2.1 ∧
      I64 (f (U.toNat (Int.ofNat 0))).2.2.1 ∧ I64 (e (U.toNat (Int.ofNat 0))).1) (.br (U.ne (lk inE (f (U.toNat (Int.ofNat 0))).1 (f (U.toNat (Int.ofNat 0))).2.1 (f (U.toNat (Int.ofNat
      0))).2.2.1 (e (U.toNat (Int.ofNat 0))).1) (0 : Int)) (.ret (.tup [.agg [.lit (.slice none (nat_lit 0) (nat_lit 0)), .lit (.int .i64 0), .lit (.int .i64 0), .lit (.int .i64 0)], .lit
      (.int .i64 (lk inE (f (U.toNat (Int.ofNat 0))).1 (f (U.toNat (Int.ofNat 0))).2.1 (f (U.toNat (Int.ofNat 0))).2.2.1 (e (U.toNat (Int.ofNat 0))).1))])) (.ask ((1 : Nat) * nat_lit 24 ≤
      nat_lit 140737488351232) (.br (U.lt (1 : Int) (Int.ofNat m)) (.ask ((0 : Int) ≤ (1 : Int) ∧ (1 : Int) < ↑n) (.ask ((0 : Int) ≤ (1 : Int) ∧ (1 : Int) < ↑m) (.br (U.ne (e (U.toNat
      (Int.ofNat 1))).1 (0 : Int)) (.ask ((0 : Int) ≤ (1 : Int) ∧ (1 : Int) < ↑m) (.ask (I64 (f (U.toNat (Int.ofNat 1))).1 ∧ I64 (f (U.toNat (Int.ofNat 1))).2.1 ∧ I64 (f (U.toNat
      (Int.ofNat 1))).2.2.1 ∧ I64 (e (U.toNat (Int.ofNat 1))).1) (.br (U.ne (lk inE (f (U.toNat (Int.ofNat 1))).1 (f (U.toNat (Int.ofNat 1))).2.1 (f (U.toNat (Int.ofNat 1))).2.2.1 (e
      (U.toNat (Int.ofNat 1))).1) (0 : Int)) (.ret (.tup [.agg [.lit (.slice none (nat_lit 0) (nat_lit 0)), .lit (.int .i64 0), .lit (.int .i64 0), .lit (.int .i64 0)], .lit (.int .i64
      (lk inE (f (U.toNat (Int.ofNat 1))).1 (f (U.toNat (Int.ofNat 1))).2.1 (f (U.toNat (Int.ofNat 1))).2.2.1 (e (U.toNat (Int.ofNat 1))).1))])) (.ask (((1 : Nat) + (1 : Nat)) * nat_lit
      24 ≤ nat_lit 140737488351232) (.br (U.lt (2 : Int) (Int.ofNat m)) (.ask ((0 : Int) ≤ (2 : Int) ∧ (2 : Int) < ↑n) (.ask ((0 : Int) ≤ (2 : Int) ∧ (2 : Int) < ↑m) (.br (U.ne (e
      (U.toNat (Int.ofNat 2))).1 (0 : Int)) (.ask ((0 : Int) ≤ (2 : Int) ∧ (2 : Int) < ↑m) (.ask (I64 (f (U.toNat (Int.ofNat 2))).1 ∧ I64 (f (U.toNat (Int.ofNat 2))).2.1 ∧ I64 (f (U.toNat
      (Int.ofNat 2))).2.2.1 ∧ I64 (e (U.toNat (Int.ofNat 2))).1) (.br (U.ne (lk inE (f (U.toNat (Int.ofNat 2))).1 (f (U.toNat (Int.ofNat 2))).2.1 (f (U.toNat (Int.ofNat 2))).2.2.1 (e
      (U.toNat (Int.ofNat 2))).1) (0 : Int)) (.ret (.tup [.agg [.lit (.slice none (nat_lit 0) (nat_lit 0)), .lit (.int .i64 0), .lit (.int .i64 0), .lit (.int .i64 0)], .lit (.int .i64
      (lk inE (f (U.toNat (Int.ofNat 2))).1 (f (U.toNat (Int.ofNat 2))).2.1 (f (U.toNat (Int.ofNat 2))).2.2.1 (e (U.toNat (Int.ofNat 2))).1))])) (.ask (((1 : Nat) + (1 : Nat) + (1 : Nat))
      * nat_lit 24 ≤ nat_lit 140737488351232) (.stuck (nat_lit 105)))))) (.ask (((1 : Nat) + (1 : Nat) + (1 : Nat)) * nat_lit 24 ≤ nat_lit 140737488351232) (.stuck (nat_lit 105))))))
      (.ret (.tup [.agg [.row [.int .i64, .int .i64, .int .i64] (nat_lit 2) (U.cat (nat_lit 1) (fun x => (lk inLow (f (U.toNat (Int.ofNat 0))).1 (f (U.toNat (Int.ofNat 0))).2.1 (f
      (U.toNat (Int.ofNat 0))).2.2.1 (e (U.toNat (Int.ofNat 0))).1, lk inHigh (f (U.toNat (Int.ofNat 0))).1 (f (U.toNat (Int.ofNat 0))).2.1 (f (U.toNat (Int.ofNat 0))).2.2.1 (e (U.toNat
      (Int.ofNat 0))).1, lk inStr (f (U.toNat (Int.ofNat 0))).1 (f (U.toNat (Int.ofNat 0))).2.1 (f (U.toNat (Int.ofNat 0))).2.2.1 (e (U.toNat (Int.ofNat 0))).1, PUnit.unit)) fun x => (lk
      inLow (f (U.toNat (Int.ofNat 1))).1 (f (U.toNat (Int.ofNat 1))).2.1 (f (U.toNat (Int.ofNat 1))).2.2.1 (e (U.toNat (Int.ofNat 1))).1, lk inHigh (f (U.toNat (Int.ofNat 1))).1 (f
      (U.toNat (Int.ofNat 1))).2.1 (f (U.toNat (Int.ofNat 1))).2.2.1 (e (U.toNat (Int.ofNat 1))).1, lk inStr (f (U.toNat (Int.ofNat 1))).1 (f (U.toNat (Int.ofNat 1))).2.1 (f (U.toNat
      (Int.ofNat 1))).2.2.1 (e (U.toNat (Int.ofNat 1))).1, PUnit.unit)), .lit (.int .i64 k), .lit (.int .i64 s), .lit (.int .i64 h)], .lit (.int .i64 0)]))))))) (.ask (((1 : Nat) + (1 :
      Nat)) * nat_lit 24 ≤ nat_lit 140737488351232) (.br (U.lt (2 : Int) (Int.ofNat m)) (.ask ((0 : Int) ≤ (2 : Int) ∧ (2 : Int) < ↑n) (.ask ((0 : Int) ≤ (2 : Int) ∧ (2 : Int) < ↑m) (.br
      (U.ne (e (U.toNat (Int.ofNat 2))).1 (0 : Int)) (.ask ((0 : Int) ≤ (2 : Int) ∧ (2 : Int) < ↑m) (.ask (I64 (f (U.toNat (Int.ofNat 2))).1 ∧ I64 (f (U.toNat (Int.ofNat 2))).2.1 ∧ I64 (f
      (U.toNat (Int.ofNat 2))).2.2.1 ∧ I64 (e (U.toNat (Int.ofNat 2))).1) (.br (U.ne (lk inE (f (U.toNat (Int.ofNat 2))).1 (f (U.toNat (Int.ofNat 2))).2.1 (f (U.toNat (Int.ofNat
      2))).2.2.1 (e (U.toNat (Int.ofNat 2))).1) (0 : Int)) (.ret (.tup [.agg [.lit (.slice none (nat_lit 0) (nat_lit 0)), .lit (.int .i64 0), .lit (.int .i64 0), .lit (.int .i64 0)], .lit
      (.int .i64 (lk inE (f (U.toNat (Int.ofNat 2))).1 (f (U.toNat (Int.ofNat 2))).2.1 (f (U.toNat (Int.ofNat 2))).2.2.1 (e (U.toNat (Int.ofNat 2))).1))])) (.ask (((1 : Nat) + (1 : Nat) +
      (1 : Nat)) * nat_lit 24 ≤ nat_lit 140737488351232) (.stuck (nat_lit 105)))))) (.ask (((1 : Nat) + (1 : Nat) + (1 : Nat)) * nat_lit 24 ≤ nat_lit 140737488351232) (.stuck (nat_lit
      105)))))) (.ret (.tup [.agg [.row [.int .i64, .int .i64, .int .i64] (nat_lit 2) (U.cat (nat_lit 1) (fun x => (lk inLow (f (U.toNat (Int.ofNat 0))).1 (f (U.toNat (Int.ofNat 0))).2.1
      (f (U.toNat (Int.ofNat 0))).2.2.1 (e (U.toNat (Int.ofNat 0))).1, lk inHigh (f (U.toNat (Int.ofNat 0))).1 (f (U.toNat (Int.ofNat 0))).2.1 (f (U.toNat (Int.ofNat 0))).2.2.1 (e
      (U.toNat (Int.ofNat 0))).1, lk inStr (f (U.toNat (Int.ofNat 0))).1 (f (U.toNat (Int.ofNat 0))).2.1 (f (U.toNat (Int.ofNat 0))).2.2.1 (e (U.toNat (Int.ofNat 0))).1, PUnit.unit)) fun
      x => ((f (U.toNat (Int.ofNat 1))).1, (f (U.toNat (Int.ofNat 1))).2.1, (f (U.toNat (Int.ofNat 1))).2.2.1, PUnit.unit)), .lit (.int .i64 k), .lit (.int .i64 s), .lit (.int .i64 h)],
      .lit (.int .i64 0)]))))))) (.ret (.tup [.agg [.row [.int .i64, .int .i64, .int .i64] (nat_lit 1) fun x => (lk inLow (f (U.toNat (Int.ofNat 0))).1 (f (U.toNat (Int.ofNat 0))).2.1 (f
      (U.toNat (Int.ofNat 0))).2.2.1 (e (U.toNat (Int.ofNat 0))).1, lk inHigh (f (U.toNat (Int.ofNat 0))).1 (f (U.toNat (Int.ofNat 0))).2.1 (f (U.toNat (Int.ofNat 0))).2.2.1 (e (U.toNat
      (Int.ofNat 0))).1, lk inStr (f (U.toNat (Int.ofNat 0))).1 (f (U.toNat (Int.ofNat 0))).2.1 (f (U.toNat (Int.ofNat 0))).2.2.1 (e (U.toNat (Int.ofNat 0))).1, PUnit.unit), .lit (.int
      .i64 k), .lit (.int .i64 s), .lit (.int .i64 h)], .lit (.int .i64 0)]))))))) (.ask ((1 : Nat) * nat_lit 24 ≤ nat_lit 140737488351232) (.br (U.lt (1 : Int) (Int.ofNat m)) (.ask ((0 :
      Int) ≤ (1 : Int) ∧ (1 : Int) < ↑n) (.ask ((0 : Int) ≤ (1 : Int) ∧ (1 : Int) < ↑m) (.br (U.ne (e (U.toNat (Int.ofNat 1))).1 (0 : Int)) (.ask ((0 : Int) ≤ (1 : Int) ∧ (1 : Int) < ↑m)
      (.ask (I64 (f (U.toNat (Int.ofNat 1))).1 ∧ I64 (f (U.toNat (Int.ofNat 1))).2.1 ∧ I64 (f (U.toNat (Int.ofNat 1))).2.2.1 ∧ I64 (e (U.toNat (Int.ofNat 1))).1) (.br (U.ne (lk inE (f
      (U.toNat (Int.ofNat 1))).1 (f (U.toNat (Int.ofNat 1))).2.1 (f (U.toNat (Int.ofNat 1))).2.2.1 (e (U.toNat (Int.ofNat 1))).1) (0 : Int)) (.ret (.tup [.agg [.lit (.slice none (nat_lit
      0) (nat_lit 0)), .lit (.int .i64 0), .lit (.int .i64 0), .lit (.int .i64 0)], .lit (.int .i64 (lk inE (f (U.toNat (Int.ofNat 1))).1 (f (U.toNat (Int.ofNat 1))).2.1 (f (U.toNat
      (Int.ofNat 1))).2.2.1 (e (U.toNat (Int.ofNat 1))).1))])) (.ask (((1 : Nat) + (1 : Nat)) * nat_lit 24 ≤ nat_lit 140737488351232) (.br (U.lt (2 : Int) (Int.ofNat m)) (.ask ((0 : Int)
      ≤ (2 : Int) ∧ (2 : Int) < ↑n) (.ask ((0 : Int) ≤ (2 : Int) ∧ (2 : Int) < ↑m) (.br (U.ne (e (U.toNat (Int.ofNat 2))).1 (0 : Int)) (.ask ((0 : Int) ≤ (2 : Int) ∧ (2 : Int) < ↑m) (.ask
      (I64 (f (U.toNat (Int.ofNat 2))).1 ∧ I64 (f (U.toNat (Int.ofNat 2))).2.1 ∧ I64 (f (U.toNat (Int.ofNat 2))).2.2.1 ∧ I64 (e (U.toNat (Int.ofNat 2))).1) (.br (U.ne (lk inE (f (U.toNat
      (Int.ofNat 2))).1 (f (U.toNat (Int.ofNat 2))).2.1 (f (U.toNat (Int.ofNat 2))).2.2.1 (e (U.toNat (Int.ofNat 2))).1) (0 : Int)) (.ret (.tup [.agg [.lit (.slice none (nat_lit 0)
      (nat_lit 0)), .lit (.int .i64 0), .lit (.int .i64 0), .lit (.int .i64 0)], .lit (.int .i64 (lk inE (f (U.toNat (Int.ofNat 2))).1 (f (U.toNat (Int.ofNat 2))).2.1 (f (U.toNat
      (Int.ofNat 2))).2.2.1 (e (U.toNat (Int.ofNat 2))).1))])) (.ask (((1 : Nat) + (1 : Nat) + (1 : Nat)) * nat_lit 24 ≤ nat_lit 140737488351232) (.stuck (nat_lit 105)))))) (.ask (((1 :
      Nat) + (1 : Nat) + (1 : Nat)) * nat_lit 24 ≤ nat_lit 140737488351232) (.stuck (nat_lit 105)))))) (.ret (.tup [.agg [.row [.int .i64, .int .i64, .int .i64] (nat_lit 2) (U.cat
      (nat_lit 1) (fun x => ((f (U.toNat (Int.ofNat 0))).1, (f (U.toNat (Int.ofNat 0))).2.1, (f (U.toNat (Int.ofNat 0))).2.2.1, PUnit.unit)) fun x => (lk inLow (f (U.toNat (Int.ofNat
      1))).1 (f (U.toNat (Int.ofNat 1))).2.1 (f (U.toNat (Int.ofNat 1))).2.2.1 (e (U.toNat (Int.ofNat 1))).1, lk inHigh (f (U.toNat (Int.ofNat 1))).1 (f (U.toNat (Int.ofNat 1))).2.1 (f
      (U.toNat (Int.ofNat 1))).2.2.1 (e (U.toNat (Int.ofNat 1))).1, lk inStr (f (U.toNat (Int.ofNat 1))).1 (f (U.toNat (Int.ofNat 1))).2.1 (f (U.toNat (Int.ofNat 1))).2.2.1 (e (U.toNat
      (Int.ofNat 1))).1, PUnit.unit)), .lit (.int .i64 k), .lit (.int .i64 s), .lit (.int .i64 h)], .lit (.int .i64 0)]))))))) (.ask (((1 : Nat) + (1 : Nat)) * nat_lit 24 ≤ nat_lit
      140737488351232) (.br (U.lt (2 : Int) (Int.ofNat m)) (.ask ((0 : Int) ≤ (2 : Int) ∧ (2 : Int) < ↑n) (.ask ((0 : Int) ≤ (2 : Int) ∧ (2 : Int) < ↑m) (.br (U.ne (e (U.toNat (Int.ofNat
      2))).1 (0 : Int)) (.ask ((0 : Int) ≤ (2 : Int) ∧ (2 : Int) < ↑m) (.ask (I64 (f (U.toNat (Int.ofNat 2))).1 ∧ I64 (f (U.toNat (Int.ofNat 2))).2.1 ∧ I64 (f (U.toNat (Int.ofNat
      2))).2.2.1 ∧ I64 (e (U.toNat (Int.ofNat 2))).1) (.br (U.ne (lk inE (f (U.toNat (Int.ofNat 2))).1 (f (U.toNat (Int.ofNat 2))).2.1 (f (U.toNat (Int.ofNat 2))).2.2.1 (e (U.toNat
      (Int.ofNat 2))).1) (0 : Int)) (.ret (.tup [.agg [.lit (.slice none (nat_lit 0) (nat_lit 0)), .lit (.int .i64 0), .lit (.int .i64 0), .lit (.int .i64 0)], .lit (.int .i64 (lk inE (f
      (U.toNat (Int.ofNat 2))).1 (f (U.toNat (Int.ofNat 2))).2.1 (f (U.toNat (Int.ofNat 2))).2.2.1 (e (U.toNat (Int.ofNat 2))).1))])) (.ask (((1 : Nat) + (1 : Nat) + (1 : Nat)) * nat_lit
      24 ≤ nat_lit 140737488351232) (.stuck (nat_lit 105)))))) (.ask (((1 : Nat) + (1 : Nat) + (1 : Nat)) * nat_lit 24 ≤ nat_lit 140737488351232) (.stuck (nat_lit 105)))))) (.ret (.tup
      [.agg [.row [.int .i64, .int .i64, .int .i64] (nat_lit 2) (U.cat (nat_lit 1) (fun x => ((f (U.toNat (Int.ofNat 0))).1, (f (U.toNat (Int.ofNat 0))).2.1, (f (U.toNat (Int.ofNat
      0))).2.2.1, PUnit.unit)) fun x => ((f (U.toNat (Int.ofNat 1))).1, (f (U.toNat (Int.ofNat 1))).2.1, (f (U.toNat (Int.ofNat 1))).2.2.1, PUnit.unit)), .lit (.int .i64 k), .lit (.int
      .i64 s), .lit (.int .i64 h)], .lit (.int .i64 0)]))))))) (.ret (.tup [.agg [.row [.int .i64, .int .i64, .int .i64] (nat_lit 1) fun x => ((f (U.toNat (Int.ofNat 0))).1, (f (U.toNat
      (Int.ofNat 0))).2.1, (f (U.toNat (Int.ofNat 0))).2.2.1, PUnit.unit), .lit (.int .i64 k), .lit (.int .i64 s), .lit (.int .i64 h)], .lit (.int .i64 0)]))))))) (.ret (.tup [.agg [.lit
      (.slice none (nat_lit 0) (nat_lit 0)), .lit (.int .i64 k), .lit (.int .i64 s), .lit (.int .i64 h)], .lit (.int .i64 0)]))))) := by kernel_rfl
theorem qDInterior_ok (h12 : ∀ p ∈ d12, ConOK P p.1 p.2) (hl : ∀ p ∈ lqCh, LoopsOK P p.2 (bodyOf P p.1)) : ConOK P 95 (c_chg 2) := con_cl (allOKL mixed h12 hl) 10 95 fun args r h => by
  unfold c_chg at h
  split at h
  · rename_i n f k s h' m e
    obtain ⟨hp, hq⟩ := (T.is_ask h).1
    have h := (T.is_ask h).2
    obtain rfl := T.is_ret h
    rw [t_qDInterior]
    simp only [tn, lk_eq]
    simp only [Int.ofNat_eq_natCast]
    by_cases c : chD n f k s h' = 0
    · by_cases q : m = n
      · subst q
        have hn := (chD_zero.1 c).1.1
        have hI : ∀ i, i < m → I64 (f i).1 ∧ I64 (f i).2.1 ∧ I64 (f i).2.2.1 ∧ I64 (e i).1 := fun i hi => ⟨(hp i hi).1, (hp i hi).2.1, (hp i hi).2.2, hq i hi⟩
        have hI0 := hI 0 (by omega)
        rcases hn with rfl | rfl
        · by_cases Z0 : @Eq Int (e 0).1 0
          · simp [T.All, U.ne_eq, U.eq_eq, U.lt_eq, hp, hI0, hI0, c, Z0, eqT Z0, neF Z0]
            refine chg_ok (chgE_4 (w := 2) c (opEz2 (f 0) Z0)) rfl fun i hi => ?_
            obtain rfl := one_of hi
            exact (opFz2 (f 0) Z0).symm
          · by_cases E0 : inE (f 0).1 (f 0).2.1 (f 0).2.2.1 (e 0).1 = 0
            · simp [T.All, U.ne_eq, U.eq_eq, U.lt_eq, hp, hI0, hI0, c, Z0, E0, eqF Z0, neT Z0]
              refine chg_ok (chgE_4 (w := 2) c ((opEn2 (f 0) Z0).trans E0)) rfl fun i hi => ?_
              obtain rfl := one_of hi
              exact (opFn2 (f 0) Z0).symm
            · simp [T.All, U.ne_eq, U.eq_eq, U.lt_eq, hp, hI0, hI0, c, Z0, E0, eqF Z0, neT Z0]
              exact chg_err (chgE_3 (w := 2) c (opEn2 (f 0) Z0) E0) E0
        · have hI1 := hI 1 (by omega)
          by_cases Z0 : @Eq Int (e 0).1 0
          · by_cases Z1 : @Eq Int (e 1).1 0
            · simp [T.All, U.ne_eq, U.eq_eq, U.lt_eq, hp, hI0, hI1, c, Z0, eqT Z0, neF Z0, Z1, eqT Z1, neF Z1]
              refine chg_ok (chgE_5 (w := 2) c (opEz2 (f 0) Z0) (opEz2 (f 1) Z1)) rfl fun i hi => ?_
              rcases two_of hi with rfl | rfl
              · exact (cat_l (by omega)).trans (opFz2 (f 0) Z0).symm
              · exact (cat_r (by omega)).trans (opFz2 (f 1) Z1).symm
            · by_cases E1 : inE (f 1).1 (f 1).2.1 (f 1).2.2.1 (e 1).1 = 0
              · simp [T.All, U.ne_eq, U.eq_eq, U.lt_eq, hp, hI0, hI1, c, Z0, eqT Z0, neF Z0, Z1, E1, eqF Z1, neT Z1]
                refine chg_ok (chgE_5 (w := 2) c (opEz2 (f 0) Z0) ((opEn2 (f 1) Z1).trans E1)) rfl fun i hi => ?_
                rcases two_of hi with rfl | rfl
                · exact (cat_l (by omega)).trans (opFz2 (f 0) Z0).symm
                · exact (cat_r (by omega)).trans (opFn2 (f 1) Z1).symm
              · simp [T.All, U.ne_eq, U.eq_eq, U.lt_eq, hp, hI0, hI1, c, Z0, eqT Z0, neF Z0, Z1, E1, eqF Z1, neT Z1]
                exact chg_err (chgE_5 (w := 2) c (opEz2 (f 0) Z0) (opEn2 (f 1) Z1)) E1
          · by_cases E0 : inE (f 0).1 (f 0).2.1 (f 0).2.2.1 (e 0).1 = 0
            · by_cases Z1 : @Eq Int (e 1).1 0
              · simp [T.All, U.ne_eq, U.eq_eq, U.lt_eq, hp, hI0, hI1, c, Z0, E0, eqF Z0, neT Z0, Z1, eqT Z1, neF Z1]
                refine chg_ok (chgE_5 (w := 2) c ((opEn2 (f 0) Z0).trans E0) (opEz2 (f 1) Z1)) rfl fun i hi => ?_
                rcases two_of hi with rfl | rfl
                · exact (cat_l (by omega)).trans (opFn2 (f 0) Z0).symm
                · exact (cat_r (by omega)).trans (opFz2 (f 1) Z1).symm
              · by_cases E1 : inE (f 1).1 (f 1).2.1 (f 1).2.2.1 (e 1).1 = 0
                · simp [T.All, U.ne_eq, U.eq_eq, U.lt_eq, hp, hI0, hI1, c, Z0, E0, eqF Z0, neT Z0, Z1, E1, eqF Z1, neT Z1]
                  refine chg_ok (chgE_5 (w := 2) c ((opEn2 (f 0) Z0).trans E0) ((opEn2 (f 1) Z1).trans E1)) rfl fun i hi => ?_
                  rcases two_of hi with rfl | rfl
                  · exact (cat_l (by omega)).trans (opFn2 (f 0) Z0).symm
                  · exact (cat_r (by omega)).trans (opFn2 (f 1) Z1).symm
                · simp [T.All, U.ne_eq, U.eq_eq, U.lt_eq, hp, hI0, hI1, c, Z0, E0, eqF Z0, neT Z0, Z1, E1, eqF Z1, neT Z1]
                  exact chg_err (chgE_5 (w := 2) c ((opEn2 (f 0) Z0).trans E0) (opEn2 (f 1) Z1)) E1
            · simp [T.All, U.ne_eq, U.eq_eq, U.lt_eq, hp, hI0, hI1, c, Z0, E0, eqF Z0, neT Z0]
              exact chg_err (chgE_3 (w := 2) c (opEn2 (f 0) Z0) E0) E0
      · have q' : ¬ ((m : Int) = (n : Int)) := by omega
        simp [T.All, U.ne_eq, hp, c, q']
        exact chg_err (chgE_2 (w := 2) c q) (by omega)
    · simp [T.All, U.ne_eq, hp, c]
      exact chg_err (chgE_1 (w := 2) c) c
  · exact h.elim
set_option maxRecDepth 100000 in
theorem t_DExterior (n : Nat) (f : Nat → R3) (k s h : Int) (m : Nat) (e : Nat → R1) : conB Go.Proofs.Try.prog (conOf d12) (loopsOf lCh) 10 96 [.agg [.row [.int .i64, .int .i64, .int .i64] n f, .lit (.int .i64 k), .lit (.int .i64 s), .lit (.int .i64 h)], .row [.int .i64] m e] =
    T.ask (Row64 n f) (.br (U.ne (lk chD n f k s h) (0 : Int)) (.ret (.tup [.agg [.lit (.slice none (nat_lit 0) (nat_lit 0)), .lit (.int .i64 0), .lit (.int .i64 0), .lit (.int .i64
      0)], .lit (.int .i64 (lk chD n f k s h))])) (.br (U.ne (Int.ofNat m) (Int.ofNat n)) (.ret (.tup [.agg [.lit (.slice none (nat_lit 0) (nat_lit 0)), .lit (.int .i64 0), .lit (.int
      .i64 0), .lit (.int .i64 0)], .lit (.int .i64 5)])) (.br (U.lt (0 : Int) (Int.ofNat n)) (.ask ((0 : Int) ≤ (0 : Int) ∧ (0 : Int) < ↑n) (.ask ((0 : Int) ≤ (0 : Int) ∧ (0 : Int) < ↑m)
      (.br (U.eq (e (U.toNat (Int.ofNat 0))).1 (0 : Int)) (.ask ((1 : Nat) * nat_lit 24 ≤ nat_lit 140737488351232) (.br (U.lt (1 : Int) (Int.ofNat n)) (.ask ((0 : Int) ≤ (1 : Int) ∧ (1 :
      Int) < ↑n) (.ask ((0 : Int) ≤ (1 : Int) ∧ (1 : Int) < ↑m) (.br (U.eq (e (U.toNat (Int.ofNat 1))).1 (0 : Int)) (.ask (((1 : Nat) + (1 : Nat)) * nat_lit 24 ≤ nat_lit 140737488351232)
      (.br (U.lt (2 : Int) (Int.ofNat n)) (.ask ((0 : Int) ≤ (2 : Int) ∧ (2 : Int) < ↑n) (.ask ((0 : Int) ≤ (2 : Int) ∧ (2 : Int) < ↑m) (.br (U.eq (e (U.toNat (Int.ofNat 2))).1 (0 : Int))
      (.ask (((1 : Nat) + (1 : Nat) + (1 : Nat)) * nat_lit 24 ≤ nat_lit 140737488351232) (.stuck (nat_lit 105))) (.ask (I64 (f (U.toNat (Int.ofNat 2))).1 ∧ I64 (f (U.toNat (Int.ofNat
      2))).2.1 ∧ I64 (f (U.toNat (Int.ofNat 2))).2.2.1 ∧ I64 (e (U.toNat (Int.ofNat 2))).1) (.br (U.ne (lk xtE (f (U.toNat (Int.ofNat 2))).1 (f (U.toNat (Int.ofNat 2))).2.1 (f (U.toNat
      (Int.ofNat 2))).2.2.1 (e (U.toNat (Int.ofNat 2))).1) (0 : Int)) (.br (U.ne (lk xtE (f (U.toNat (Int.ofNat 2))).1 (f (U.toNat (Int.ofNat 2))).2.1 (f (U.toNat (Int.ofNat 2))).2.2.1 (e
      (U.toNat (Int.ofNat 2))).1) (0 : Int)) (.ret (.tup [.agg [.lit (.slice none (nat_lit 0) (nat_lit 0)), .lit (.int .i64 0), .lit (.int .i64 0), .lit (.int .i64 0)], .lit (.int .i64
      (lk xtE (f (U.toNat (Int.ofNat 2))).1 (f (U.toNat (Int.ofNat 2))).2.1 (f (U.toNat (Int.ofNat 2))).2.2.1 (e (U.toNat (Int.ofNat 2))).1))])) (.ret (.tup [.agg [.row [.int .i64, .int
      .i64, .int .i64] (nat_lit 2) (U.cat (nat_lit 1) (fun x => ((f (U.toNat (Int.ofNat 0))).1, (f (U.toNat (Int.ofNat 0))).2.1, (f (U.toNat (Int.ofNat 0))).2.2.1, PUnit.unit)) fun x =>
      ((f (U.toNat (Int.ofNat 1))).1, (f (U.toNat (Int.ofNat 1))).2.1, (f (U.toNat (Int.ofNat 1))).2.2.1, PUnit.unit)), .lit (.int .i64 k), .lit (.int .i64 s), .lit (.int .i64 h)], .lit
      (.int .i64 0)]))) (.ask (((1 : Nat) + (1 : Nat) + (1 : Nat)) * nat_lit 24 ≤ nat_lit 140737488351232) (.stuck (nat_lit 105)))))))) (.ret (.tup [.agg [.row [.int .i64, .int .i64, .int
      .i64] (nat_lit 2) (U.cat (nat_lit 1) (fun x => ((f (U.toNat (Int.ofNat 0))).1, (f (U.toNat (Int.ofNat 0))).2.1, (f (U.toNat (Int.ofNat 0))).2.2.1, PUnit.unit)) fun x => ((f (U.toNat
      (Int.ofNat 1))).1, (f (U.toNat (Int.ofNat 1))).2.1, (f (U.toNat (Int.ofNat 1))).2.2.1, PUnit.unit)), .lit (.int .i64 k), .lit (.int .i64 s), .lit (.int .i64 h)], .lit (.int .i64
      0)])))) (.ask (I64 (f (U.toNat (Int.ofNat 1))).1 ∧ I64 (f (U.toNat (Int.ofNat 1))).2.1 ∧ I64 (f (U.toNat (Int.ofNat 1))).2.2.1 ∧ I64 (e (U.toNat (Int.ofNat 1))).1) (.br (U.ne (lk
      xtE (f (U.toNat (Int.ofNat 1))).1 (f (U.toNat (Int.ofNat 1))).2.1 (f (U.toNat (Int.ofNat 1))).2.2.1 (e (U.toNat (Int.ofNat 1))).1) (0 : Int)) (.br (U.ne (lk xtE (f (U.toNat
      (Int.ofNat 1))).1 (f (U.toNat (Int.ofNat 1))).2.1 (f (U.toNat (Int.ofNat 1))).2.2.1 (e (U.toNat (Int.ofNat 1))).1) (0 : Int)) (.ret (.tup [.agg [.lit (.slice none (nat_lit 0)
      (nat_lit 0)), .lit (.int .i64 0), .lit (.int .i64 0), .lit (.int .i64 0)], .lit (.int .i64 (lk xtE (f (U.toNat (Int.ofNat 1))).1 (f (U.toNat (Int.ofNat 1))).2.1 (f (U.toNat
      (Int.ofNat 1))).2.2.1 (e (U.toNat (Int.ofNat 1))).1))])) (.ret (.tup [.agg [.row [.int .i64, .int .i64, .int .i64] (nat_lit 1) fun x => ((f (U.toNat (Int.ofNat 0))).1, (f (U.toNat
      (Int.ofNat 0))).2.1, (f (U.toNat (Int.ofNat 0))).2.2.1, PUnit.unit), .lit (.int .i64 k), .lit (.int .i64 s), .lit (.int .i64 h)], .lit (.int .i64 0)]))) (.ask (((1 : Nat) + (1 :
      Nat)) * nat_lit 24 ≤ nat_lit 140737488351232) (.br (U.lt (2 : Int) (Int.ofNat n)) (.ask ((0 : Int) ≤ (2 : Int) ∧ (2 : Int) < ↑n) (.ask ((0 : Int) ≤ (2 : Int) ∧ (2 : Int) < ↑m) (.br
      (U.eq (e (U.toNat (Int.ofNat 2))).1 (0 : Int)) (.ask (((1 : Nat) + (1 : Nat) + (1 : Nat)) * nat_lit 24 ≤ nat_lit 140737488351232) (.stuck (nat_lit 105))) (.ask (I64 (f (U.toNat
      (Int.ofNat 2))).1 ∧ I64 (f (U.toNat (Int.ofNat 2))).2.1 ∧ I64 (f (U.toNat (Int.ofNat 2))).2.2.1 ∧ I64 (e (U.toNat (Int.ofNat 2))).1) (.br (U.ne (lk xtE (f (U.toNat (Int.ofNat 2))).1
      (f (U.toNat (Int.ofNat 2))).2.1 (f (U.toNat (Int.ofNat 2))).2.2.1 (e (U.toNat (Int.ofNat 2))).1) (0 : Int)) (.br (U.ne (lk xtE (f (U.toNat (Int.ofNat 2))).1 (f (U.toNat (Int.ofNat
      2))).2.1 (f (U.toNat (Int.ofNat 2))).2.2.1 (e (U.toNat (Int.ofNat 2))).1) (0 : Int)) (.ret (.tup [.agg [.lit (.slice none (nat_lit 0) (nat_lit 0)), .lit (.int .i64 0), .lit (.int
      .i64 0), .lit (.int .i64 0)], .lit (.int .i64 (lk xtE (f (U.toNat (Int.ofNat 2))).1 (f (U.toNat (Int.ofNat 2))).2.1 (f (U.toNat (Int.ofNat 2))).2.2.1 (e (U.toNat (Int.ofNat
      2))).1))])) (.ret (.tup [.agg [.row [.int .i64, .int .i64, .int .i64] (nat_lit 2) (U.cat (nat_lit 1) (fun x => ((f (U.toNat (Int.ofNat 0))).1, (f (U.toNat (Int.ofNat 0))).2.1, (f
      (U.toNat (Int.ofNat 0))).2.2.1, PUnit.unit)) fun x => (lk xtLow (f (U.toNat (Int.ofNat 1))).1 (f (U.toNat (Int.ofNat 1))).2.1 (f (U.toNat (Int.ofNat 1))).2.2.1 (e (U.toNat
      (Int.ofNat 1))).1, lk xtHigh (f (U.toNat (Int.ofNat 1))).1 (f (U.toNat (Int.ofNat 1))).2.1 (f (U.toNat (Int.ofNat 1))).2.2.1 (e (U.toNat (Int.ofNat 1))).1, lk xtStr (f (U.toNat
      (Int.ofNat 1))).1 (f (U.toNat (Int.ofNat 1))).2.1 (f (U.toNat (Int.ofNat 1))).2.2.1 (e (U.toNat (Int.ofNat 1))).1, PUnit.unit)), .lit (.int .i64 k), .lit (.int .i64 s), .lit (.int
      .i64 h)], .lit (.int .i64 0)]))) (.ask (((1 : Nat) + (1 : Nat) + (1 : Nat)) * nat_lit 24 ≤ nat_lit 140737488351232) (.stuck (nat_lit 105)))))))) (.br (U.ne (lk xtE (f (U.toNat
      (Int.ofNat 1))).1 (f (U.toNat (Int.ofNat 1))).2.1 (f (U.toNat (Int.ofNat 1))).2.2.1 (e (U.toNat (Int.ofNat 1))).1) (0 : Int)) (.ret (.tup [.agg [.lit (.slice none (nat_lit 0)
      (nat_lit 0)), .lit (.int .i64 0), .lit (.int .i64 0), .lit (.int .i64 0)], .lit (.int .i64 (lk xtE (f (U.toNat (Int.ofNat 1))).1 (f (U.toNat (Int.ofNat 1))).2.1 (f (U.toNat
      (Int.ofNat 1))).2.2.1 (e (U.toNat (Int.ofNat 1))).1))])) (.ret (.tup [.agg [.row [.int .i64, .int .i64, .int .i64] (nat_lit 2) (U.cat (nat_lit 1) (fun x => ((f (U.toNat (Int.ofNat
      0))).1, (f (U.toNat (Int.ofNat 0))).2.1, (f (U.toNat (Int.ofNat 0))).2.2.1, PUnit.unit)) fun x => (lk xtLow (f (U.toNat (Int.ofNat 1))).1 (f (U.toNat (Int.ofNat 1))).2.1 (f (U.toNat
      (Int.ofNat 1))).2.2.1 (e (U.toNat (Int.ofNat 1))).1, lk xtHigh (f (U.toNat (Int.ofNat 1))).1 (f (U.toNat (Int.ofNat 1))).2.1 (f (U.toNat (Int.ofNat 1))).2.2.1 (e (U.toNat (Int.ofNat
      1))).1, lk xtStr (f (U.toNat (Int.ofNat 1))).1 (f (U.toNat (Int.ofNat 1))).2.1 (f (U.toNat (Int.ofNat 1))).2.2.1 (e (U.toNat (Int.ofNat 1))).1, PUnit.unit)), .lit (.int .i64 k),
      .lit (.int .i64 s), .lit (.int .i64 h)], .lit (.int .i64 0)])))))))))) (.ret (.tup [.agg [.row [.int .i64, .int .i64, .int .i64] (nat_lit 1) fun x => ((f (U.toNat (Int.ofNat 0))).1,
      (f (U.toNat (Int.ofNat 0))).2.1, (f (U.toNat (Int.ofNat 0))).2.2.1, PUnit.unit), .lit (.int .i64 k), .lit (.int .i64 s), .lit (.int .i64 h)], .lit (.int .i64 0)])))) (.ask (I64 (f
      (U.toNat (Int.ofNat 0))).1 ∧ I64 (f (U.toNat (Int.ofNat 0))).2.1 ∧ I64 (f (U.toNat (Int.ofNat 0))).2.2.1 ∧ I64 (e (U.toNat (Int.ofNat 0))).1) (.br (U.ne (lk xtE (f (U.toNat
      (Int.ofNat 0))).1 (f (U.toNat (Int.ofNat 0))).2.1 (f (U.toNat (Int.ofNat 0))).2.2.1 (e (U.toNat (Int.ofNat 0))).1) (0 : Int)) (.br (U.ne (lk xtE (f (U.toNat (Int.ofNat 0))).1 (f
      (U.toNat (Int.ofNat 0))).2.1 (f (U.toNat (Int.ofNat 0))).2.2.1 (e (U.toNat (Int.ofNat 0))).1) (0 : Int)) (.ret (.tup [.agg [.lit (.slice none (nat_lit 0) (nat_lit 0)), .lit (.int
      .i64 0), .lit (.int .i64 0), .lit (.int .i64 0)], .lit (.int .i64 (lk xtE (f (U.toNat (Int.ofNat 0))).1 (f (U.toNat (Int.ofNat 0))).2.1 (f (U.toNat (Int.ofNat 0))).2.2.1 (e (U.toNat
      (Int.ofNat 0))).1))])) (.ret (.tup [.agg [.lit (.slice none (nat_lit 0) (nat_lit 0)), .lit (.int .i64 k), .lit (.int .i64 s), .lit (.int .i64 h)], .lit (.int .i64 0)]))) (.ask ((1 :
      Nat) * nat_lit 24 ≤ nat_lit 140737488351232) (.br (U.lt (1 : Int) (Int.ofNat n)) (.ask ((0 : Int) ≤ (1 : Int) ∧ (1 : Int) < ↑n) (.ask ((0 : Int) ≤ (1 : Int) ∧ (1 : Int) < ↑m) (.br
      (U.eq (e (U.toNat (Int.ofNat 1))).1 (0 : Int)) (.ask (((1 : Nat) + (1 : Nat)) * nat_lit 24 ≤ nat_lit 140737488351232) (.br (U.lt (2 : Int) (Int.ofNat n)) (.ask ((0 : Int) ≤ (2 :
      Int) ∧ (2 : Int) < ↑n) (.ask ((0 : Int) ≤ (2 : Int) ∧ (2 : Int) < ↑m) (.br (U.eq (e (U.toNat (Int.ofNat 2))).1 (0 : Int)) (.ask (((1 : Nat) + (1 : Nat) + (1 : Nat)) * nat_lit 24 ≤
      nat_lit 140737488351232) (.stuck (nat_lit 105))) (.ask (I64 (f (U.toNat (Int.ofNat 2))).1 ∧ I64 (f (U.toNat (Int.ofNat 2))).2.1 ∧ I64 (f (U.toNat (Int.ofNat 2))).2.2.1 ∧ I64 (e
      (U.toNat (Int.ofNat 2))).1) (.br (U.ne (lk xtE (f (U.toNat (Int.ofNat 2))).1 (f (U.toNat (Int.ofNat 2))).2.1 (f (U.toNat (Int.ofNat 2))).2.2.1 (e (U.toNat (Int.ofNat 2))).1) (0 :
      Int)) (.br (U.ne (lk xtE (f (U.toNat (Int.ofNat 2))).1 (f (U.toNat (Int.ofNat 2))).2.1 (f (U.toNat (Int.ofNat 2))).2.2.1 (e (U.toNat (Int.ofNat 2))).1) (0 : Int)) (.ret (.tup [.agg
      [.lit (.slice none (nat_lit 0) (nat_lit 0)), .lit (.int .i64 0), .lit (.int .i64 0), .lit (.int .i64 0)], .lit (.int .i64 (lk xtE (f (U.toNat (Int.ofNat 2))).1 (f (U.toNat
      (Int.ofNat 2))).2.1 (f (U.toNat (Int.ofNat 2))).2.2.1 (e (U.toNat (Int.ofNat 2))).1))])) (.ret (.tup [.agg [.row [.int .i64, .int .i64, .int .i64] (nat_lit 2) (U.cat (nat_lit 1)
      (fun x => (lk xtLow (f (U.toNat (Int.ofNat 0))).1 (f (U.toNat (Int.ofNat 0))).2.1 (f (U.toNat (Int.ofNat 0))).2.2.1 (e (U.toNat (Int.ofNat 0))).1, lk xtHigh (f (U.toNat (Int.ofNat
      0))).1 (f (U.toNat (Int.ofNat 0))).2.1 (f (U.toNat (Int.ofNat 0))).2.2.1 (e (U.toNat (Int.ofNat 0))).1, lk xtStr (f (U.toNat (Int.ofNat 0))).1 (f (U.toNat (Int.ofNat 0))).2.1 (f
      (U.toNat (Int.ofNat 0))).2.2.1 (e (U.toNat (Int.ofNat 0))).1, PUnit.unit)) fun x => ((f (U.toNat (Int.ofNat 1))).1, (f (U.toNat (Int.ofNat 1))).2.1, (f (U.toNat (Int.ofNat
      1))).2.2.1, PUnit.unit)), .lit (.int .i64 k), .lit (.int .i64 s), .lit (.int .i64 h)], .lit (.int .i64 0)]))) (.ask (((1 : Nat) + (1 : Nat) + (1 : Nat)) * nat_lit 24 ≤ nat_lit
      140737488351232) (.stuck (nat_lit 105)))))))) (.ret (.tup [.agg [.row [.int .i64, .int .i64, .int .i64] (nat_lit 2) (U.cat (nat_lit 1) (fun x => (lk xtLow (f (U.toNat (Int.ofNat
      0))).1 (f (U.toNat (Int.ofNat 0))).2.1 (f (U.toNat (Int.ofNat 0))).2.2.1 (e (U.toNat (Int.ofNat 0))).1, lk xtHigh (f (U.toNat (Int.ofNat 0))).1 (f (U.toNat (Int.ofNat 0))).2.1 (f
      (U.toNat (Int.ofNat 0))).2.2.1 (e (U.toNat (Int.ofNat 0))).1, lk xtStr (f (U.toNat (Int.ofNat 0))).1 (f (U.toNat (Int.ofNat 0))).2.1 (f (U.toNat (Int.ofNat 0))).2.2.1 (e (U.toNat
      (Int.ofNat 0))).1, PUnit.unit)) fun x => ((f (U.toNat (Int.ofNat 1))).1, (f (U.toNat (Int.ofNat 1))).2.1, (f (U.toNat (Int.ofNat 1))).2.2.1, PUnit.unit)), .lit (.int .i64 k), .lit
      (.int .i64 s), .lit (.int .i64 h)], .lit (.int .i64 0)])))) (.ask (I64 (f (U.toNat (Int.ofNat 1))).1 ∧ I64 (f (U.toNat (Int.ofNat 1))).2.1 ∧ I64 (f (U.toNat (Int.ofNat 1))).2.2.1 ∧
      I64 (e (U.toNat (Int.ofNat 1))).1) (.br (U.ne (lk xtE (f (U.toNat (Int.ofNat 1))).1 (f (U.toNat (Int.ofNat 1))).2.1 (f (U.toNat (Int.ofNat 1))).2.2.1 (e (U.toNat (Int.ofNat 1))).1)
      (0 : Int)) (.br (U.ne (lk xtE (f (U.toNat (Int.ofNat 1))).1 (f (U.toNat (Int.ofNat 1))).2.1 (f (U.toNat (Int.ofNat 1))).2.2.1 (e (U.toNat (Int.ofNat 1))).1) (0 : Int)) (.ret (.tup
      [.agg [.lit (.slice none (nat_lit 0) (nat_lit 0)), .lit (.int .i64 0), .lit (.int .i64 0), .lit (.int .i64 0)], .lit (.int .i64 (lk xtE (f (U.toNat (Int.ofNat 1))).1 (f (U.toNat
      (Int.ofNat 1))).2.1 (f (U.toNat (Int.ofNat 1))).2.2.1 (e (U.toNat (Int.ofNat 1))).1))])) (.ret (.tup [.agg [.row [.int .i64, .int .i64, .int .i64] (nat_lit 1) fun x => (lk xtLow (f
      (U.toNat (Int.ofNat 0))).1 (f (U.toNat (Int.ofNat 0))).2.1 (f (U.toNat (Int.ofNat 0))).2.2.1 (e (U.toNat (Int.ofNat 0))).1, lk xtHigh (f (U.toNat (Int.ofNat 0))).1 (f (U.toNat
      (Int.ofNat 0))).2.1 (f (U.toNat (Int.ofNat 0))).2.2.1 (e (U.toNat (Int.ofNat 0))).1, lk xtStr (f (U.toNat (Int.ofNat 0))).1 (f (U.toNat (Int.ofNat 0))).2.1 (f (U.toNat (Int.ofNat
      0))).2.2.1 (e (U.toNat (Int.ofNat 0))).1, PUnit.unit), .lit (.int .i64 k), .lit (.int .i64 s), .lit (.int .i64 h)], .lit (.int .i64 0)]))) (.ask (((1 : Nat) + (1 : Nat)) * nat_lit
      24 ≤ nat_lit 140737488351232) (.br (U.lt (2 : Int) (Int.ofNat n)) (.ask ((0 : Int) ≤ (2 : Int) ∧ (2 : Int) < ↑n) (.ask ((0 : Int) ≤ (2 : Int) ∧ (2 : Int) < ↑m) (.br (U.eq (e
      (U.toNat (Int.ofNat 2))).1 (0 : Int)) (.ask (((1 : Nat) + (1 : Nat) + (1 : Nat)) * nat_lit 24 ≤ nat_lit 140737488351232) (.stuck (nat_lit 105))) (.ask (I64 (f (U.toNat (Int.ofNat
      2))).1 ∧ I64 (f (U.toNat (Int.ofNat 2))).2.1 ∧ I64 (f (U.toNat (Int.ofNat 2))).2.2.1 ∧ I64 (e (U.toNat (Int.ofNat 2))).1) (.br (U.ne (lk xtE (f (U.toNat (Int.ofNat 2))).1 (f
      (U.toNat (Int.ofNat 2))).2.1 (f (U.toNat (Int.ofNat 2))).2.2.1 (e (U.toNat (Int.ofNat 2))).1) (0 : Int)) (.br (U.ne (lk xtE (f (U.toNat (Int.ofNat 2))).1 (f (U.toNat (Int.ofNat
      2))).2.1 (f (U.toNat (Int.ofNat 2))).2.2.1 (e (U.toNat (Int.ofNat 2))).1) (0 : Int)) (.ret (.tup [.agg [.lit (.slice none (nat_lit 0) (nat_lit 0)), .lit (.int .i64 0), .lit (.int
      .i64 0), .lit (.int .i64 0)], .lit (.int .i64 (lk xtE (f (U.toNat (Int.ofNat 2))).1 (f (U.toNat (Int.ofNat 2))).2.1 (f (U.toNat (Int.ofNat 2))).2.2.1 (e (U.toNat (Int.ofNat
      2))).1))])) (.ret (.tup [.agg [.row [.int .i64, .int .i64, .int .i64] (nat_lit 2) (U.cat (nat_lit 1) (fun x => (lk xtLow (f (U.toNat (Int.ofNat 0))).1 (f (U.toNat (Int.ofNat
      0))).2.1 (f (U.toNat (Int.ofNat 0))).2.2.1 (e (U.toNat (Int.ofNat 0))).1, lk xtHigh (f (U.toNat (Int.ofNat 0))).1 (f (U.toNat (Int.ofNat 0))).2.1 (f (U.toNat (Int.ofNat 0))).2.2.1
      (e (U.toNat (Int.ofNat 0))).1, lk xtStr (f (U.toNat (Int.ofNat 0))).1 (f (U.toNat (Int.ofNat 0))).2.1 (f (U.toNat (Int.ofNat 0))).2.2.1 (e (U.toNat (Int.ofNat 0))).1, PUnit.unit))
      fun x => (lk xtLow (f (U.toNat (Int.ofNat 1))).1 (f (U.toNat (Int.ofNat 1))).2.1 (f (U.toNat (Int.ofNat 1))).2.2.1 (e (U.toNat (Int.ofNat 1))).1, lk xtHigh (f (U.toNat (Int.ofNat
      1))).1 (f (U.toNat (Int.ofNat 1))).2.1 (f (U.toNat (Int.ofNat 1))).2.2.1 (e (U.toNat (Int.ofNat 1))).1, lk xtStr (f (U.toNat (Int.ofNat 1))).1 (f (U.toNat (Int.ofNat 1))).2.1 (f
      (U.toNat (Int.ofNat 1))).2.2.1 (e (U.toNat (Int.ofNat 1))).1, PUnit.unit)), .lit (.int .i64 k), .lit (.int .i64 s), .lit (.int .i64 h)], .lit (.int .i64 0)]))) (.ask (((1 : Nat) +
      (1 : Nat) + (1 : Nat)) * nat_lit 24 ≤ nat_lit 140737488351232) (.stuck (nat_lit 105)))))))) (.br (U.ne (lk xtE (f (U.toNat (Int.ofNat 1))).1 (f (U.toNat (Int.ofNat 1))).2.1 (f
      (U.toNat (Int.ofNat 1))).2.2.1 (e (U.toNat (Int.ofNat 1))).1) (0 : Int)) (.ret (.tup [.agg [.lit (.slice none (nat_lit 0) (nat_lit 0)), .lit (.int .i64 0), .lit (.int .i64 0), .lit
      (.int .i64 0)], .lit (.int .i64 (lk xtE (f (U.toNat (Int.ofNat 1))).1 (f (U.toNat (Int.ofNat 1))).2.1 (f (U.toNat (Int.ofNat 1))).2.2.1 (e (U.toNat (Int.ofNat 1))).1))])) (.ret
      (.tup [.agg [.row [.int .i64, .int .i64, .int .i64] (nat_lit 2) (U.cat (nat_lit 1) (fun x => (lk xtLow (f (U.toNat (Int.ofNat 0))).1 (f (U.toNat (Int.ofNat 0))).2.1 (f (U.toNat
      (Int.ofNat 0))).2.2.1 (e (U.toNat (Int.ofNat 0))).1, lk xtHigh (f (U.toNat (Int.ofNat 0))).1 (f (U.toNat (Int.ofNat 0))).2.1 (f (U.toNat (Int.ofNat 0))).2.2.1 (e (U.toNat (Int.ofNat
      0))).1, lk xtStr (f (U.toNat (Int.ofNat 0))).1 (f (U.toNat (Int.ofNat 0))).2.1 (f (U.toNat (Int.ofNat 0))).2.2.1 (e (U.toNat (Int.ofNat 0))).1, PUnit.unit)) fun x => (lk xtLow (f
      (U.toNat (Int.ofNat 1))).1 (f (U.toNat (Int.ofNat 1))).2.1 (f (U.toNat (Int.ofNat 1))).2.2.1 (e (U.toNat (Int.ofNat 1))).1, lk xtHigh (f (U.toNat (Int.ofNat 1))).1 (f (U.toNat
      (Int.ofNat 1))).2.1 (f (U.toNat (Int.ofNat 1))).2.2.1 (e (U.toNat (Int.ofNat 1))).1, lk xtStr (f (U.toNat (Int.ofNat 1))).1 (f (U.toNat (Int.ofNat 1))).2.1 (f (U.toNat (Int.ofNat
      1))).2.2.1 (e (U.toNat (Int.ofNat 1))).1, PUnit.unit)), .lit (.int .i64 k), .lit (.int .i64 s), .lit (.int .i64 h)], .lit (.int .i64 0)])))))))))) (.br (U.ne (lk xtE (f (U.toNat
      (Int.ofNat 0))).1 (f (U.toNat (Int.ofNat 0))).2.1 (f (U.toNat (Int.ofNat 0))).2.2.1 (e (U.toNat (Int.ofNat 0))).1) (0 : Int)) (.ret (.tup [.agg [.lit (.slice none (nat_lit 0)
      (nat_lit 0)), .lit (.int .i64 0), .lit (.int .i64 0), .lit (.int .i64 0)], .lit (.int .i64 (lk xtE (f (U.toNat (Int.ofNat 0))).1 (f (U.toNat (Int.ofNat 0))).2.1 (f (U.toNat
      (Int.ofNat 0))).2.2.1 (e (U.toNat (Int.ofNat 0))).1))])) (.ret (.tup [.agg [.row [.int .i64, .int .i64, .int .i64] (nat_lit 1) fun x => (lk xtLow (f (U.toNat (Int.ofNat 0))).1 (f
      (U.toNat (Int.ofNat 0))).2.1 (f (U.toNat (Int.ofNat 0))).2.2.1 (e (U.toNat (Int.ofNat 0))).1, lk xtHigh (f (U.toNat (Int.ofNat 0))).1 (f (U.toNat (Int.ofNat 0))).2.1 (f (U.toNat
      (Int.ofNat 0))).2.2.1 (e (U.toNat (Int.ofNat 0))).1, lk xtStr (f (U.toNat (Int.ofNat 0))).1 (f (U.toNat (Int.ofNat 0))).2.1 (f (U.toNat (Int.ofNat 0))).2.2.1 (e (U.toNat (Int.ofNat
      0))).1, PUnit.unit), .lit (.int .i64 k), .lit (.int .i64 s), .lit (.int .i64 h)], .lit (.int .i64 0)])))))))))) (.ret (.tup [.agg [.lit (.slice none (nat_lit 0) (nat_lit 0)), .lit
      (.int .i64 k), .lit (.int .i64 s), .lit (.int .i64 h)], .lit (.int .i64 0)]))))) := by kernel_rfl
theorem DExterior_ok (h12 : ∀ p ∈ d12, ConOK P p.1 p.2) (hl : ∀ p ∈ lCh, LoopsOK P p.2 (bodyOf P p.1)) : ConOK P 96 (c_chg 3) := con_cl (allOKL mixed h12 hl) 10 96 fun args r h => by
  unfold c_chg at h
  split at h
  · rename_i n f k s h' m e
    obtain ⟨hp, hq⟩ := (T.is_ask h).1
    have h := (T.is_ask h).2
    obtain rfl := T.is_ret h
    rw [t_DExterior]
    simp only [tn, lk_eq]
    simp only [Int.ofNat_eq_natCast]
    by_cases c : chD n f k s h' = 0
    · by_cases q : m = n
      · subst q
        have hn := (chD_zero.1 c).1.1
        have hI : ∀ i, i < m → I64 (f i).1 ∧ I64 (f i).2.1 ∧ I64 (f i).2.2.1 ∧ I64 (e i).1 := fun i hi => ⟨(hp i hi).1, (hp i hi).2.1, (hp i hi).2.2, hq i hi⟩
        have hI0 := hI 0 (by omega)
        rcases hn with rfl | rfl
        · by_cases Z0 : @Eq Int (e 0).1 0
          · simp [T.All, U.ne_eq, U.eq_eq, U.lt_eq, hp, hI0, hI0, c, Z0, eqT Z0, neF Z0]
            refine chg_ok (chgE_4 (w := 3) c (opEz3 (f 0) Z0)) rfl fun i hi => ?_
            obtain rfl := one_of hi
            exact (opFz3 (f 0) Z0).symm
          · by_cases E0 : xtE (f 0).1 (f 0).2.1 (f 0).2.2.1 (e 0).1 = 0
            · simp [T.All, U.ne_eq, U.eq_eq, U.lt_eq, hp, hI0, hI0, c, Z0, E0, eqF Z0, neT Z0]
              refine chg_ok (chgE_4 (w := 3) c ((opEn3 (f 0) Z0).trans E0)) rfl fun i hi => ?_
              obtain rfl := one_of hi
              exact (opFn3 (f 0) Z0).symm
            · simp [T.All, U.ne_eq, U.eq_eq, U.lt_eq, hp, hI0, hI0, c, Z0, E0, eqF Z0, neT Z0]
              exact chg_err (chgE_3 (w := 3) c (opEn3 (f 0) Z0) E0) E0
        · have hI1 := hI 1 (by omega)
          by_cases Z0 : @Eq Int (e 0).1 0
          · by_cases Z1 : @Eq Int (e 1).1 0
            · simp [T.All, U.ne_eq, U.eq_eq, U.lt_eq, hp, hI0, hI1, c, Z0, eqT Z0, neF Z0, Z1, eqT Z1, neF Z1]
              refine chg_ok (chgE_5 (w := 3) c (opEz3 (f 0) Z0) (opEz3 (f 1) Z1)) rfl fun i hi => ?_
              rcases two_of hi with rfl | rfl
              · exact (cat_l (by omega)).trans (opFz3 (f 0) Z0).symm
              · exact (cat_r (by omega)).trans (opFz3 (f 1) Z1).symm
            · by_cases E1 : xtE (f 1).1 (f 1).2.1 (f 1).2.2.1 (e 1).1 = 0
              · simp [T.All, U.ne_eq, U.eq_eq, U.lt_eq, hp, hI0, hI1, c, Z0, eqT Z0, neF Z0, Z1, E1, eqF Z1, neT Z1]
                refine chg_ok (chgE_5 (w := 3) c (opEz3 (f 0) Z0) ((opEn3 (f 1) Z1).trans E1)) rfl fun i hi => ?_
                rcases two_of hi with rfl | rfl
                · exact (cat_l (by omega)).trans (opFz3 (f 0) Z0).symm
                · exact (cat_r (by omega)).trans (opFn3 (f 1) Z1).symm
              · simp [T.All, U.ne_eq, U.eq_eq, U.lt_eq, hp, hI0, hI1, c, Z0, eqT Z0, neF Z0, Z1, E1, eqF Z1, neT Z1]
                exact chg_err (chgE_5 (w := 3) c (opEz3 (f 0) Z0) (opEn3 (f 1) Z1)) E1
          · by_cases E0 : xtE (f 0).1 (f 0).2.1 (f 0).2.2.1 (e 0).1 = 0
            · by_cases Z1 : @Eq Int (e 1).1 0
              · simp [T.All, U.ne_eq, U.eq_eq, U.lt_eq, hp, hI0, hI1, c, Z0, E0, eqF Z0, neT Z0, Z1, eqT Z1, neF Z1]
                refine chg_ok (chgE_5 (w := 3) c ((opEn3 (f 0) Z0).trans E0) (opEz3 (f 1) Z1)) rfl fun i hi => ?_
                rcases two_of hi with rfl | rfl
                · exact (cat_l (by omega)).trans (opFn3 (f 0) Z0).symm
                · exact (cat_r (by omega)).trans (opFz3 (f 1) Z1).symm
              · by_cases E1 : xtE (f 1).1 (f 1).2.1 (f 1).2.2.1 (e 1).1 = 0
                · simp [T.All, U.ne_eq, U.eq_eq, U.lt_eq, hp, hI0, hI1, c, Z0, E0, eqF Z0, neT Z0, Z1, E1, eqF Z1, neT Z1]
                  refine chg_ok (chgE_5 (w := 3) c ((opEn3 (f 0) Z0).trans E0) ((opEn3 (f 1) Z1).trans E1)) rfl fun i hi => ?_
                  rcases two_of hi with rfl | rfl
                  · exact (cat_l (by omega)).trans (opFn3 (f 0) Z0).symm
                  · exact (cat_r (by omega)).trans (opFn3 (f 1) Z1).symm
                · simp [T.All, U.ne_eq, U.eq_eq, U.lt_eq, hp, hI0, hI1, c, Z0, E0, eqF Z0, neT Z0, Z1, E1, eqF Z1, neT Z1]
                  exact chg_err (chgE_5 (w := 3) c ((opEn3 (f 0) Z0).trans E0) (opEn3 (f 1) Z1)) E1
            · simp [T.All, U.ne_eq, U.eq_eq, U.lt_eq, hp, hI0, hI1, c, Z0, E0, eqF Z0, neT Z0]
              exact chg_err (chgE_3 (w := 3) c (opEn3 (f 0) Z0) E0) E0
      · have q' : ¬ ((m : Int) = (n : Int)) := by omega
        simp [T.All, U.ne_eq, hp, c, q']
        exact chg_err (chgE_2 (w := 3) c q) (by omega)
    · simp [T.All, U.ne_eq, hp, c]
      exact chg_err (chgE_1 (w := 3) c) c
  · exact h.elim
set_option maxRecDepth 100000 in
theorem t_qDExterior (n : Nat) (f : Nat → R3) (k s h : Int) (m : Nat) (e : Nat → R1) : conB Go.Proofs.Try.prog (conOf d12) (loopsOf lqCh) 10 97 [.agg [.row [.int .i64, .int .i64, .int .i64] n f, .lit (.int .i64 k), .lit (.int .i64 s), .lit (.int .i64 h)], .row [.int .i64] m e] =
    T.ask (Row64 n f) (.br (U.ne (lk chD n f k s h) (0 : Int)) (.ret (.tup [.agg [.lit (.slice none (nat_lit 0) (nat_lit 0)), .lit (.int .i64 0), .lit (.int .i64 0), .lit (.int .i64
      0)], .lit (.int .i64 (lk chD n f k s h))])) (.br (U.ne (Int.ofNat m) (Int.ofNat n)) (.ret (.tup [.agg [.lit (.slice none (nat_lit 0) (nat_lit 0)), .lit (.int .i64 0), .lit (.int
      .i64 0), .lit (.int .i64 0)], .lit (.int .i64 5)])) (.br (U.lt (0 : Int) (Int.ofNat m)) (.ask ((0 : Int) ≤ (0 : Int) ∧ (0 : Int) < ↑n) (.ask ((0 : Int) ≤ (0 : Int) ∧ (0 : Int) < ↑m)
      (.br (U.ne (e (U.toNat (Int.ofNat 0))).1 (0 : Int)) (.ask ((0 : Int) ≤ (0 : Int) ∧ (0 : Int) < ↑m) (.ask (I64 (f (U.toNat (Int.ofNat 0))).1 ∧ I64 (f (U.toNat (Int.ofNat 0))).2.1 ∧
      I64 (f (U.toNat (Int.ofNat 0))).2.2.1 ∧ I64 (e (U.toNat (Int.ofNat 0))).1) (.br (U.ne (lk xtE (f (U.toNat (Int.ofNat 0))).1 (f (U.toNat (Int.ofNat 0))).2.1 (f (U.toNat (Int.ofNat
      0))).2.2.1 (e (U.toNat (Int.ofNat 0))).1) (0 : Int)) (.ret (.tup [.agg [.lit (.slice none (nat_lit 0) (nat_lit 0)), .lit (.int .i64 0), .lit (.int .i64 0), .lit (.int .i64 0)], .lit
      (.int .i64 (lk xtE (f (U.toNat (Int.ofNat 0))).1 (f (U.toNat (Int.ofNat 0))).2.1 (f (U.toNat (Int.ofNat 0))).2.2.1 (e (U.toNat (Int.ofNat 0))).1))])) (.ask ((1 : Nat) * nat_lit 24 ≤
      nat_lit 140737488351232) (.br (U.lt (1 : Int) (Int.ofNat m)) (.ask ((0 : Int) ≤ (1 : Int) ∧ (1 : Int) < ↑n) (.ask ((0 : Int) ≤ (1 : Int) ∧ (1 : Int) < ↑m) (.br (U.ne (e (U.toNat
      (Int.ofNat 1))).1 (0 : Int)) (.ask ((0 : Int) ≤ (1 : Int) ∧ (1 : Int) < ↑m) (.ask (I64 (f (U.toNat (Int.ofNat 1))).1 ∧ I64 (f (U.toNat (Int.ofNat 1))).2.1 ∧ I64 (f (U.toNat
      (Int.ofNat 1))).2.2.1 ∧ I64 (e (U.toNat (Int.ofNat 1))).1) (.br (U.ne (lk xtE (f (U.toNat (Int.ofNat 1))).1 (f (U.toNat (Int.ofNat 1))).2.1 (f (U.toNat (Int.ofNat 1))).2.2.1 (e
      (U.toNat (Int.ofNat 1))).1) (0 : Int)) (.ret (.tup [.agg [.lit (.slice none (nat_lit 0) (nat_lit 0)), .lit (.int .i64 0), .lit (.int .i64 0), .lit (.int .i64 0)], .lit (.int .i64
      (lk xtE (f (U.toNat (Int.ofNat 1))).1 (f (U.toNat (Int.ofNat 1))).2.1 (f (U.toNat (Int.ofNat 1))).2.2.1 (e (U.toNat (Int.ofNat 1))).1))])) (.ask (((1 : Nat) + (1 : Nat)) * nat_lit
      24 ≤ nat_lit 140737488351232) (.br (U.lt (2 : Int) (Int.ofNat m)) (.ask ((0 : Int) ≤ (2 : Int) ∧ (2 : Int) < ↑n) (.ask ((0 : Int) ≤ (2 : Int) ∧ (2 : Int) < ↑m) (.br (U.ne (e
      (U.toNat (Int.ofNat 2))).1 (0 : Int)) (.ask ((0 : Int) ≤ (2 : Int) ∧ (2 : Int) < ↑m) (.ask (I64 (f (U.toNat (Int.ofNat 2))).1 ∧ I64 (f (U.toNat (Int.ofNat 2))).2.1 ∧ I64 (f (U.toNat
      (Int.ofNat 2))).2.2.1 ∧ I64 (e (U.toNat (Int.ofNat 2))).1) (.br (U.ne (lk xtE (f (U.toNat (Int.ofNat 2))).1 (f (U.toNat (Int.ofNat 2))).2.1 (f (U.toNat (Int.ofNat 2))).2.2.1 (e
      (U.toNat (Int.ofNat 2))).1) (0 : Int)) (.ret (.tup [.agg [.lit (.slice none (nat_lit 0) (nat_lit 0)), .lit (.int .i64 0), .lit (.int .i64 0), .lit (.int .i64 0)], .lit (.int .i64
      (lk xtE (f (U.toNat (Int.ofNat 2))).1 (f (U.toNat (Int.ofNat 2))).2.1 (f (U.toNat (Int.ofNat 2))).2.2.1 (e (U.toNat (Int.ofNat 2))).1))])) (.ask (((1 : Nat) + (1 : Nat) + (1 : Nat))
      * nat_lit 24 ≤ nat_lit 140737488351232) (.stuck (nat_lit 105)))))) (.ask (((1 : Nat) + (1 : Nat) + (1 : Nat)) * nat_lit 24 ≤ nat_lit 140737488351232) (.stuck (nat_lit 105))))))
      (.ret (.tup [.agg [.row [.int .i64, .int .i64, .int .i64] (nat_lit 2) (U.cat (nat_lit 1) (fun x => (lk xtLow (f (U.toNat (Int.ofNat 0))).1 (f (U.toNat (Int.ofNat 0))).2.1 (f
      (U.toNat (Int.ofNat 0))).2.2.1 (e (U.toNat (Int.ofNat 0))).1, lk xtHigh (f (U.toNat (Int.ofNat 0))).1 (f (U.toNat (Int.ofNat 0))).2.1 (f (U.toNat (Int.ofNat 0))).2.2.1 (e (U.toNat
      (Int.ofNat 0))).1, lk xtStr (f (U.toNat (Int.ofNat 0))).1 (f (U.toNat (Int.ofNat 0))).2.1 (f (U.toNat (Int.ofNat 0))).2.2.1 (e (U.toNat (Int.ofNat 0))).1, PUnit.unit)) fun x => (lk
      xtLow (f (U.toNat (Int.ofNat 1))).1 (f (U.toNat (Int.ofNat 1))).2.1 (f (U.toNat (Int.ofNat 1))).2.2.1 (e (U.toNat (Int.ofNat 1))).1, lk xtHigh (f (U.toNat (Int.ofNat 1))).1 (f
      (U.toNat (Int.ofNat 1))).2.1 (f (U.toNat (Int.ofNat 1))).2.2.1 (e (U.toNat (Int.ofNat 1))).1, lk xtStr (f (U.toNat (Int.ofNat 1))).1 (f (U.toNat (Int.ofNat 1))).2.1 (f (U.toNat
      (Int.ofNat 1))).2.2.1 (e (U.toNat (Int.ofNat 1))).1, PUnit.unit)), .lit (.int .i64 k), .lit (.int .i64 s), .lit (.int .i64 h)], .lit (.int .i64 0)]))))))) (.ask (((1 : Nat) + (1 :
      Nat)) * nat_lit 24 ≤ nat_lit 140737488351232) (.br (U.lt (2 : Int) (Int.ofNat m)) (.ask ((0 : Int) ≤ (2 : Int) ∧ (2 : Int) < ↑n) (.ask ((0 : Int) ≤ (2 : Int) ∧ (2 : Int) < ↑m) (.br
      (U.ne (e (U.toNat (Int.ofNat 2))).1 (0 : Int)) (.ask ((0 : Int) ≤ (2 : Int) ∧ (2 : Int) < ↑m) (.ask (I64 (f (U.toNat (Int.ofNat 2))).1 ∧ I64 (f (U.toNat (Int.ofNat 2))).2.1 ∧ I64 (f
      (U.toNat (Int.ofNat 2))).2.2.1 ∧ I64 (e (U.toNat (Int.ofNat 2))).1) (.br (U.ne (lk xtE (f (U.toNat (Int.ofNat 2))).1 (f (U.toNat (Int.ofNat 2))).2.1 (f (U.toNat (Int.ofNat
      2))).2.2.1 (e (U.toNat (Int.ofNat 2))).1) (0 : Int)) (.ret (.tup [.agg [.lit (.slice none (nat_lit 0) (nat_lit 0)), .lit (.int .i64 0), .lit (.int .i64 0), .lit (.int .i64 0)], .lit
      (.int .i64 (lk xtE (f (U.toNat (Int.ofNat 2))).1 (f (U.toNat (Int.ofNat 2))).2.1 (f (U.toNat (Int.ofNat 2))).2.2.1 (e (U.toNat (Int.ofNat 2))).1))])) (.ask (((1 : Nat) + (1 : Nat) +
      (1 : Nat)) * nat_lit 24 ≤ nat_lit 140737488351232) (.stuck (nat_lit 105)))))) (.ask (((1 : Nat) + (1 : Nat) + (1 : Nat)) * nat_lit 24 ≤ nat_lit 140737488351232) (.stuck (nat_lit
      105)))))) (.ret (.tup [.agg [.row [.int .i64, .int .i64, .int .i64] (nat_lit 2) (U.cat (nat_lit 1) (fun x => (lk xtLow (f (U.toNat (Int.ofNat 0))).1 (f (U.toNat (Int.ofNat 0))).2.1
      (f (U.toNat (Int.ofNat 0))).2.2.1 (e (U.toNat (Int.ofNat 0))).1, lk xtHigh (f (U.toNat (Int.ofNat 0))).1 (f (U.toNat (Int.ofNat 0))).2.1 (f (U.toNat (Int.ofNat 0))).2.2.1 (e
      (U.toNat (Int.ofNat 0))).1, lk xtStr (f (U.toNat (Int.ofNat 0))).1 (f (U.toNat (Int.ofNat 0))).2.1 (f (U.toNat (Int.ofNat 0))).2.2.1 (e (U.toNat (Int.ofNat 0))).1, PUnit.unit)) fun
      x => ((f (U.toNat (Int.ofNat 1))).1, (f (U.toNat (Int.ofNat 1))).2.1, (f (U.toNat (Int.ofNat 1))).2.2.1, PUnit.unit)), .lit (.int .i64 k), .lit (.int .i64 s), .lit (.int .i64 h)],
      .lit (.int .i64 0)]))))))) (.ret (.tup [.agg [.row [.int .i64, .int .i64, .int .i64] (nat_lit 1) fun x => (lk xtLow (f (U.toNat (Int.ofNat 0))).1 (f (U.toNat (Int.ofNat 0))).2.1 (f
      (U.toNat (Int.ofNat 0))).2.2.1 (e (U.toNat (Int.ofNat 0))).1, lk xtHigh (f (U.toNat (Int.ofNat 0))).1 (f (U.toNat (Int.ofNat 0))).2.1 (f (U.toNat (Int.ofNat 0))).2.2.1 (e (U.toNat
      (Int.ofNat 0))).1, lk xtStr (f (U.toNat (Int.ofNat 0))).1 (f (U.toNat (Int.ofNat 0))).2.1 (f (U.toNat (Int.ofNat 0))).2.2.1 (e (U.toNat (Int.ofNat 0))).1, PUnit.unit), .lit (.int
      .i64 k), .lit (.int .i64 s), .lit (.int .i64 h)], .lit (.int .i64 0)]))))))) (.ask ((1 : Nat) * nat_lit 24 ≤ nat_lit 140737488351232) (.br (U.lt (1 : Int) (Int.ofNat m)) (.ask ((0 :
      Int) ≤ (1 : Int) ∧ (1 : Int) < ↑n) (.ask ((0 : Int) ≤ (1 : Int) ∧ (1 : Int) < ↑m) (.br (U.ne (e (U.toNat (Int.ofNat 1))).1 (0 : Int)) (.ask ((0 : Int) ≤ (1 : Int) ∧ (1 : Int) < ↑m)
      (.ask (I64 (f (U.toNat (Int.ofNat 1))).1 ∧ I64 (f (U.toNat (Int.ofNat 1))).2.1 ∧ I64 (f (U.toNat (Int.ofNat 1))).2.2.1 ∧ I64 (e (U.toNat (Int.ofNat 1))).1) (.br (U.ne (lk xtE (f
      (U.toNat (Int.ofNat 1))).1 (f (U.toNat (Int.ofNat 1))).2.1 (f (U.toNat (Int.ofNat 1))).2.2.1 (e (U.toNat (Int.ofNat 1))).1) (0 : Int)) (.ret (.tup [.agg [.lit (.slice none (nat_lit
      0) (nat_lit 0)), .lit (.int .i64 0), .lit (.int .i64 0), .lit (.int .i64 0)], .lit (.int .i64 (lk xtE (f (U.toNat (Int.ofNat 1))).1 (f (U.toNat (Int.ofNat 1))).2.1 (f (U.toNat
      (Int.ofNat 1))).2.2.1 (e (U.toNat (Int.ofNat 1))).1))])) (.ask (((1 : Nat) + (1 : Nat)) * nat_lit 24 ≤ nat_lit 140737488351232) (.br (U.lt (2 : Int) (Int.ofNat m)) (.ask ((0 : Int)
      ≤ (2 : Int) ∧ (2 : Int) < ↑n) (.ask ((0 : Int) ≤ (2 : Int) ∧ (2 : Int) < ↑m) (.br (U.ne (e (U.toNat (Int.ofNat 2))).1 (0 : Int)) (.ask ((0 : Int) ≤ (2 : Int) ∧ (2 : Int) < ↑m) (.ask
      (I64 (f (U.toNat (Int.ofNat 2))).1 ∧ I64 (f (U.toNat (Int.ofNat 2))).2.1 ∧ I64 (f (U.toNat (Int.ofNat 2))).2.2.1 ∧ I64 (e (U.toNat (Int.ofNat 2))).1) (.br (U.ne (lk xtE (f (U.toNat
      (Int.ofNat 2))).1 (f (U.toNat (Int.ofNat 2))).2.1 (f (U.toNat (Int.ofNat 2))).2.2.1 (e (U.toNat (Int.ofNat 2))).1) (0 : Int)) (.ret (.tup [.agg [.lit (.slice none (nat_lit 0)
      (nat_lit 0)), .lit (.int .i64 0), .lit (.int .i64 0), .lit (.int .i64 0)], .lit (.int .i64 (lk xtE (f (U.toNat (Int.ofNat 2))).1 (f (U.toNat (Int.ofNat 2))).2.1 (f (U.toNat
      (Int.ofNat 2))).2.2.1 (e (U.toNat (Int.ofNat 2))).1))])) (.ask (((1 : Nat) + (1 : Nat) + (1 : Nat)) * nat_lit 24 ≤ nat_lit 140737488351232) (.stuck (nat_lit 105)))))) (.ask (((1 :
      Nat) + (1 : Nat) + (1 : Nat)) * nat_lit 24 ≤ nat_lit 140737488351232) (.stuck (nat_lit 105)))))) (.ret (.tup [.agg [.row [.int .i64, .int .i64, .int .i64] (nat_lit 2) (U.cat
      (nat_lit 1) (fun x => ((f (U.toNat (Int.ofNat 0))).1, (f (U.toNat (Int.ofNat 0))).2.1, (f (U.toNat (Int.ofNat 0))).2.2.1, PUnit.unit)) fun x => (lk xtLow (f (U.toNat (Int.ofNat
      1))).1 (f (U.toNat (Int.ofNat 1))).2.1 (f (U.toNat (Int.ofNat 1))).2.2.1 (e (U.toNat (Int.ofNat 1))).1, lk xtHigh (f (U.toNat (Int.ofNat 1))).1 (f (U.toNat (Int.ofNat 1))).2.1 (f
      (U.toNat (Int.ofNat 1))).2.2.1 (e (U.toNat (Int.ofNat 1))).1, lk xtStr (f (U.toNat (Int.ofNat 1))).1 (f (U.toNat (Int.ofNat 1))).2.1 (f (U.toNat (Int.ofNat 1))).2.2.1 (e (U.toNat
      (Int.ofNat 1))).1, PUnit.unit)), .lit (.int .i64 k), .lit (.int .i64 s), .lit (.int .i64 h)], .lit (.int .i64 0)]))))))) (.ask (((1 : Nat) + (1 : Nat)) * nat_lit 24 ≤ nat_lit
      140737488351232) (.br (U.lt (2 : Int) (Int.ofNat m)) (.ask ((0 : Int) ≤ (2 : Int) ∧ (2 : Int) < ↑n) (.ask ((0 : Int) ≤ (2 : Int) ∧ (2 : Int) < ↑m) (.br (U.ne (e (U.toNat (Int.ofNat
      2))).1 (0 : Int)) (.ask ((0 : Int) ≤ (2 : Int) ∧ (2 : Int) < ↑m) (.ask (I64 (f (U.toNat (Int.ofNat 2))).1 ∧ I64 (f (U.toNat (Int.ofNat 2))).2.1 ∧ I64 (f (U.toNat (Int.ofNat
      2))).2.2.1 ∧ I64 (e (U.toNat (Int.ofNat 2))).1) (.br (U.ne (lk xtE (f (U.toNat (Int.ofNat 2))).1 (f (U.toNat (Int.ofNat 2))).2.1 (f (U.toNat (Int.ofNat 2))).2.2.1 (e (U.toNat
      (Int.ofNat 2))).1) (0 : Int)) (.ret (.tup [.agg [.lit (.slice none (nat_lit 0) (nat_lit 0)), .lit (.int .i64 0), .lit (.int .i64 0), .lit (.int .i64 0)], .lit (.int .i64 (lk xtE (f
      (U.toNat (Int.ofNat 2))).1 (f (U.toNat (Int.ofNat 2))).2.1 (f (U.toNat (Int.ofNat 2))).2.2.1 (e (U.toNat (Int.ofNat 2))).1))])) (.ask (((1 : Nat) + (1 : Nat) + (1 : Nat)) * nat_lit
      24 ≤ nat_lit 140737488351232) (.stuck (nat_lit 105)))))) (.ask (((1 : Nat) + (1 : Nat) + (1 : Nat)) * nat_lit 24 ≤ nat_lit 140737488351232) (.stuck (nat_lit 105)))))) (.ret (.tup
      [.agg [.row [.int .i64, .int .i64, .int .i64] (nat_lit 2) (U.cat (nat_lit 1) (fun x => ((f (U.toNat (Int.ofNat 0))).1, (f (U.toNat (Int.ofNat 0))).2.1, (f (U.toNat (Int.ofNat
      0))).2.2.1, PUnit.unit)) fun x => ((f (U.toNat (Int.ofNat 1))).1, (f (U.toNat (Int.ofNat 1))).2.1, (f (U.toNat (Int.ofNat 1))).2.2.1, PUnit.unit)), .lit (.int .i64 k), .lit (.int
      .i64 s), .lit (.int .i64 h)], .lit (.int .i64 0)]))))))) (.ret (.tup [.agg [.row [.int .i64, .int .i64, .int .i64] (nat_lit 1) fun x => ((f (U.toNat (Int.ofNat 0))).1, (f (U.toNat
      (Int.ofNat 0))).2.1, (f (U.toNat (Int.ofNat 0))).2.2.1, PUnit.unit), .lit (.int .i64 k), .lit (.int .i64 s), .lit (.int .i64 h)], .lit (.int .i64 0)]))))))) (.ret (.tup [.agg [.lit
      (.slice none (nat_lit 0) (nat_lit 0)), .lit (.int .i64 k), .lit (.int .i64 s), .lit (.int .i64 h)], .lit (.int .i64 0)]))))) := by kernel_rfl
theorem qDExterior_ok (h12 : ∀ p ∈ d12, ConOK P p.1 p.2) (hl : ∀ p ∈ lqCh, LoopsOK P p.2 (bodyOf P p.1)) : ConOK P 97 (c_chg 3) := con_cl (allOKL mixed h12 hl) 10 97 fun args r h => by
  unfold c_chg at h
  split at h
  · rename_i n f k s h' m e
    obtain ⟨hp, hq⟩ := (T.is_ask h).1
    have h := (T.is_ask h).2
    obtain rfl := T.is_ret h
    rw [t_qDExterior]
    simp only [tn, lk_eq]
    simp only [Int.ofNat_eq_natCast]
    by_cases c : chD n f k s h' = 0
    · by_cases q : m = n
      · subst q
        have hn := (chD_zero.1 c).1.1
        have hI : ∀ i, i < m → I64 (f i).1 ∧ I64 (f i).2.1 ∧ I64 (f i).2.2.1 ∧ I64 (e i).1 := fun i hi => ⟨(hp i hi).1, (hp i hi).2.1, (hp i hi).2.2, hq i hi⟩
        have hI0 := hI 0 (by omega)
        rcases hn with rfl | rfl
        · by_cases Z0 : @Eq Int (e 0).1 0
          · simp [T.All, U.ne_eq, U.eq_eq, U.lt_eq, hp, hI0, hI0, c, Z0, eqT Z0, neF Z0]
            refine chg_ok (chgE_4 (w := 3) c (opEz3 (f 0) Z0)) rfl fun i hi => ?_
            obtain rfl := one_of hi
            exact (opFz3 (f 0) Z0).symm
          · by_cases E0 : xtE (f 0).1 (f 0).2.1 (f 0).2.2.1 (e 0).1 = 0
            · simp [T.All, U.ne_eq, U.eq_eq, U.lt_eq, hp, hI0, hI0, c, Z0, E0, eqF Z0, neT Z0]
              refine chg_ok (chgE_4 (w := 3) c ((opEn3 (f 0) Z0).trans E0)) rfl fun i hi => ?_
              obtain rfl := one_of hi
              exact (opFn3 (f 0) Z0).symm
            · simp [T.All, U.ne_eq, U.eq_eq, U.lt_eq, hp, hI0, hI0, c, Z0, E0, eqF Z0, neT Z0]
              exact chg_err (chgE_3 (w := 3) c (opEn3 (f 0) Z0) E0) E0
        · have hI1 := hI 1 (by omega)
          by_cases Z0 : @Eq Int (e 0).1 0
          · by_cases Z1 : @Eq Int (e 1).1 0
            · simp [T.All, U.ne_eq, U.eq_eq, U.lt_eq, hp, hI0, hI1, c, Z0, eqT Z0, neF Z0, Z1, eqT Z1, neF Z1]
              refine chg_ok (chgE_5 (w := 3) c (opEz3 (f 0) Z0) (opEz3 (f 1) Z1)) rfl fun i hi => ?_
              rcases two_of hi with rfl | rfl
              · exact (cat_l (by omega)).trans (opFz3 (f 0) Z0).symm
              · exact (cat_r (by omega)).trans (opFz3 (f 1) Z1).symm
            · by_cases E1 : xtE (f 1).1 (f 1).2.1 (f 1).2.2.1 (e 1).1 = 0
              · simp [T.All, U.ne_eq, U.eq_eq, U.lt_eq, hp, hI0, hI1, c, Z0, eqT Z0, neF Z0, Z1, E1, eqF Z1, neT Z1]
                refine chg_ok (chgE_5 (w := 3) c (opEz3 (f 0) Z0) ((opEn3 (f 1) Z1).trans E1)) rfl fun i hi => ?_
                rcases two_of hi with rfl | rfl
                · exact (cat_l (by omega)).trans (opFz3 (f 0) Z0).symm
                · exact (cat_r (by omega)).trans (opFn3 (f 1) Z1).symm
              · simp [T.All, U.ne_eq, U.eq_eq, U.lt_eq, hp, hI0, hI1, c, Z0, eqT Z0, neF Z0, Z1, E1, eqF Z1, neT Z1]
                exact chg_err (chgE_5 (w := 3) c (opEz3 (f 0) Z0) (opEn3 (f 1) Z1)) E1
          · by_cases E0 : xtE (f 0).1 (f 0).2.1 (f 0).2.2.1 (e 0).1 = 0
            · by_cases Z1 : @Eq Int (e 1).1 0
              · simp [T.All, U.ne_eq, U.eq_eq, U.lt_eq, hp, hI0, hI1, c, Z0, E0, eqF Z0, neT Z0, Z1, eqT Z1, neF Z1]
                refine chg_ok (chgE_5 (w := 3) c ((opEn3 (f 0) Z0).trans E0) (opEz3 (f 1) Z1)) rfl fun i hi => ?_
                rcases two_of hi with rfl | rfl
                · exact (cat_l (by omega)).trans (opFn3 (f 0) Z0).symm
                · exact (cat_r (by omega)).trans (opFz3 (f 1) Z1).symm
              · by_cases E1 : xtE (f 1).1 (f 1).2.1 (f 1).2.2.1 (e 1).1 = 0
                · simp [T.All, U.ne_eq, U.eq_eq, U.lt_eq, hp, hI0, hI1, c, Z0, E0, eqF Z0, neT Z0, Z1, E1, eqF Z1, neT Z1]
                  refine chg_ok (chgE_5 (w := 3) c ((opEn3 (f 0) Z0).trans E0) ((opEn3 (f 1) Z1).trans E1)) rfl fun i hi => ?_
                  rcases two_of hi with rfl | rfl
                  · exact (cat_l (by omega)).trans (opFn3 (f 0) Z0).symm
                  · exact (cat_r (by omega)).trans (opFn3 (f 1) Z1).symm
                · simp [T.All, U.ne_eq, U.eq_eq, U.lt_eq, hp, hI0, hI1, c, Z0, E0, eqF Z0, neT Z0, Z1, E1, eqF Z1, neT Z1]
                  exact chg_err (chgE_5 (w := 3) c ((opEn3 (f 0) Z0).trans E0) (opEn3 (f 1) Z1)) E1
            · simp [T.All, U.ne_eq, U.eq_eq, U.lt_eq, hp, hI0, hI1, c, Z0, E0, eqF Z0, neT Z0]
              exact chg_err (chgE_3 (w := 3) c (opEn3 (f 0) Z0) E0) E0
      · have q' : ¬ ((m : Int) = (n : Int)) := by omega
        simp [T.All, U.ne_eq, hp, c, q']
        exact chg_err (chgE_2 (w := 3) c q) (by omega)
    · simp [T.All, U.ne_eq, hp, c]
      exact chg_err (chgE_1 (w := 3) c) c
  · exact h.elim
end Go.RX.Span

/- Domains: what the law of changes returns. -/
set_option linter.unusedVariables false
set_option linter.unusedSimpArgs false
set_option maxRecDepth 100000
namespace Go.RX.Span
open Go Go.RX
attribute [local irreducible] sx conB

theorem d12_ok : ∀ p ∈ d12, ConOK P p.1 p.2 := by
  intro p hp
  simp only [d12, List.mem_cons] at hp
  rcases hp with rfl | rfl | rfl | rfl | rfl | rfl | rfl | rfl | hp
  · exact Translate_ok
  · exact rTranslate_ok
  · exact Expand_ok
  · exact rExpand_ok
  · exact Interior_ok
  · exact rInterior_ok
  · exact Exterior_ok
  · exact rExterior_ok
  · exact d11_ok p (by simpa [d11] using hp)
theorem lCh_ok : ∀ p ∈ lCh, LoopsOK P p.2 (bodyOf P p.1) := by
  intro p hp
  simp only [lCh, List.mem_singleton] at hp
  subst hp
  exact loopsOK_un fun q hq => by simp only [List.mem_singleton] at hq; subst hq; exact ⟨3, rfl⟩
theorem lqCh_ok : ∀ p ∈ lqCh, LoopsOK P p.2 (bodyOf P p.1) := by
  intro p hp
  simp only [lqCh, List.mem_singleton] at hp
  subst hp
  exact loopsOK_un fun q hq => by simp only [List.mem_singleton] at hq; subst hq; exact ⟨3, rfl⟩
noncomputable abbrev d13 : List (Nat × Con) := (90, c_chg 0) :: (91, c_chg 0) :: (92, c_chg 1) :: (93, c_chg 1) :: (94, c_chg 2) :: (95, c_chg 2) :: (96, c_chg 3) :: (97, c_chg 3) :: d11 --%K
theorem d13_ok : ∀ p ∈ d13, ConOK P p.1 p.2 := by
  intro p hp
  simp only [d13, List.mem_cons] at hp
  rcases hp with rfl | rfl | rfl | rfl | rfl | rfl | rfl | rfl | hp
  · exact DTranslate_ok d12_ok lCh_ok
  · exact qDTranslate_ok d12_ok lqCh_ok
  · exact DExpand_ok d12_ok lCh_ok
  · exact qDExpand_ok d12_ok lqCh_ok
  · exact DInterior_ok d12_ok lCh_ok
  · exact qDInterior_ok d12_ok lqCh_ok
  · exact DExterior_ok d12_ok lCh_ok
  · exact qDExterior_ok d12_ok lqCh_ok
  · exact d11_ok p (by simpa [d11] using hp)
end Go.RX.Span

/- The law of parts: its functions. -/
set_option linter.unusedVariables false
set_option linter.unusedSimpArgs false
set_option maxRecDepth 100000
namespace Go.RX.Span
open Go Go.RX
attribute [local irreducible] sx conB

noncomputable abbrev d18 : List (Nat × Con) := (104, c_Neg) :: (45, c_Min) :: (69, c_Any) :: (98, c_Dsmall) :: (65, c_DWithin) :: (66, c_DSame) :: (90, c_chg 0) :: (92, c_chg 1) :: (94, c_chg 2) :: (96, c_chg 3) :: d11 --%K
noncomputable abbrev l180 : Loops := [(32, .un 3)]
end Go.RX.Span

/- Ranges moved, in plain Lean. -/
set_option linter.unusedVariables false
set_option linter.unusedSimpArgs false
namespace Go.RX.Span
open Go Go.RX

/-- A right range out of a series upwards. -/
theorem right_mk {f s C c : Int} (hs : 1 ≤ s) (hC : 1 ≤ C) (hl : -1000000 ≤ f) (hh : f + s * (C - 1) ≤ 1000000) (hc : c = s ∨ c = -s) (h1 : C = 1 → c = 1) :
    Right f (f + s * (C - 1)) c ∧ ofC f (f + s * (C - 1)) c = C ∧ f ≤ f + s * (C - 1) := by
  by_cases hC1 : C = 1
  · subst hC1
    rw [show s * (1 - 1) = 0 by simp] at hh ⊢
    rw [h1 rfl]
    refine ⟨⟨by omega, .inr (.inl ⟨by omega, rfl⟩)⟩, ?_, by omega⟩
    unfold ofC
    rw [if_neg (by omega), if_neg (by omega), show f + 0 - f = 0 by omega]; rfl
  · have hm := mulle (s := s) (x := 1) (y := C - 1) hs (by omega)
    rw [Int.mul_one] at hm
    have e : f + s * (C - 1) - f = s * (C - 1) := by omega
    have hd : c ∣ s * (C - 1) := by
      rcases hc with rfl | rfl
      · exact Int.dvd_mul_right _ _
      · exact Int.neg_dvd.2 (Int.dvd_mul_right _ _)
    refine ⟨⟨by omega, .inr (.inr ⟨by omega, by omega, by rw [e]; exact Int.emod_eq_zero_of_dvd hd⟩)⟩, ?_, by omega⟩
    unfold ofC
    rw [if_neg (by omega), e]
    rcases hc with rfl | rfl
    · rw [if_neg (by omega), Int.mul_ediv_cancel_left _ (by omega)]; omega
    · rw [if_pos (by omega), Int.neg_neg, Int.mul_ediv_cancel_left _ (by omega)]; omega

section
variable {a b c n : Int}
theorem right_b (hr : Right a b c) (hab : a ≤ b) : b = a + absI c * (ofC a b c - 1) := by
  obtain ⟨p1, p2, p3, p4, p5, p6, p7, p8, p9, p10⟩ := parts hr hab; omega
theorem right_one (hr : Right a b c) (hab : a ≤ b) : ofC a b c = 1 → c = 1 := fun h => by
  obtain ⟨p1, p2, p3, p4, p5, p6, p7, p8, p9, p10⟩ := parts hr hab
  rw [h, Int.sub_self, Int.mul_zero] at p5
  exact p10 (by omega)
/-- A moved series that is right. -/
theorem mv_val {f s C c : Int} (hs : 1 ≤ s) (hC : 1 ≤ C) (hc : c = s ∨ c = -s) (h1 : C = 1 → c = 1) (hE : mvE f s C = 0) :
    mvLow f s C = f ∧ mvHigh f s C = f + s * (C - 1) ∧ mvStr f s C c = c ∧ Right f (f + s * (C - 1)) c ∧ ofC f (f + s * (C - 1)) c = C ∧ f ≤ f + s * (C - 1) := by
  have hl : (-1000000 ≤ f ∧ f ≤ 1000000) ∧ (-1000000 ≤ f + s * (C - 1) ∧ f + s * (C - 1) ≤ 1000000) := by
    unfold mvE at hE
    rw [if_neg (by omega)] at hE
    refine Classical.byContradiction fun h => ?_
    rw [if_neg h] at hE; omega
  have hn : ¬ C ≤ 0 := by omega
  refine ⟨by unfold mvLow; rw [if_neg hn, if_pos hE], by unfold mvHigh; rw [if_neg hn, if_pos hE], ?_, right_mk hs hC hl.1.1 hl.2.2 hc h1⟩
  unfold mvStr
  rw [if_neg hn, if_pos hE]
  split
  · rename_i h; exact (h1 h).symm
  · rcases hc with rfl | rfl
    · rw [if_neg (by omega)]
    · rw [if_pos (by omega)]
theorem mvE_zero {f s C : Int} (hl : -1000000 ≤ f ∧ f ≤ 1000000) (hh : -1000000 ≤ f + s * (C - 1) ∧ f + s * (C - 1) ≤ 1000000) : mvE f s C = 0 := by
  unfold mvE; split
  · rfl
  · rw [if_pos ⟨hl, hh⟩]

theorem tr_val (hr : Right a b c) (hab : a ≤ b) (h0 : -2000000 ≤ n) (h1 : n ≤ 2000000) : trE a b c n = mvE (a + n) (absI c) (ofC a b c) ∧ (trE a b c n = 0 → trLow a b c n = a + n ∧ trHigh a b c n = b + n ∧ trStr a b c n = c ∧ Right (a + n) (b + n) c) := by
  obtain ⟨p1, p2, p3, p4, p5, p6, p7, p8, p9, p10⟩ := parts hr hab
  have hk : ¬ chk a b c ≠ 0 := by simp [chk_zero.2 hr]
  have hm : max n (-3000000) = n := by omega
  have hE : trE a b c n = mvE (a + n) (absI c) (ofC a b c) := by
    unfold trE; rw [if_neg hk, if_neg (by omega), if_neg (by omega), hm]
  refine ⟨hE, fun h => ?_⟩
  rw [hE] at h
  obtain ⟨m1, m2, m3, m4, m5, m6⟩ := mv_val (c := c) p1 (by omega) p8 (right_one hr hab) h
  have eb : a + n + absI c * (ofC a b c - 1) = b + n := by omega
  rw [eb] at m2 m4
  unfold trLow trHigh trStr
  rw [if_neg hk, if_neg hk, if_neg hk, if_neg (show ¬ a > b by omega), if_neg (show ¬ a > b by omega), if_neg (show ¬ a > b by omega), if_neg (show ¬ n > 2000000 by omega), if_neg (show ¬ n > 2000000 by omega), if_neg (show ¬ n > 2000000 by omega), hm]
  exact ⟨m1, m2, m3, m4⟩
theorem ofC_add (hr : Right a b c) (hab : a ≤ b) (r : Right (a + n) (b + n) c) : ofC (a + n) (b + n) c = ofC a b c ∧ ∀ k, num (a + n) (b + n) c k = num a b c k + n := by
  obtain ⟨p1, p2, p3, p4, p5, p6, p7, p8, p9, p10⟩ := parts hr hab
  obtain ⟨q1, q2, q3, q4, q5, q6, q7, q8, q9, q10⟩ := parts r (by omega)
  refine ⟨?_, fun k => ?_⟩
  · have e : absI c * (ofC (a + n) (b + n) c - 1) = absI c * (ofC a b c - 1) := by omega
    have := Int.eq_of_mul_eq_mul_left (by omega) e
    omega
  · rw [num_eq r (by omega), num_eq hr hab]
    split <;> omega
theorem ex_val (hr : Right a b c) (hab : a ≤ b) (h1 : n ≤ 2000000) (h2 : 1 ≤ ofC a b c + 2 * n) (hn : c = 1 ∨ 2 ≤ ofC a b c + 2 * n) : exE a b c n = mvE (a - n * absI c) (absI c) (ofC a b c + 2 * n) ∧
    (exE a b c n = 0 → exLow a b c n = a - n * absI c ∧ exHigh a b c n = b + n * absI c ∧ exStr a b c n = c ∧ Right (a - n * absI c) (b + n * absI c) c ∧ ofC (a - n * absI c) (b + n * absI c) c = ofC a b c + 2 * n ∧ a - n * absI c ≤ b + n * absI c) := by
  obtain ⟨p1, p2, p3, p4, p5, p6, p7, p8, p9, p10⟩ := parts hr hab
  have hk : ¬ chk a b c ≠ 0 := by simp [chk_zero.2 hr]
  have hC : exC a b c n = ofC a b c + 2 * n := by unfold exC; rw [if_neg (by omega)]; omega
  have hE : exE a b c n = mvE (a - n * absI c) (absI c) (ofC a b c + 2 * n) := by
    unfold exE; rw [if_neg hk, if_neg (by omega), if_neg (by omega), hC]
  refine ⟨hE, fun h => ?_⟩
  rw [hE] at h
  obtain ⟨m1, m2, m3, m4, m5, m6⟩ := mv_val (c := c) p1 (by omega) p8 (fun e => by omega) h
  have eb : a - n * absI c + absI c * (ofC a b c + 2 * n - 1) = b + n * absI c := by
    have : absI c * (ofC a b c + 2 * n - 1) = absI c * (ofC a b c - 1) + 2 * (n * absI c) := by grind
    omega
  rw [eb] at m2 m4 m5 m6
  unfold exLow exHigh exStr
  rw [if_neg hk, if_neg hk, if_neg hk, if_neg (show ¬ a > b by omega), if_neg (show ¬ a > b by omega), if_neg (show ¬ a > b by omega), if_neg (show ¬ n > 2000000 by omega), if_neg (show ¬ n > 2000000 by omega), if_neg (show ¬ n > 2000000 by omega), hC]
  exact ⟨m1, m2, m3, m4, m5, m6⟩
theorem ex_back (hr : Right a b c) (hab : a ≤ b) (h0 : 0 ≤ n) (h1 : n ≤ 400) (r : Right (a - n * absI c) (b + n * absI c) c) (rC : ofC (a - n * absI c) (b + n * absI c) c = ofC a b c + 2 * n) (rl : a - n * absI c ≤ b + n * absI c) :
    exE (a - n * absI c) (b + n * absI c) c (-n) = 0 ∧ exLow (a - n * absI c) (b + n * absI c) c (-n) = a ∧ exHigh (a - n * absI c) (b + n * absI c) c (-n) = b ∧ exStr (a - n * absI c) (b + n * absI c) c (-n) = c := by
  obtain ⟨p1, p2, p3, p4, p5, p6, p7, p8, p9, p10⟩ := parts hr hab
  have hl := hr.1
  obtain ⟨t1, t2⟩ := ex_val r rl (n := -n) (by omega) (by omega) (by
    by_cases h : ofC a b c = 1
    · exact .inl (right_one hr hab h)
    · exact .inr (by omega))
  have en : -n * absI c = -(n * absI c) := Int.neg_mul _ _
  have e : exE (a - n * absI c) (b + n * absI c) c (-n) = 0 := by
    rw [t1, rC, en, show a - n * absI c - -(n * absI c) = a by omega, show ofC a b c + 2 * n + 2 * -n = ofC a b c by omega]
    exact mvE_zero (by omega) (by omega)
  obtain ⟨g1, g2, g3, _⟩ := t2 e
  rw [en] at g1 g2
  exact ⟨e, by omega, by omega, g3⟩
end
end Go.RX.Span

/- Ranges' parts, and their numbers in order, in plain Lean. -/
set_option linter.unusedVariables false
set_option linter.unusedSimpArgs false
namespace Go.RX.Span
open Go Go.RX

/-- The stride of so many numbers. -/
def strOf (C c : Int) : Int := if C = 1 then 1 else c
theorem right_mk' {f s C c : Int} (hs : 1 ≤ s) (hC : 1 ≤ C) (hl : -1000000 ≤ f) (hh : f + s * (C - 1) ≤ 1000000) (hc : c = s ∨ c = -s) :
    Right f (f + s * (C - 1)) (strOf C c) ∧ ofC f (f + s * (C - 1)) (strOf C c) = C ∧ f ≤ f + s * (C - 1) ∧ ∀ m, RIn f (f + s * (C - 1)) (strOf C c) m ↔ SIn f s C m := by
  have key : Right f (f + s * (C - 1)) (strOf C c) ∧ ofC f (f + s * (C - 1)) (strOf C c) = C ∧ f ≤ f + s * (C - 1) := by
    by_cases h : C = 1
    · subst h
      rw [show strOf 1 c = 1 from if_pos rfl]
      have := right_mk (f := f) (s := 1) (C := 1) (c := 1) (by omega) (by omega) hl (by simp at hh ⊢; omega) (.inl rfl) (fun _ => rfl)
      simpa using this
    · rw [show strOf C c = c from if_neg h]
      exact right_mk hs hC hl hh hc (fun e => absurd e h)
  refine ⟨key.1, key.2.1, key.2.2, rin_of hC key.1 key.2.2 rfl key.2.1 fun h => ?_⟩
  rw [show strOf C c = c from if_neg h]
  rcases hc with rfl | rfl
  · exact absI_pos (by omega)
  · rw [absI_neg (by omega)]; omega
theorem mv_str {f s C c : Int} (hC : 1 ≤ C) (hc : c = s ∨ c = -s) (hs : 1 ≤ s) (hE : mvE f s C = 0) : mvLow f s C = f ∧ mvHigh f s C = f + s * (C - 1) ∧ mvStr f s C c = strOf C c ∧ -1000000 ≤ f ∧ f + s * (C - 1) ≤ 1000000 := by
  have hl : (-1000000 ≤ f ∧ f ≤ 1000000) ∧ (-1000000 ≤ f + s * (C - 1) ∧ f + s * (C - 1) ≤ 1000000) := by
    unfold mvE at hE
    rw [if_neg (by omega)] at hE
    refine Classical.byContradiction fun h => ?_
    rw [if_neg h] at hE; omega
  have hn : ¬ C ≤ 0 := by omega
  refine ⟨by unfold mvLow; rw [if_neg hn, if_pos hE], by unfold mvHigh; rw [if_neg hn, if_pos hE], ?_, hl.1.1, hl.2.2⟩
  unfold mvStr strOf
  rw [if_neg hn, if_pos hE]
  rcases hc with rfl | rfl
  · rw [if_neg (show ¬ c < 0 by omega)]
  · rw [if_pos (show -s < 0 by omega)]

section
variable {a b c n : Int}
theorem rin_sin (hr : Right a b c) (hab : a ≤ b) (m : Int) : RIn a b c m ↔ SIn a (absI c) (ofC a b c) m := by
  obtain ⟨p1, p2, p3, p4, p5, p6, p7, p8, p9, p10⟩ := parts hr hab
  exact rin_of (by omega) hr hab rfl rfl (fun _ => rfl) m
/-- A wider range has the numbers. -/
theorem ex_within (hr : Right a b c) (hab : a ≤ b) (h0 : 0 ≤ n) (r : Right (a - n * absI c) (b + n * absI c) c) (rC : ofC (a - n * absI c) (b + n * absI c) c = ofC a b c + 2 * n) (rl : a - n * absI c ≤ b + n * absI c) :
    wiB a b c (a - n * absI c) (b + n * absI c) c = true := by
  obtain ⟨p1, p2, p3, p4, p5, p6, p7, p8, p9, p10⟩ := parts hr hab
  refine (wi_set hr r).2 fun m hm => ?_
  rw [rin_sin hr hab] at hm
  rw [rin_sin r rl, rC]
  obtain ⟨h1, h2, h3, p, rfl⟩ := hm
  have hns : 0 ≤ n * absI c := Int.mul_nonneg h0 (by omega)
  refine ⟨by omega, ?_, by omega, p + n, by grind⟩
  have e : a - n * absI c + absI c * (ofC a b c + 2 * n - 1) = a + absI c * (ofC a b c - 1) + n * absI c := by grind
  omega
/-! The numbers in order. -/
theorem szN_eq (hr : Right a b c) : szN a b c = (ofC a b c).toNat := by unfold szN; rw [size_eq' hr]
end
end Go.RX.Span

/- Changes of a range whose stride is above 0, in plain Lean. -/
set_option linter.unusedVariables false
set_option linter.unusedSimpArgs false
namespace Go.RX.Span
open Go Go.RX

def mkR (a b c : Int) : R3 := (a, b, c, ())
/-- A range with numbers, whose stride is above 0. -/
def RP (r : R3) : Prop := RR r ∧ rA r ≤ rB r
section
variable {a b c v : Int}
/-- The part outside. -/
theorem xt_out (hr : Right a b c) (hab : a ≤ b) (hc : 0 < c) (hv : v ≠ 0) (h1 : -400 ≤ v) (h2 : v ≤ 400) (hE : xtE a b c v = 0) :
    Right (xtLow a b c v) (xtHigh a b c v) (xtStr a b c v) ∧ 0 < xtStr a b c v ∧ ∀ m, RIn (xtLow a b c v) (xtHigh a b c v) (xtStr a b c v) m → ¬ RIn a b c m := by
  obtain ⟨p1, p2, p3, p4, p5, p6, p7, p8, p9, p10⟩ := parts hr hab
  have hA : absI c = c := absI_pos (by omega)
  have hk : ¬ chk a b c ≠ 0 := by simp [chk_zero.2 hr]
  have hab' : ¬ a > b := by omega
  have hn2 : ¬ v > 2000000 := by omega
  unfold xtE at hE
  unfold xtLow xtHigh xtStr
  simp only [if_neg hk, if_neg hab', if_neg hn2] at hE ⊢
  obtain ⟨C, eC⟩ : ∃ C, C = xtC v := ⟨_, rfl⟩
  obtain ⟨F, eF⟩ : ∃ F, F = xtF a b c v := ⟨_, rfl⟩
  rw [← eC, ← eF] at hE ⊢
  have hC1 : 1 ≤ C := by rw [eC]; unfold xtC; split <;> omega
  obtain ⟨m1, m2, m3, m4, m5⟩ := mv_str (c := c) hC1 p8 p1 hE
  rw [m1, m2, m3]
  obtain ⟨r1, r2, r3, r4⟩ := right_mk' (f := F) (s := absI c) (C := C) (c := c) p1 hC1 m4 m5 p8
  refine ⟨r1, ?_, fun m hm hm' => ?_⟩
  · unfold strOf; split <;> omega
  rw [r4] at hm
  rw [rin_sin hr hab] at hm'
  obtain ⟨g1, g2, _, _⟩ := hm
  obtain ⟨k1, k2, _, _⟩ := hm'
  have e := right_b hr hab
  by_cases h0 : v ≥ 0
  · have : F = b + absI c := by rw [eF]; unfold xtF; rw [if_pos h0]
    omega
  · have e1 : F = a + v * absI c := by rw [eF]; unfold xtF; rw [if_neg h0, show max v (-3000000) = v by omega]
    have e2 : C = -v := by rw [eC]; unfold xtC; rw [if_neg h0, show max v (-3000000) = v by omega]
    have : absI c * (C - 1) = -(v * absI c) - absI c := by rw [e2, Int.mul_sub, Int.mul_one, Int.mul_neg, Int.mul_comm]
    omega
/-- The part inside. -/
theorem in_in (hr : Right a b c) (hab : a ≤ b) (hc : 0 < c) (hv : v ≠ 0) (h1 : -400 ≤ v) (h2 : v ≤ 400) (hE : inE a b c v = 0) :
    Right (inLow a b c v) (inHigh a b c v) (inStr a b c v) ∧ 0 < inStr a b c v ∧ ∀ m, RIn (inLow a b c v) (inHigh a b c v) (inStr a b c v) m → RIn a b c m := by
  obtain ⟨p1, p2, p3, p4, p5, p6, p7, p8, p9, p10⟩ := parts hr hab
  have hA : absI c = c := absI_pos (by omega)
  have hk : ¬ chk a b c ≠ 0 := by simp [chk_zero.2 hr]
  have hin : ¬ (v > ofC a b c ∨ v < -ofC a b c) := fun h => by
    unfold inE at hE; rw [if_neg hk, if_pos h] at hE; omega
  unfold inE at hE
  unfold inLow inHigh inStr
  simp only [if_neg hk, if_neg hin, if_neg hv] at hE ⊢
  obtain ⟨C, eC⟩ : ∃ C, C = absI v := ⟨_, rfl⟩
  obtain ⟨F, eF⟩ : ∃ F, F = inF a b c v := ⟨_, rfl⟩
  rw [← eC, ← eF] at hE ⊢
  have hCv : C = v ∧ 0 < v ∨ C = -v ∧ v < 0 := by
    rcases Int.lt_or_le v 0 with h | h
    · exact .inr ⟨by rw [eC, absI_neg h], h⟩
    · exact .inl ⟨by rw [eC, absI_pos (by omega)], by omega⟩
  have hC1 : 1 ≤ C := by omega
  obtain ⟨m1, m2, m3, m4, m5⟩ := mv_str (c := c) hC1 p8 p1 hE
  rw [m1, m2, m3]
  obtain ⟨r1, r2, r3, r4⟩ := right_mk' (f := F) (s := absI c) (C := C) (c := c) p1 hC1 m4 m5 p8
  refine ⟨r1, ?_, fun m hm => ?_⟩
  · unfold strOf; split <;> omega
  rw [r4] at hm
  rw [rin_sin hr hab]
  obtain ⟨g1, g2, g3, p, rfl⟩ := hm
  rcases hCv with ⟨e, h⟩ | ⟨e, h⟩
  · have e1 : F = a + absI c * (ofC a b c - v) := by rw [eF]; unfold inF; rw [if_pos (by omega)]
    have m0 := mulle (s := absI c) (x := 0) (y := ofC a b c - v) p1 (by omega)
    have e3 : absI c * (ofC a b c - v) + absI c * (C - 1) = absI c * (ofC a b c - 1) := by rw [e]; grind
    exact ⟨by omega, by omega, by omega, ofC a b c - v + p, by rw [e1, Int.mul_add]; omega⟩
  · have e1 : F = a := by rw [eF]; unfold inF; rw [if_neg (by omega)]
    have m0 := mulle (s := absI c) (x := C - 1) (y := ofC a b c - 1) p1 (by omega)
    exact ⟨by omega, by omega, by omega, p, by rw [e1]⟩
/-- Wider, and back. -/
theorem ex_all (hr : Right a b c) (hab : a ≤ b) (hc : 0 < c) (h1 : 0 ≤ v) (h2 : v ≤ 400) (hE : exE a b c v = 0) :
    exLow a b c v = a - v * c ∧ exHigh a b c v = b + v * c ∧ exStr a b c v = c ∧ Right (a - v * c) (b + v * c) c ∧ a - v * c ≤ b + v * c ∧
    (exE (a - v * c) (b + v * c) c (-v) = 0 ∧ exLow (a - v * c) (b + v * c) c (-v) = a ∧ exHigh (a - v * c) (b + v * c) c (-v) = b ∧ exStr (a - v * c) (b + v * c) c (-v) = c) ∧
    ∀ m, RIn a b c m → RIn (a - v * c) (b + v * c) c m := by
  obtain ⟨p1, p2, p3, p4, p5, p6, p7, p8, p9, p10⟩ := parts hr hab
  have hA : absI c = c := absI_pos (by omega)
  obtain ⟨g1, g2, g3, r, rC, rl⟩ := (ex_val (n := v) hr hab (by omega) (by omega) (by
        by_cases h : ofC a b c = 1
        · exact .inl (right_one hr hab h)
        · exact .inr (by omega))).2 hE
  have bk := ex_back hr hab h1 h2 r rC rl
  have wi := (wi_set hr r).1 (ex_within hr hab h1 r rC rl)
  rw [hA] at g1 g2 r rl bk wi
  exact ⟨g1, g2, g3, r, rl, bk, wi⟩
/-- Moved, and back. -/
theorem tr_all (hr : Right a b c) (hab : a ≤ b) (hc : 0 < c) (h1 : -400 ≤ v) (h2 : v ≤ 400) (hE : trE a b c v = 0) :
    trLow a b c v = a + v ∧ trHigh a b c v = b + v ∧ trStr a b c v = c ∧ Right (a + v) (b + v) c ∧
    (trE (a + v) (b + v) c (-v) = 0 ∧ trLow (a + v) (b + v) c (-v) = a ∧ trHigh (a + v) (b + v) c (-v) = b ∧ trStr (a + v) (b + v) c (-v) = c) ∧
    ofC (a + v) (b + v) c = ofC a b c ∧ ∀ k, num (a + v) (b + v) c k = num a b c k + v := by
  obtain ⟨g1, g2, g3, r⟩ := (tr_val hr hab (by omega) (by omega)).2 hE
  obtain ⟨q1, q2⟩ := ofC_add hr hab r
  obtain ⟨t1, t2⟩ := tr_val r (by omega) (n := -v) (by omega) (by omega)
  obtain ⟨p1, p2, p3, p4, p5, p6, p7, p8, p9, p10⟩ := parts hr hab
  have hl := hr.1
  have e0 : trE (a + v) (b + v) c (-v) = 0 := by
    rw [t1]; exact mvE_zero (by omega) (by rw [q1]; omega)
  obtain ⟨u1, u2, u3, _⟩ := t2 e0
  exact ⟨g1, g2, g3, r, ⟨e0, by omega, by omega, u3⟩, q1, q2⟩
end
end Go.RX.Span

/- The law of parts: its loop over positions, the states. -/
set_option linter.unusedVariables false
set_option linter.unusedSimpArgs false
set_option maxRecDepth 100000
namespace Go.RX.Span
open Go Go.RX
attribute [local irreducible] sx conB

noncomputable def byR (a b : Int) : Nat → R1 := cutF none (ofList (ss := [.int .i64]) [(U.wrap .i64 (U.rem b 21), ()), (U.wrap .i64 (U.rem a 21), ())].reverse) 0
noncomputable abbrev boxD (n : Nat) (f : Nat → R3) (k s h : Int) : Nat × Option Blk := (0, some (.cells [.row [.int .i64, .int .i64, .int .i64] n f, .lit (.int .i64 k), .lit (.int .i64 s), .lit (.int .i64 h)] 49))
noncomputable abbrev slDP (N : Nat) (F : Nat → R1) (Z i : Int) : List SV := [.ptr 0 0, .row [.int .i64] N F, .fn (.func 104) [] [], .ptr 7 0, .lit (.int .i64 Z), .lit (.int .i64 i)]
noncomputable abbrev memDP (n : Nat) (f : Nat → R3) (k s h : Int) (m : Nat) (g : Nat → R3) (k' s' h' : Int) : Mem :=
  [boxD n f k s h, (0, none), (0, none), (0, none), (0, none), (0, none), (0, none), boxD m g k' s' h']
noncomputable abbrev EP : Env := ⟨P, conOf d18, scall P (conOf d18) noLoops 10⟩
/-- The second domain is the first one, moved. -/
def PreDP (n0 n : Nat) (f : Nat → R3) (k s h : Int) (m : Nat) (g : Nat → R3) (k' s' h' : Int) (N : Nat) (F : Nat → R1) (Z : Int) : Prop :=
  n0 = 0 ∧ chD n f k s h = 0 ∧ szD n f k s h ≠ 0 ∧ szD n f k s h ≤ 500 ∧ m = n ∧ k' = k ∧ s' = s ∧ h' = h ∧ N = n ∧ Z = szD n f k s h ∧ chD n g k s h = 0 ∧
  ∀ i, i < n → (-400 ≤ fi F i ∧ fi F i ≤ 400) ∧ trE (rA (f i)) (rB (f i)) (rC (f i)) (fi F i) = 0 ∧ g i = mkR (rA (f i) + fi F i) (rB (f i) + fi F i) (rC (f i))
noncomputable def gDP0 (n0 : Nat) : List SV → Nat → Option Blk → Option Blk → T (Ex × Few)
  | [.ptr 0 0, .row [.int .i64] N F, .fn (.func 104) [] [], .ptr bx 0, .lit (.int .i64 Z), .ki .i64 0], by', some (.cells [.row [.int .i64, .int .i64, .int .i64] n f, .lit (.int .i64 k), .lit (.int .i64 s), .lit (.int .i64 h)] t0), some (.cells [.row [.int .i64, .int .i64, .int .i64] m g, .lit (.int .i64 k'), .lit (.int .i64 s'), .lit (.int .i64 h')] t1) =>
    .ask (lk PreDP n0 n f k s h m g k' s' h' N F Z ∧ bx = by' ∧ t0 = 49 ∧ t1 = 49) (.ret (.exit 0, (slDP N F Z Z, memDP n f k s h m g k' s' h')))
  | _, _, _, _ => .stuck 1
noncomputable def gDP : Nat → Few → T (Ex × Few)
  | n0, (sl, [(_, d), _, _, _, _, (_, x)]) => gDP0 n0 sl 5 d x
  | n0, (sl, [(_, d), _, _, _, _, _, (_, x)]) => gDP0 n0 sl 6 d x
  | n0, (sl, [(_, d), _, _, _, _, _, _, (_, x)]) => gDP0 n0 sl 7 d x
  | _, _ => .stuck 1
noncomputable abbrev lDP : List (Nat × Loops) := [(18, [(25, .sum (few 225 [3,7,8,23,151,152] gDP)), (32, .un 3)])] --%K
end Go.RX.Span

/- The law of parts: its loop's round, its ways. -/
set_option linter.unusedVariables false
set_option linter.unusedSimpArgs false
set_option maxRecDepth 100000
namespace Go.RX.Span
open Go Go.RX
attribute [local irreducible] sx conB

set_option maxRecDepth 100000 in
theorem t_DPr (n0 n : Nat) (f : Nat → R3) (k s h : Int) (m : Nat) (g : Nat → R3) (k' s' h' : Int) (N : Nat) (F : Nat → R1) (Z i : Int) : (sx EP l180 n0 (loopOf P 18 25) (mkS 225 [3,7,8,23,151,152] (slDP N F Z i), memDP n f k s h m g k' s' h')).bind (proj 225 [3,7,8,23,151,152]) =
    T.br (U.lt i Z) (.ask (Row64 n f ∧ I64 i) (.ask (Row64 m g ∧ I64 i) (.br (U.ne (lk dnE n f k s h i) (0 : Int)) (.ret (Ex.ret, [SV.ptr (nat_lit 0) (nat_lit 0), .row [.int .i64] N F,
      SV.fn (Fn.func (nat_lit 104)) [] [], SV.ptr (nat_lit 7) (nat_lit 0), .lit (.int .i64 Z), .lit (.int .i64 i)], [(nat_lit 0, some (Blk.cells [.row [.int .i64, .int .i64, .int .i64] n
      f, .lit (.int .i64 k), .lit (.int .i64 s), .lit (.int .i64 h)] (nat_lit 49))), (nat_lit 0, none), (nat_lit 0, none), (nat_lit 0, none), (nat_lit 0, none), (nat_lit 0, none),
      (nat_lit 0, none), (nat_lit 0, some (Blk.cells [.row [.int .i64, .int .i64, .int .i64] m g, .lit (.int .i64 k'), .lit (.int .i64 s'), .lit (.int .i64 h')] (nat_lit 49)))])) (.br
      (U.ne (lk dnE m g k' s' h' i) (0 : Int)) (.ret (Ex.ret, [SV.ptr (nat_lit 0) (nat_lit 0), .row [.int .i64] N F, SV.fn (Fn.func (nat_lit 104)) [] [], SV.ptr (nat_lit 7) (nat_lit 0),
      .lit (.int .i64 Z), .lit (.int .i64 i)], [(nat_lit 0, some (Blk.cells [.row [.int .i64, .int .i64, .int .i64] n f, .lit (.int .i64 k), .lit (.int .i64 s), .lit (.int .i64 h)]
      (nat_lit 49))), (nat_lit 0, none), (nat_lit 0, none), (nat_lit 0, none), (nat_lit 0, none), (nat_lit 0, none), (nat_lit 0, none), (nat_lit 0, some (Blk.cells [.row [.int .i64, .int
      .i64, .int .i64] m g, .lit (.int .i64 k'), .lit (.int .i64 s'), .lit (.int .i64 h')] (nat_lit 49)))])) (.br (U.ne (Int.ofNat (lk dnN n f k s h i)) (Int.ofNat N)) (.ret (Ex.ret,
      [SV.ptr (nat_lit 0) (nat_lit 0), .row [.int .i64] N F, SV.fn (Fn.func (nat_lit 104)) [] [], SV.ptr (nat_lit 7) (nat_lit 0), .lit (.int .i64 Z), .lit (.int .i64 i)], [(nat_lit 0,
      some (Blk.cells [.row [.int .i64, .int .i64, .int .i64] n f, .lit (.int .i64 k), .lit (.int .i64 s), .lit (.int .i64 h)] (nat_lit 49))), (nat_lit 0, none), (nat_lit 0, none),
      (nat_lit 0, none), (nat_lit 0, none), (nat_lit 0, none), (nat_lit 0, none), (nat_lit 0, some (Blk.cells [.row [.int .i64, .int .i64, .int .i64] m g, .lit (.int .i64 k'), .lit (.int
      .i64 s'), .lit (.int .i64 h')] (nat_lit 49)))])) (.br (U.ne (Int.ofNat (lk dnN m g k' s' h' i)) (Int.ofNat N)) (.ret (Ex.ret, [SV.ptr (nat_lit 0) (nat_lit 0), .row [.int .i64] N F,
      SV.fn (Fn.func (nat_lit 104)) [] [], SV.ptr (nat_lit 7) (nat_lit 0), .lit (.int .i64 Z), .lit (.int .i64 i)], [(nat_lit 0, some (Blk.cells [.row [.int .i64, .int .i64, .int .i64] n
      f, .lit (.int .i64 k), .lit (.int .i64 s), .lit (.int .i64 h)] (nat_lit 49))), (nat_lit 0, none), (nat_lit 0, none), (nat_lit 0, none), (nat_lit 0, none), (nat_lit 0, none),
      (nat_lit 0, none), (nat_lit 0, some (Blk.cells [.row [.int .i64, .int .i64, .int .i64] m g, .lit (.int .i64 k'), .lit (.int .i64 s'), .lit (.int .i64 h')] (nat_lit 49)))])) (.br
      (U.lt (0 : Int) (Int.ofNat N)) (.ask ((0 : Int) ≤ (0 : Int) ∧ (0 : Int) < ↑N) (.ask ((0 : Int) ≤ (0 : Int) ∧ (0 : Int) < ↑(lk dnN m g k' s' h' i)) (.ask ((0 : Int) ≤ (0 : Int) ∧ (0
      : Int) < ↑(lk dnN n f k s h i)) (.br (U.ne (lk dnF m g i (U.toNat (Int.ofNat 0))).1 (U.add .i64 (lk dnF n f i (U.toNat (Int.ofNat 0))).1 (F (U.toNat (Int.ofNat 0))).1)) (.ret
      (Ex.ret, [SV.ptr (nat_lit 0) (nat_lit 0), .row [.int .i64] N F, SV.fn (Fn.func (nat_lit 104)) [] [], SV.ptr (nat_lit 7) (nat_lit 0), .lit (.int .i64 Z), .lit (.int .i64 i)],
      [(nat_lit 0, some (Blk.cells [.row [.int .i64, .int .i64, .int .i64] n f, .lit (.int .i64 k), .lit (.int .i64 s), .lit (.int .i64 h)] (nat_lit 49))), (nat_lit 0, none), (nat_lit 0,
      none), (nat_lit 0, none), (nat_lit 0, none), (nat_lit 0, none), (nat_lit 0, none), (nat_lit 0, some (Blk.cells [.row [.int .i64, .int .i64, .int .i64] m g, .lit (.int .i64 k'), .lit
      (.int .i64 s'), .lit (.int .i64 h')] (nat_lit 49)))])) (.br (U.lt (1 : Int) (Int.ofNat N)) (.ask ((0 : Int) ≤ (1 : Int) ∧ (1 : Int) < ↑N) (.ask ((0 : Int) ≤ (1 : Int) ∧ (1 : Int) <
      ↑(lk dnN m g k' s' h' i)) (.ask ((0 : Int) ≤ (1 : Int) ∧ (1 : Int) < ↑(lk dnN n f k s h i)) (.br (U.ne (lk dnF m g i (U.toNat (Int.ofNat 1))).1 (U.add .i64 (lk dnF n f i (U.toNat
      (Int.ofNat 1))).1 (F (U.toNat (Int.ofNat 1))).1)) (.ret (Ex.ret, [SV.ptr (nat_lit 0) (nat_lit 0), .row [.int .i64] N F, SV.fn (Fn.func (nat_lit 104)) [] [], SV.ptr (nat_lit 7)
      (nat_lit 0), .lit (.int .i64 Z), .lit (.int .i64 i)], [(nat_lit 0, some (Blk.cells [.row [.int .i64, .int .i64, .int .i64] n f, .lit (.int .i64 k), .lit (.int .i64 s), .lit (.int
      .i64 h)] (nat_lit 49))), (nat_lit 0, none), (nat_lit 0, none), (nat_lit 0, none), (nat_lit 0, none), (nat_lit 0, none), (nat_lit 0, none), (nat_lit 0, some (Blk.cells [.row [.int
      .i64, .int .i64, .int .i64] m g, .lit (.int .i64 k'), .lit (.int .i64 s'), .lit (.int .i64 h')] (nat_lit 49)))])) (.br (U.lt (2 : Int) (Int.ofNat N)) (.ask ((0 : Int) ≤ (2 : Int) ∧
      (2 : Int) < ↑N) (.ask ((0 : Int) ≤ (2 : Int) ∧ (2 : Int) < ↑(lk dnN m g k' s' h' i)) (.ask ((0 : Int) ≤ (2 : Int) ∧ (2 : Int) < ↑(lk dnN n f k s h i)) (.br (U.ne (lk dnF m g i
      (U.toNat (Int.ofNat 2))).1 (U.add .i64 (lk dnF n f i (U.toNat (Int.ofNat 2))).1 (F (U.toNat (Int.ofNat 2))).1)) (.ret (Ex.ret, [SV.ptr (nat_lit 0) (nat_lit 0), .row [.int .i64] N F,
      SV.fn (Fn.func (nat_lit 104)) [] [], SV.ptr (nat_lit 7) (nat_lit 0), .lit (.int .i64 Z), .lit (.int .i64 i)], [(nat_lit 0, some (Blk.cells [.row [.int .i64, .int .i64, .int .i64] n
      f, .lit (.int .i64 k), .lit (.int .i64 s), .lit (.int .i64 h)] (nat_lit 49))), (nat_lit 0, none), (nat_lit 0, none), (nat_lit 0, none), (nat_lit 0, none), (nat_lit 0, none),
      (nat_lit 0, none), (nat_lit 0, some (Blk.cells [.row [.int .i64, .int .i64, .int .i64] m g, .lit (.int .i64 k'), .lit (.int .i64 s'), .lit (.int .i64 h')] (nat_lit 49)))])) (.stuck
      (nat_lit 105)))))) (.ret (Ex.normal, [SV.ptr (nat_lit 0) (nat_lit 0), .row [.int .i64] N F, SV.fn (Fn.func (nat_lit 104)) [] [], SV.ptr (nat_lit 7) (nat_lit 0), .lit (.int .i64 Z),
      .lit (.int .i64 (U.add .i64 i (1 : Int)))], [(nat_lit 0, some (Blk.cells [.row [.int .i64, .int .i64, .int .i64] n f, .lit (.int .i64 k), .lit (.int .i64 s), .lit (.int .i64 h)]
      (nat_lit 49))), (nat_lit 0, none), (nat_lit 0, none), (nat_lit 0, none), (nat_lit 0, none), (nat_lit 0, none), (nat_lit 0, none), (nat_lit 0, some (Blk.cells [.row [.int .i64, .int
      .i64, .int .i64] m g, .lit (.int .i64 k'), .lit (.int .i64 s'), .lit (.int .i64 h')] (nat_lit 49)))]))))))) (.ret (Ex.normal, [SV.ptr (nat_lit 0) (nat_lit 0), .row [.int .i64] N F,
      SV.fn (Fn.func (nat_lit 104)) [] [], SV.ptr (nat_lit 7) (nat_lit 0), .lit (.int .i64 Z), .lit (.int .i64 (U.add .i64 i (1 : Int)))], [(nat_lit 0, some (Blk.cells [.row [.int .i64,
      .int .i64, .int .i64] n f, .lit (.int .i64 k), .lit (.int .i64 s), .lit (.int .i64 h)] (nat_lit 49))), (nat_lit 0, none), (nat_lit 0, none), (nat_lit 0, none), (nat_lit 0, none),
      (nat_lit 0, none), (nat_lit 0, none), (nat_lit 0, some (Blk.cells [.row [.int .i64, .int .i64, .int .i64] m g, .lit (.int .i64 k'), .lit (.int .i64 s'), .lit (.int .i64 h')]
      (nat_lit 49)))]))))))) (.ret (Ex.normal, [SV.ptr (nat_lit 0) (nat_lit 0), .row [.int .i64] N F, SV.fn (Fn.func (nat_lit 104)) [] [], SV.ptr (nat_lit 7) (nat_lit 0), .lit (.int .i64
      Z), .lit (.int .i64 (U.add .i64 i (1 : Int)))], [(nat_lit 0, some (Blk.cells [.row [.int .i64, .int .i64, .int .i64] n f, .lit (.int .i64 k), .lit (.int .i64 s), .lit (.int .i64 h)]
      (nat_lit 49))), (nat_lit 0, none), (nat_lit 0, none), (nat_lit 0, none), (nat_lit 0, none), (nat_lit 0, none), (nat_lit 0, none), (nat_lit 0, some (Blk.cells [.row [.int .i64, .int
      .i64, .int .i64] m g, .lit (.int .i64 k'), .lit (.int .i64 s'), .lit (.int .i64 h')] (nat_lit 49)))]))))))))) (.ret (Ex.exit (nat_lit 0), [SV.ptr (nat_lit 0) (nat_lit 0), .row [.int
      .i64] N F, SV.fn (Fn.func (nat_lit 104)) [] [], SV.ptr (nat_lit 7) (nat_lit 0), .lit (.int .i64 Z), .lit (.int .i64 i)], [(nat_lit 0, some (Blk.cells [.row [.int .i64, .int .i64,
      .int .i64] n f, .lit (.int .i64 k), .lit (.int .i64 s), .lit (.int .i64 h)] (nat_lit 49))), (nat_lit 0, none), (nat_lit 0, none), (nat_lit 0, none), (nat_lit 0, none), (nat_lit 0,
      none), (nat_lit 0, none), (nat_lit 0, some (Blk.cells [.row [.int .i64, .int .i64, .int .i64] m g, .lit (.int .i64 k'), .lit (.int .i64 s'), .lit (.int .i64 h')] (nat_lit 49)))])) := by kernel_rfl
end Go.RX.Span

/- The law of parts: its loop over positions, shown. -/
set_option linter.unusedVariables false
set_option linter.unusedSimpArgs false
set_option maxRecDepth 100000
namespace Go.RX.Span
open Go Go.RX
attribute [local irreducible] sx conB

def numR (r : R3) (p : Nat) : Int := num r.1 r.2.1 r.2.2.1 p
def szNR (r : R3) : Nat := szN r.1 r.2.1 r.2.2.1
/-- The position within a column. -/
def pth (n q i t : Nat) : Nat := if n = 1 then i else if t = 0 then i / q else i % q
theorem rp_of {n : Nat} {f : Nat → R3} {k s h : Int} (hc : chD n f k s h = 0) (hz : szD n f k s h ≠ 0) {i : Nat} (hi : i < n) : RP (f i) := by
  have r := (chD_zero.1 hc).1.2 i hi
  refine ⟨r, Classical.byContradiction fun hn => hz ((szD_none hc).2 ⟨i, hi, ?_⟩)⟩
  rw [(rr_size r).1]; unfold ofC; rw [if_pos (by omega)]
theorem dn_num {n : Nat} {f : Nat → R3} {k s h : Int} {i : Nat} (hc : chD n f k s h = 0) (hi : i < szDn n f k s h) {t : Nat} (ht : t < n) :
    fi (dnF n f (i : Int)) t = numR (f t) (pth n (szNR (f 1)) i t) ∧ pth n (szNR (f 1)) i t < szNR (f t) := by
  obtain ⟨h1, _, _⟩ := ix_all hc hi
  have hn := (chD_zero.1 hc).1.1
  rw [szDn_right hc] at hi
  have e : fi (dnF n f (i : Int)) t = fi (ixF (idX n f i) (idY n f i)) t := congrArg Prod.fst (h1 t ht)
  rw [e]
  rcases hn with rfl | rfl
  · obtain rfl : t = 0 := by omega
    rw [if_pos rfl, Nat.mul_one] at hi
    exact ⟨by show (ixF _ _ 0).1 = _; rw [ixF0]; unfold idX pth; rw [if_pos rfl, if_pos rfl]; rfl, hi⟩
  · rw [if_neg (by omega)] at hi
    have hq : 0 < szN (f 1).1 (f 1).2.1 (f 1).2.2.1 := Nat.pos_of_ne_zero fun h0 => by rw [h0, Nat.mul_zero] at hi; omega
    have hd : i / szN (f 1).1 (f 1).2.1 (f 1).2.2.1 < szN (f 0).1 (f 0).2.1 (f 0).2.2.1 := Nat.div_lt_of_lt_mul (by rw [Nat.mul_comm]; exact hi)
    have hm := Nat.mod_lt i hq
    rcases (show t = 0 ∨ t = 1 by omega) with rfl | rfl
    · exact ⟨by show (ixF _ _ 0).1 = _; rw [ixF0]; unfold idX pth; rw [if_neg (by omega), if_neg (by omega), if_pos rfl]; rfl, by unfold pth; rw [if_neg (by omega), if_pos rfl]; exact hd⟩
    · exact ⟨by show (ixF _ _ 1).1 = _; rw [ixF1]; unfold idY pth; rw [if_neg (by omega), if_neg (by omega), if_neg (by omega)]; rfl, by unfold pth; rw [if_neg (by omega), if_neg (by omega)]; exact hm⟩
theorem ren0d (ρ : Ren) : ∀ b, b < 0 → ρ.of b = some b := fun b hb => absurd hb (Nat.not_lt_zero b)
section
variable {n : Nat} {f g : Nat → R3} {k s h : Int} {F : Nat → R1}
/-- A domain moved: as many indices, each moved. -/
theorem dn_moved (hc : chD n f k s h = 0) (hz : szD n f k s h ≠ 0) (hg : chD n g k s h = 0)
    (hF : ∀ i, i < n → (-400 ≤ fi F i ∧ fi F i ≤ 400) ∧ trE (rA (f i)) (rB (f i)) (rC (f i)) (fi F i) = 0 ∧ g i = mkR (rA (f i) + fi F i) (rB (f i) + fi F i) (rC (f i))) :
    szDn n g k s h = szDn n f k s h ∧ szD n g k s h = szD n f k s h ∧ ∀ i, i < szDn n f k s h → ∀ t, t < n → fi (dnF n g (i : Int)) t = fi (dnF n f (i : Int)) t + fi F t ∧ -1000000 ≤ fi (dnF n f (i : Int)) t ∧ fi (dnF n f (i : Int)) t ≤ 1000000 := by
  have hn := (chD_zero.1 hc).1.1
  have one : ∀ t, t < n → szNR (g t) = szNR (f t) ∧ ∀ p, numR (g t) p = numR (f t) p + fi F t := fun t ht => by
    obtain ⟨⟨b1, b2⟩, hE, eg⟩ := hF t ht
    obtain ⟨r, hab⟩ := rp_of hc hz ht
    obtain ⟨_, _, _, R, _, q1, q2⟩ := tr_all r.1 hab r.2 b1 b2 hE
    rw [eg]
    refine ⟨?_, q2⟩
    show szN (rA (f t) + fi F t) (rB (f t) + fi F t) (rC (f t)) = szN (rA (f t)) (rB (f t)) (rC (f t))
    rw [szN_eq R, szN_eq r.1, q1]
  have eS : szDn n g k s h = szDn n f k s h := by
    rw [szDn_right hc, szDn_right hg]
    show szNR (g 0) * (if n = 1 then 1 else szNR (g 1)) = szNR (f 0) * (if n = 1 then 1 else szNR (f 1))
    rcases hn with rfl | rfl
    · rw [(one 0 (by omega)).1, if_pos rfl, if_pos rfl]
    · rw [(one 0 (by omega)).1, if_neg (by omega), if_neg (by omega), (one 1 (by omega)).1]
  refine ⟨eS, ?_, fun i hi t ht => ?_⟩
  · have p1 := (dr_prod (chD_zero.1 hc).1).1
    have p2 := (dr_prod (chD_zero.1 hg).1).1
    rw [← szD_right hc] at p1
    rw [← szD_right hg] at p2
    unfold szDn at eS; omega
  · obtain ⟨e1, e2⟩ := dn_num hc hi ht
    obtain ⟨e3, _⟩ := dn_num hg (by rw [eS]; exact hi) ht
    have ep : pth n (szNR (g 1)) i t = pth n (szNR (f 1)) i t := by
      rcases hn with rfl | rfl
      · unfold pth; rw [if_pos rfl, if_pos rfl]
      · rw [(one 1 (by omega)).1]
    rw [e3, e1, ep, (one t ht).2]
    refine ⟨rfl, ?_⟩
    obtain ⟨r, hab⟩ := rp_of hc hz ht
    have hb := num_bnd (a := rA (f t)) (b := rB (f t)) (c := rC (f t)) (k := pth n (szNR (f 1)) i t) (by
      have : szNR (f t) = (size (rA (f t)) (rB (f t)) (rC (f t))).toNat := rfl
      omega)
    exact hb.2.2
end
structure XDP where
  (n : Nat) (f : Nat → R3) (k s h : Int) (m : Nat) (g : Nat → R3) (k' s' h' : Int) (N : Nat) (F : Nat → R1) (Z : Int) (j : Nat)
noncomputable def VDP (q : XDP) : Few := (slDP q.N q.F q.Z (q.j : Int), memDP q.n q.f q.k q.s q.h q.m q.g q.k' q.s' q.h')
noncomputable def ODP (q : XDP) : Ex × Few := (.exit 0, (slDP q.N q.F q.Z q.Z, memDP q.n q.f q.k q.s q.h q.m q.g q.k' q.s' q.h'))
def PhiDP (n0 : Nat) (q : XDP) : Prop := PreDP n0 q.n q.f q.k q.s q.h q.m q.g q.k' q.s' q.h' q.N q.F q.Z ∧ (q.j : Int) ≤ q.Z
theorem wkDP {n : Nat} {f : Nat → R3} {k s h : Int} {m : Nat} {g : Nat → R3} {k' s' h' : Int} {N : Nat} {F : Nat → R1} {Z i : Int} : Wk 225 [3,7,8,23,151,152] 0 (slDP N F Z i, memDP n f k s h m g k' s' h') (slDP N F Z i, memDP n f k s h m g k' s' h') :=
  wk_of [some 0, some 1, some 2, some 3, some 4, some 5, some 6, some 7] rfl (Nat.zero_le _) (ren0d _) ⟨⟨rfl, rfl⟩, ⟨rfl, row1S fun _ _ => rfl⟩, ⟨rfl, trivial, trivial⟩, ⟨rfl, rfl⟩, rfl, rfl, trivial⟩
    ⟨⟨rfl, ⟨rfl, sameR fun _ _ => rfl⟩, rfl, rfl, rfl, trivial⟩, ⟨rfl, ⟨rfl, sameR fun _ _ => rfl⟩, rfl, rfl, rfl, trivial⟩, trivial⟩
theorem roundDP (n0 : Nat) (q : XDP) (hq : PhiDP n0 q) : ((sx EP l180 n0 (loopOf P 18 25) (mkS 225 [3,7,8,23,151,152] (VDP q).1, (VDP q).2)).bind (proj 225 [3,7,8,23,151,152])).All fun r => match r.1 with
      | .normal => ∃ q', PhiDP n0 q' ∧ (q'.Z - q'.j).toNat < (q.Z - q.j).toNat ∧ Wk 225 [3,7,8,23,151,152] n0 r.2 (VDP q') ∧ ∀ o, o = ODP q' → o = ODP q
      | e => ∃ s, (e, s) = ODP q ∧ Wk 225 [3,7,8,23,151,152] n0 r.2 s := by
  obtain ⟨n, f, k, s, h, m, g, k', s', h', N, F, Z, j⟩ := q
  obtain ⟨⟨h0, hc, hz, hz5, q1, q2, q3, q4, q5, hZ, hg, hF⟩, hj⟩ := hq
  simp only [] at h0 hc hz hz5 q1 q2 q3 q4 q5 hZ hg hF hj
  subst h0; subst q1; subst q2; subst q3; subst q4; subst q5
  show ((sx EP l180 0 (loopOf P 18 25) (mkS 225 [3,7,8,23,151,152] (slDP _ F Z (j : Int)), memDP _ f _ _ _ _ g _ _ _)).bind (proj 225 [3,7,8,23,151,152])).All _
  rw [t_DPr]
  have e2 : U.add .i64 (j : Int) 1 = ((j + 1 : Nat) : Int) := by rw [U.add64 (by unfold I64; omega)]; omega
  simp only [tnO, tnI, e2, lk_eq]
  obtain ⟨s1, s2, s3⟩ := dn_moved hc hz hg hF
  have d1 := dr_64 (chD_zero.1 hc).1
  have d2 := dr_64 (chD_zero.1 hg).1
  have hn := (chD_zero.1 hc).1.1
  by_cases hlt : (j : Int) < Z
  · have hi : j < szDn N f k' s' h' := show j < (szD N f k' s' h').toNat by rw [← hZ]; omega
    obtain ⟨z1, z2⟩ := dn_zero hc hi
    obtain ⟨z3, z4⟩ := dn_zero hg (s1.symm ▸ hi)
    have one : ∀ t, t < N → U.ne (dnF N g (j : Int) t).1 (U.add .i64 (dnF N f (j : Int) t).1 (F t).1) = false := fun t ht => by
      obtain ⟨u1, u2, u3⟩ := s3 j hi t ht
      obtain ⟨⟨b1, b2⟩, _⟩ := hF t ht
      have e : U.add .i64 (fi (dnF N f (j : Int)) t) (fi F t) = fi (dnF N f (j : Int)) t + fi F t := U.add64 (by unfold I64; omega)
      exact U.ne_f.mpr (u1.trans e.symm)
    have i64j : I64 (j : Int) := by unfold I64; omega
    have go : ∃ q', PhiDP 0 q' ∧ (q'.Z - q'.j).toNat < (Z - (j : Int)).toNat ∧ Wk 225 [3,7,8,23,151,152] 0 (slDP N F Z ((j + 1 : Nat) : Int), memDP N f k' s' h' N g k' s' h') (VDP q') ∧ ∀ o, o = ODP q' → o = ODP ⟨N, f, k', s', h', N, g, k', s', h', N, F, Z, j⟩ :=
      ⟨⟨N, f, k', s', h', N, g, k', s', h', N, F, Z, j + 1⟩, ⟨⟨rfl, hc, hz, hz5, rfl, rfl, rfl, rfl, rfl, hZ, hg, hF⟩, by simp only []; omega⟩, by simp only []; omega, wkDP, fun o ho => ho⟩
    refine ⟨fun _ => ⟨⟨d1, i64j⟩, ⟨d2, i64j⟩, fun hh => absurd z1 (U.ne_t.mp hh), fun _ => ⟨fun hh => absurd z3 (U.ne_t.mp hh), fun _ => ⟨fun hh => absurd (congrArg Int.ofNat z2) (U.ne_t.mp hh), fun _ => ⟨fun hh => absurd (congrArg Int.ofNat z4) (U.ne_t.mp hh), fun _ => ⟨fun _ => ⟨by omega, by rw [z4]; omega, by rw [z2]; omega, fun hh => absurd ((one 0 (by omega)).symm.trans hh) (by decide), fun _ => ⟨fun h1 => ?_, fun _ => go⟩⟩, fun hh => absurd (U.lt_f.mp hh) (by simp only [Int.ofNat_eq_natCast]; omega)⟩⟩⟩⟩⟩, fun hh => absurd (U.lt_f.mp hh) (by omega)⟩
    have h1 := U.lt_t.mp h1
    simp only [Int.ofNat_eq_natCast] at h1
    exact ⟨by omega, by rw [z4]; omega, by rw [z2]; omega, fun hh => absurd ((one 1 (by omega)).symm.trans hh) (by decide), fun _ => ⟨fun h2 => absurd (U.lt_t.mp h2) (by simp only [Int.ofNat_eq_natCast]; omega), fun _ => go⟩⟩
  · obtain rfl : (j : Int) = Z := by omega
    exact ⟨fun hh => absurd (U.lt_t.mp hh) (by omega), fun _ => ⟨_, rfl, wkDP⟩⟩
end Go.RX.Span

/- The law of parts: its loop's summary. -/
set_option linter.unusedVariables false
set_option linter.unusedSimpArgs false
set_option maxRecDepth 100000
namespace Go.RX.Span
open Go Go.RX
attribute [local irreducible] sx conB

theorem d18_ok : ∀ p ∈ d18, ConOK P p.1 p.2 := by
  intro p hp
  simp only [d18, List.mem_cons] at hp
  rcases hp with rfl | rfl | rfl | rfl | rfl | rfl | rfl | rfl | rfl | rfl | hp
  · exact Neg_ok
  · exact Min_ok
  · exact Any_ok
  · exact Dsmall_ok
  · exact DWithin_ok
  · exact DSame_ok
  · exact d13_ok (90, c_chg 0) (by simp [d13])
  · exact d13_ok (92, c_chg 1) (by simp [d13])
  · exact d13_ok (94, c_chg 2) (by simp [d13])
  · exact d13_ok (96, c_chg 3) (by simp [d13])
  · exact d11_ok p (by simpa [d11] using hp)
theorem EP_ok : EnvOK EP := envOK (allOK mixed d18_ok) 10
theorem l180_ok (c : Code) : LoopsOK P l180 c := loopsOK_un fun q hq => by simp only [l180, List.mem_singleton] at hq; subst hq; exact ⟨3, rfl⟩
theorem enterDP {n0 : Nat} {sl : List SV} {d x : Nat × Option Blk} {m : Mem} {bx : Nat} {r : Ex × Few} (h : (gDP0 n0 sl bx d.2 x.2).Is r) (hd : d.1 = 0 ∨ True)
    (hm : ∀ n f k s h' m' g k' s' h'' N F Z, sl = [.ptr 0 0, .row [.int .i64] N F, .fn (.func 104) [] [], .ptr bx 0, .lit (.int .i64 Z), .ki .i64 0] → d.2 = some (.cells [.row [.int .i64, .int .i64, .int .i64] n f, .lit (.int .i64 k), .lit (.int .i64 s), .lit (.int .i64 h')] 49) → x.2 = some (.cells [.row [.int .i64, .int .i64, .int .i64] m' g, .lit (.int .i64 k'), .lit (.int .i64 s'), .lit (.int .i64 h'')] 49) →
      Wk 225 [3,7,8,23,151,152] 0 (sl, m) (slDP N F Z 0, memDP n f k s h' m' g k' s' h'')) :
    ∃ q, PhiDP n0 q ∧ Wk 225 [3,7,8,23,151,152] n0 (sl, m) (VDP q) ∧ ∀ o, o = ODP q → o = r := by
  unfold gDP0 at h
  split at h
  · rename_i N F b0 Z n f k s h' t0 m' g k' s' h'' t1 e1 e2
    obtain ⟨hp, rfl, rfl, rfl⟩ := (T.is_ask h).1
    obtain rfl := T.is_ret (T.is_ask h).2
    rw [lk_eq] at hp
    have h0 := hp.1
    subst h0
    have hz : 0 ≤ Z := by
      obtain ⟨_, hc, _, _, _, _, _, _, _, hZ, _⟩ := hp
      have := (dr_prod (chD_zero.1 hc).1).1
      rw [← szD_right hc] at this; omega
    exact ⟨⟨n, f, k, s, h', m', g, k', s', h'', N, F, Z, 0⟩, ⟨hp, hz⟩, hm _ _ _ _ _ _ _ _ _ _ _ _ _ rfl e1 e2, fun o ho => ho⟩
  · exact h.elim
theorem loopDP : LoopOK P (loopOf P 18 25) (few 225 [3,7,8,23,151,152] gDP) :=
  loop_few (E := EP) (L := l180) mixed EP_ok (l180_ok _) 225 [3,7,8,23,151,152] (X := XDP) gDP (fun _ x => VDP x) PhiDP (fun q => (q.Z - q.j).toNat) (fun _ x o => o = ODP x)
    (fun n0 st r h => by
      unfold gDP at h
      split at h
      · rename_i n0 sl e0 d b1 b2 b3 b4 e5 x
        refine enterDP (d := (e0, d)) (x := (e5, x)) h (.inr trivial) ?_
        intro n f k s h' m' g k' s' h'' N F Z hsl hd hx
        subst hsl; simp only [] at hd hx; subst hd; subst hx
        exact wk_of [some 0, none, none, none, none, none, none, some 5] rfl (Nat.zero_le _) (ren0d _) ⟨⟨rfl, rfl⟩, ⟨rfl, row1S fun _ _ => rfl⟩, ⟨rfl, trivial, trivial⟩, ⟨rfl, rfl⟩, rfl, rfl, trivial⟩
          ⟨⟨rfl, ⟨rfl, sameR fun _ _ => rfl⟩, rfl, rfl, rfl, trivial⟩, ⟨rfl, ⟨rfl, sameR fun _ _ => rfl⟩, rfl, rfl, rfl, trivial⟩, trivial⟩
      · rename_i n0 sl e0 d b1 b2 b3 b4 b5 e5 x
        refine enterDP (d := (e0, d)) (x := (e5, x)) h (.inr trivial) ?_
        intro n f k s h' m' g k' s' h'' N F Z hsl hd hx
        subst hsl; simp only [] at hd hx; subst hd; subst hx
        exact wk_of [some 0, none, none, none, none, none, none, some 6] rfl (Nat.zero_le _) (ren0d _) ⟨⟨rfl, rfl⟩, ⟨rfl, row1S fun _ _ => rfl⟩, ⟨rfl, trivial, trivial⟩, ⟨rfl, rfl⟩, rfl, rfl, trivial⟩
          ⟨⟨rfl, ⟨rfl, sameR fun _ _ => rfl⟩, rfl, rfl, rfl, trivial⟩, ⟨rfl, ⟨rfl, sameR fun _ _ => rfl⟩, rfl, rfl, rfl, trivial⟩, trivial⟩
      · rename_i n0 sl e0 d b1 b2 b3 b4 b5 b6 e5 x
        refine enterDP (d := (e0, d)) (x := (e5, x)) h (.inr trivial) ?_
        intro n f k s h' m' g k' s' h'' N F Z hsl hd hx
        subst hsl; simp only [] at hd hx; subst hd; subst hx
        exact wk_of [some 0, none, none, none, none, none, none, some 7] rfl (Nat.zero_le _) (ren0d _) ⟨⟨rfl, rfl⟩, ⟨rfl, row1S fun _ _ => rfl⟩, ⟨rfl, trivial, trivial⟩, ⟨rfl, rfl⟩, rfl, rfl, trivial⟩
          ⟨⟨rfl, ⟨rfl, sameR fun _ _ => rfl⟩, rfl, rfl, rfl, trivial⟩, ⟨rfl, ⟨rfl, sameR fun _ _ => rfl⟩, rfl, rfl, rfl, trivial⟩, trivial⟩
      · exact h.elim)
    roundDP
theorem lDP_ok : ∀ p ∈ lDP, LoopsOK P p.2 (bodyOf P p.1) := by
  intro p hp
  simp only [lDP, List.mem_singleton] at hp
  subst hp
  refine loopsOK_of (by kernel_rfl) fun k g hk => ?_
  simp only [List.mem_cons, List.not_mem_nil, or_false, Prod.mk.injEq, LoopC.sum.injEq] at hk
  rcases hk with ⟨rfl, rfl⟩ | ⟨_, hk⟩
  · exact loopDP
  · cases hk
end Go.RX.Span

/- The law of parts: its ways, put together out of parts. -/
set_option linter.unusedVariables false
set_option linter.unusedSimpArgs false
set_option maxRecDepth 100000
namespace Go.RX.Span
open Go Go.RX
attribute [local irreducible] sx conB

section
variable (n : Nat) (f : Nat → R3) (k s h a b : Int) (w : Nat)
noncomputable abbrev nN : Nat := U.toNat (Int.ofNat n)
noncomputable abbrev aE : Int := lk chgE w n f k s h (nN n) (byR a b)
noncomputable abbrev aN : Nat := lk chgN w n f k s h (nN n) (byR a b)
noncomputable abbrev aF : Nat → R3 := lk chgF w f (byR a b)
noncomputable abbrev aX (x : Int) : Int := lk chgX w n f k s h (nN n) (byR a b) x
noncomputable abbrev bE : Int := lk chgE w (aN n f k s h a b w) (aF f a b w) (aX n f k s h a b w k) (aX n f k s h a b w s) (aX n f k s h a b w h) (nN n) (lk negF (byR a b))
noncomputable abbrev bN : Nat := lk chgN w (aN n f k s h a b w) (aF f a b w) (aX n f k s h a b w k) (aX n f k s h a b w s) (aX n f k s h a b w h) (nN n) (lk negF (byR a b))
noncomputable abbrev bF : Nat → R3 := lk chgF w (aF f a b w) (lk negF (byR a b))
noncomputable abbrev bX (x : Int) : Int := lk chgX w (aN n f k s h a b w) (aF f a b w) (aX n f k s h a b w k) (aX n f k s h a b w s) (aX n f k s h a b w h) (nN n) (lk negF (byR a b)) (aX n f k s h a b w x)
noncomputable abbrev boA : Int := lk boE (aN n f k s h a b w) (aF f a b w) (aX n f k s h a b w k) (aX n f k s h a b w s) (aX n f k s h a b w h) n f k s h
noncomputable abbrev saB : Bool := lk saD (bN n f k s h a b w) (bF f a b w) (bX n f k s h a b w k) (bX n f k s h a b w s) (bX n f k s h a b w h) n f k s h
noncomputable abbrev diA (x : Int) : Int := lk diX (aN n f k s h a b w) (aF f a b w) (aX n f k s h a b w k) (aX n f k s h a b w s) (aX n f k s h a b w h) n f k s h (aX n f k s h a b w x)
noncomputable abbrev diM : Nat := lk diN (aN n f k s h a b w) (aF f a b w) (aX n f k s h a b w k) (aX n f k s h a b w s) (aX n f k s h a b w h) n f k s h
noncomputable abbrev diG : Nat → R3 := lk diF (aF f a b w) f
noncomputable abbrev ByOk : Prop := Row64 n f ∧ ∀ i : Nat, i < nN n → I64 (byR a b i).1
noncomputable def pP (t : T SV) : T SV := .ask (Row64 n f) (.ask (U.not (lk smD n f k s h) = false) (.ask (Row64 n f) (.ask (U.eq (lk szD n f k s h) (0 : Int) = false) (.ask ((21 : Int) ≠ (0 : Int)) (.ask ((21 : Int) ≠ (0 : Int)) (.ask ((0 : Int) ≤ (0 : Int) ∧ (0 : Int) ≤ Int.ofNat n ∧ Int.ofNat n ≤ ((2 : Nat) : Int)) t))))))
noncomputable def pE0 (t : T SV) : T SV := .ask (ByOk n f a b) (.ask (U.eq (aE n f k s h a b 1) (0 : Int) = false) t)
noncomputable def pE1 (t : T SV) : T SV := .ask (ByOk n f a b) (.ask (U.eq (aE n f k s h a b 1) (0 : Int) = true) (.ask (lk OneTwo (nN n) (byR a b)) (.ask (U.ge (lk minF (nN n) (byR a b)) (0 : Int) = false) t)))
noncomputable def pE2 (t : T SV) : T SV := .ask (ByOk n f a b) (.ask (U.eq (aE n f k s h a b 1) (0 : Int) = true) (.ask (lk OneTwo (nN n) (byR a b)) (.ask (U.ge (lk minF (nN n) (byR a b)) (0 : Int) = true)
  (.ask (lk OneTwo (nN n) (byR a b)) (.ask (Row64 (aN n f k s h a b 1) (aF f a b 1) ∧ ∀ i : Nat, i < nN n → I64 (lk negF (byR a b) i).1) (.ask (Row64 n f ∧ Row64 (aN n f k s h a b 1) (aF f a b 1))
  (.ask (U.ne (bE n f k s h a b 1) (0 : Int) = false) (.ask (U.ne (lk boE n f k s h (aN n f k s h a b 1) (aF f a b 1) (aX n f k s h a b 1 k) (aX n f k s h a b 1 s) (aX n f k s h a b 1 h)) (0 : Int) = false)
  (.ask (Row64 (bN n f k s h a b 1) (bF f a b 1) ∧ Row64 n f) (.ask (U.not (saB n f k s h a b 1) = false) (.ask (U.not (lk wiD n f k s h (aN n f k s h a b 1) (aF f a b 1) (aX n f k s h a b 1 k) (aX n f k s h a b 1 s) (aX n f k s h a b 1 h)) = false) t)))))))))))
noncomputable def pX0 (t : T SV) : T SV := .ask (ByOk n f a b) (.ask (U.eq (aE n f k s h a b 3) (0 : Int) = false) t)
noncomputable def pX1 (t : T SV) : T SV := .ask (ByOk n f a b) (.ask (U.eq (aE n f k s h a b 3) (0 : Int) = true) (.ask (lk OneTwo (nN n) (byR a b)) (.ask (lk anyN (nN n) (byR a b) = false) t)))
noncomputable def pX2 (t : T SV) : T SV := .ask (ByOk n f a b) (.ask (U.eq (aE n f k s h a b 3) (0 : Int) = true) (.ask (lk OneTwo (nN n) (byR a b)) (.ask (lk anyN (nN n) (byR a b) = true)
  (.ask (Row64 (aN n f k s h a b 3) (aF f a b 3) ∧ Row64 n f) (.ask (U.ne (boA n f k s h a b 3) (0 : Int) = false) (.ask (Row64 (diM n f k s h a b 3) (diG f a b 3))
  (.ask (U.ne (lk szD (diM n f k s h a b 3) (diG f a b 3) (diA n f k s h a b 3 k) (diA n f k s h a b 3 s) (diA n f k s h a b 3 h)) (0 : Int) = false) t)))))))
noncomputable def pI0 (t : T SV) : T SV := .ask (ByOk n f a b) (.ask (U.eq (aE n f k s h a b 2) (0 : Int) = false) t)
noncomputable def pI1 (t : T SV) : T SV := .ask (ByOk n f a b) (.ask (U.eq (aE n f k s h a b 2) (0 : Int) = true) (.ask (Row64 (aN n f k s h a b 2) (aF f a b 2) ∧ Row64 n f) (.ask (U.ne (boA n f k s h a b 2) (0 : Int) = false)
  (.ask (U.not (lk wiD (aN n f k s h a b 2) (aF f a b 2) (aX n f k s h a b 2 k) (aX n f k s h a b 2 s) (aX n f k s h a b 2 h) n f k s h) = false) t))))
noncomputable def pT0 (j : Nat) : T SV := .ask (ByOk n f a b) (.ask (U.ne (aE n f k s h a b 0) (0 : Int) = true) (.ret (.lit (.bool true))))
noncomputable def pT1 (j : Nat) : T SV := .ask (ByOk n f a b) (.ask (U.ne (aE n f k s h a b 0) (0 : Int) = false) (.ask (Row64 n f)
  (.ask (lk PreDP 0 n f k s h (aN n f k s h a b 0) (aF f a b 0) (aX n f k s h a b 0 k) (aX n f k s h a b 0 s) (aX n f k s h a b 0 h) (nN n) (byR a b) (lk szD n f k s h) ∧ j = j ∧ (49 : Nat) = 49 ∧ (49 : Nat) = 49)
  (.ask (lk OneTwo (nN n) (byR a b)) (.ask (Row64 (aN n f k s h a b 0) (aF f a b 0) ∧ ∀ i : Nat, i < nN n → I64 (lk negF (byR a b) i).1) (.ask (U.eq (bE n f k s h a b 0) (0 : Int) = true)
  (.ask (Row64 (bN n f k s h a b 0) (bF f a b 0) ∧ Row64 n f) (.ask (saB n f k s h a b 0 = true) (.ret (.lit (.bool true)))))))))))
end
end Go.RX.Span

/- The law of parts: its ways. -/
set_option linter.unusedVariables false
set_option linter.unusedSimpArgs false
set_option maxRecDepth 100000
namespace Go.RX.Span
open Go Go.RX
attribute [local irreducible] sx conB

noncomputable abbrev wayP (n : Nat) (f : Nat → R3) (k s h a b : Int) (l : List Bool) : T SV := (conB Go.Proofs.Try.prog (conOf d18) (loopsOf lDP) 10 18 [.agg [.row [.int .i64, .int .i64, .int .i64] n f, .lit (.int .i64 k), .lit (.int .i64 s), .lit (.int .i64 h)], .lit (.int .i8 a), .lit (.int .i8 b)]).force l
set_option maxRecDepth 100000 in
theorem t_DPa (n : Nat) (f : Nat → R3) (k s h a b : Int) : wayP n f k s h a b [true] = .ask (Row64 n f) (.ask (U.not (lk smD n f k s h) = true) (.ret (.lit (.bool true)))) := by kernel_rfl
theorem t_DPb (n : Nat) (f : Nat → R3) (k s h a b : Int) : wayP n f k s h a b [false, true] = .ask (Row64 n f) (.ask (U.not (lk smD n f k s h) = false) (.ask (Row64 n f) (.ask (U.eq (lk szD n f k s h) (0 : Int) = true) (.ret (.lit (.bool true)))))) := by kernel_rfl
theorem t_DP0000 (n : Nat) (f : Nat → R3) (k s h a b : Int) : wayP n f k s h a b [false, false, false, false, false, true] = pP n f k s h (pE0 n f k s h a b (pX0 n f k s h a b (pI0 n f k s h a b (pT0 n f k s h a b 5)))) := by kernel_rfl
theorem t_DP0001 (n : Nat) (f : Nat → R3) (k s h a b : Int) : wayP n f k s h a b [false, false, false, false, false, false, true, true] = pP n f k s h (pE0 n f k s h a b (pX0 n f k s h a b (pI0 n f k s h a b (pT1 n f k s h a b 5)))) := by kernel_rfl
theorem t_DP0010 (n : Nat) (f : Nat → R3) (k s h a b : Int) : wayP n f k s h a b [false, false, false, false, true, false, false, true] = pP n f k s h (pE0 n f k s h a b (pX0 n f k s h a b (pI1 n f k s h a b (pT0 n f k s h a b 5)))) := by kernel_rfl
theorem t_DP0011 (n : Nat) (f : Nat → R3) (k s h a b : Int) : wayP n f k s h a b [false, false, false, false, true, false, false, false, true, true] = pP n f k s h (pE0 n f k s h a b (pX0 n f k s h a b (pI1 n f k s h a b (pT1 n f k s h a b 5)))) := by kernel_rfl
theorem t_DP0100 (n : Nat) (f : Nat → R3) (k s h a b : Int) : wayP n f k s h a b [false, false, false, true, false, false, true] = pP n f k s h (pE0 n f k s h a b (pX1 n f k s h a b (pI0 n f k s h a b (pT0 n f k s h a b 5)))) := by kernel_rfl
theorem t_DP0101 (n : Nat) (f : Nat → R3) (k s h a b : Int) : wayP n f k s h a b [false, false, false, true, false, false, false, true, true] = pP n f k s h (pE0 n f k s h a b (pX1 n f k s h a b (pI0 n f k s h a b (pT1 n f k s h a b 5)))) := by kernel_rfl
theorem t_DP0110 (n : Nat) (f : Nat → R3) (k s h a b : Int) : wayP n f k s h a b [false, false, false, true, false, true, false, false, true] = pP n f k s h (pE0 n f k s h a b (pX1 n f k s h a b (pI1 n f k s h a b (pT0 n f k s h a b 5)))) := by kernel_rfl
theorem t_DP0111 (n : Nat) (f : Nat → R3) (k s h a b : Int) : wayP n f k s h a b [false, false, false, true, false, true, false, false, false, true, true] = pP n f k s h (pE0 n f k s h a b (pX1 n f k s h a b (pI1 n f k s h a b (pT1 n f k s h a b 5)))) := by kernel_rfl
theorem t_DP0200 (n : Nat) (f : Nat → R3) (k s h a b : Int) : wayP n f k s h a b [false, false, false, true, true, false, false, false, true] = pP n f k s h (pE0 n f k s h a b (pX2 n f k s h a b (pI0 n f k s h a b (pT0 n f k s h a b 6)))) := by kernel_rfl
theorem t_DP0201 (n : Nat) (f : Nat → R3) (k s h a b : Int) : wayP n f k s h a b [false, false, false, true, true, false, false, false, false, true, true] = pP n f k s h (pE0 n f k s h a b (pX2 n f k s h a b (pI0 n f k s h a b (pT1 n f k s h a b 6)))) := by kernel_rfl
theorem t_DP0210 (n : Nat) (f : Nat → R3) (k s h a b : Int) : wayP n f k s h a b [false, false, false, true, true, false, false, true, false, false, true] = pP n f k s h (pE0 n f k s h a b (pX2 n f k s h a b (pI1 n f k s h a b (pT0 n f k s h a b 6)))) := by kernel_rfl
theorem t_DP0211 (n : Nat) (f : Nat → R3) (k s h a b : Int) : wayP n f k s h a b [false, false, false, true, true, false, false, true, false, false, false, true, true] = pP n f k s h (pE0 n f k s h a b (pX2 n f k s h a b (pI1 n f k s h a b (pT1 n f k s h a b 6)))) := by kernel_rfl
theorem t_DP1000 (n : Nat) (f : Nat → R3) (k s h a b : Int) : wayP n f k s h a b [false, false, true, false, false, false, true] = pP n f k s h (pE1 n f k s h a b (pX0 n f k s h a b (pI0 n f k s h a b (pT0 n f k s h a b 5)))) := by kernel_rfl
theorem t_DP1001 (n : Nat) (f : Nat → R3) (k s h a b : Int) : wayP n f k s h a b [false, false, true, false, false, false, false, true, true] = pP n f k s h (pE1 n f k s h a b (pX0 n f k s h a b (pI0 n f k s h a b (pT1 n f k s h a b 5)))) := by kernel_rfl
theorem t_DP1010 (n : Nat) (f : Nat → R3) (k s h a b : Int) : wayP n f k s h a b [false, false, true, false, false, true, false, false, true] = pP n f k s h (pE1 n f k s h a b (pX0 n f k s h a b (pI1 n f k s h a b (pT0 n f k s h a b 5)))) := by kernel_rfl
theorem t_DP1011 (n : Nat) (f : Nat → R3) (k s h a b : Int) : wayP n f k s h a b [false, false, true, false, false, true, false, false, false, true, true] = pP n f k s h (pE1 n f k s h a b (pX0 n f k s h a b (pI1 n f k s h a b (pT1 n f k s h a b 5)))) := by kernel_rfl
theorem t_DP1100 (n : Nat) (f : Nat → R3) (k s h a b : Int) : wayP n f k s h a b [false, false, true, false, true, false, false, true] = pP n f k s h (pE1 n f k s h a b (pX1 n f k s h a b (pI0 n f k s h a b (pT0 n f k s h a b 5)))) := by kernel_rfl
theorem t_DP1101 (n : Nat) (f : Nat → R3) (k s h a b : Int) : wayP n f k s h a b [false, false, true, false, true, false, false, false, true, true] = pP n f k s h (pE1 n f k s h a b (pX1 n f k s h a b (pI0 n f k s h a b (pT1 n f k s h a b 5)))) := by kernel_rfl
theorem t_DP1110 (n : Nat) (f : Nat → R3) (k s h a b : Int) : wayP n f k s h a b [false, false, true, false, true, false, true, false, false, true] = pP n f k s h (pE1 n f k s h a b (pX1 n f k s h a b (pI1 n f k s h a b (pT0 n f k s h a b 5)))) := by kernel_rfl
theorem t_DP1111 (n : Nat) (f : Nat → R3) (k s h a b : Int) : wayP n f k s h a b [false, false, true, false, true, false, true, false, false, false, true, true] = pP n f k s h (pE1 n f k s h a b (pX1 n f k s h a b (pI1 n f k s h a b (pT1 n f k s h a b 5)))) := by kernel_rfl
theorem t_DP1200 (n : Nat) (f : Nat → R3) (k s h a b : Int) : wayP n f k s h a b [false, false, true, false, true, true, false, false, false, true] = pP n f k s h (pE1 n f k s h a b (pX2 n f k s h a b (pI0 n f k s h a b (pT0 n f k s h a b 6)))) := by kernel_rfl
theorem t_DP1201 (n : Nat) (f : Nat → R3) (k s h a b : Int) : wayP n f k s h a b [false, false, true, false, true, true, false, false, false, false, true, true] = pP n f k s h (pE1 n f k s h a b (pX2 n f k s h a b (pI0 n f k s h a b (pT1 n f k s h a b 6)))) := by kernel_rfl
theorem t_DP1210 (n : Nat) (f : Nat → R3) (k s h a b : Int) : wayP n f k s h a b [false, false, true, false, true, true, false, false, true, false, false, true] = pP n f k s h (pE1 n f k s h a b (pX2 n f k s h a b (pI1 n f k s h a b (pT0 n f k s h a b 6)))) := by kernel_rfl
theorem t_DP1211 (n : Nat) (f : Nat → R3) (k s h a b : Int) : wayP n f k s h a b [false, false, true, false, true, true, false, false, true, false, false, false, true, true] = pP n f k s h (pE1 n f k s h a b (pX2 n f k s h a b (pI1 n f k s h a b (pT1 n f k s h a b 6)))) := by kernel_rfl
theorem t_DP2000 (n : Nat) (f : Nat → R3) (k s h a b : Int) : wayP n f k s h a b [false, false, true, true, false, false, false, false, false, false, true] = pP n f k s h (pE2 n f k s h a b (pX0 n f k s h a b (pI0 n f k s h a b (pT0 n f k s h a b 6)))) := by kernel_rfl
theorem t_DP2001 (n : Nat) (f : Nat → R3) (k s h a b : Int) : wayP n f k s h a b [false, false, true, true, false, false, false, false, false, false, false, true, true] = pP n f k s h (pE2 n f k s h a b (pX0 n f k s h a b (pI0 n f k s h a b (pT1 n f k s h a b 6)))) := by kernel_rfl
theorem t_DP2010 (n : Nat) (f : Nat → R3) (k s h a b : Int) : wayP n f k s h a b [false, false, true, true, false, false, false, false, false, true, false, false, true] = pP n f k s h (pE2 n f k s h a b (pX0 n f k s h a b (pI1 n f k s h a b (pT0 n f k s h a b 6)))) := by kernel_rfl
theorem t_DP2011 (n : Nat) (f : Nat → R3) (k s h a b : Int) : wayP n f k s h a b [false, false, true, true, false, false, false, false, false, true, false, false, false, true, true] = pP n f k s h (pE2 n f k s h a b (pX0 n f k s h a b (pI1 n f k s h a b (pT1 n f k s h a b 6)))) := by kernel_rfl
theorem t_DP2100 (n : Nat) (f : Nat → R3) (k s h a b : Int) : wayP n f k s h a b [false, false, true, true, false, false, false, false, true, false, false, true] = pP n f k s h (pE2 n f k s h a b (pX1 n f k s h a b (pI0 n f k s h a b (pT0 n f k s h a b 6)))) := by kernel_rfl
theorem t_DP2101 (n : Nat) (f : Nat → R3) (k s h a b : Int) : wayP n f k s h a b [false, false, true, true, false, false, false, false, true, false, false, false, true, true] = pP n f k s h (pE2 n f k s h a b (pX1 n f k s h a b (pI0 n f k s h a b (pT1 n f k s h a b 6)))) := by kernel_rfl
theorem t_DP2110 (n : Nat) (f : Nat → R3) (k s h a b : Int) : wayP n f k s h a b [false, false, true, true, false, false, false, false, true, false, true, false, false, true] = pP n f k s h (pE2 n f k s h a b (pX1 n f k s h a b (pI1 n f k s h a b (pT0 n f k s h a b 6)))) := by kernel_rfl
theorem t_DP2111 (n : Nat) (f : Nat → R3) (k s h a b : Int) : wayP n f k s h a b [false, false, true, true, false, false, false, false, true, false, true, false, false, false, true, true] = pP n f k s h (pE2 n f k s h a b (pX1 n f k s h a b (pI1 n f k s h a b (pT1 n f k s h a b 6)))) := by kernel_rfl
theorem t_DP2200 (n : Nat) (f : Nat → R3) (k s h a b : Int) : wayP n f k s h a b [false, false, true, true, false, false, false, false, true, true, false, false, false, true] = pP n f k s h (pE2 n f k s h a b (pX2 n f k s h a b (pI0 n f k s h a b (pT0 n f k s h a b 7)))) := by kernel_rfl
theorem t_DP2201 (n : Nat) (f : Nat → R3) (k s h a b : Int) : wayP n f k s h a b [false, false, true, true, false, false, false, false, true, true, false, false, false, false, true, true] = pP n f k s h (pE2 n f k s h a b (pX2 n f k s h a b (pI0 n f k s h a b (pT1 n f k s h a b 7)))) := by kernel_rfl
theorem t_DP2210 (n : Nat) (f : Nat → R3) (k s h a b : Int) : wayP n f k s h a b [false, false, true, true, false, false, false, false, true, true, false, false, true, false, false, true] = pP n f k s h (pE2 n f k s h a b (pX2 n f k s h a b (pI1 n f k s h a b (pT0 n f k s h a b 7)))) := by kernel_rfl
theorem t_DP2211 (n : Nat) (f : Nat → R3) (k s h a b : Int) : wayP n f k s h a b [false, false, true, true, false, false, false, false, true, true, false, false, true, false, false, false, true, true] = pP n f k s h (pE2 n f k s h a b (pX2 n f k s h a b (pI1 n f k s h a b (pT1 n f k s h a b 7)))) := by kernel_rfl
end Go.RX.Span

/- Changes of a domain, in plain Lean. -/
set_option linter.unusedVariables false
set_option linter.unusedSimpArgs false
namespace Go.RX.Span
open Go Go.RX

theorem by0 (a b : Int) : fi (byR a b) 0 = U.wrap .i64 (U.rem a 21) := rfl
theorem by1 (a b : Int) : fi (byR a b) 1 = U.wrap .i64 (U.rem b 21) := rfl
theorem rem_bnd (a : Int) : -20 ≤ U.wrap .i64 (U.rem a 21) ∧ U.wrap .i64 (U.rem a 21) ≤ 20 := by
  have e : U.rem a 21 = a.tmod 21 := by rw [U.rem_eq]
  have h1 : a.tmod 21 < 21 := Int.tmod_lt_of_pos a (by decide)
  have h2 : -21 < a.tmod 21 := by
    have := Int.tmod_lt_of_pos (-a) (show (0 : Int) < 21 by decide)
    rw [Int.neg_tmod] at this; omega
  have e2 : U.wrap .i64 (a.tmod 21) = a.tmod 21 := by rw [U.wrap_eq]; exact IntWalk.i64_in _ (by omega)
  rw [e, e2]
  omega
theorem by_bnd (a b : Int) {i : Nat} (hi : i < 2) : -20 ≤ fi (byR a b) i ∧ fi (byR a b) i ≤ 20 := by
  rcases (show i = 0 ∨ i = 1 by omega) with rfl | rfl
  · rw [by0]; exact rem_bnd a
  · rw [by1]; exact rem_bnd b
section
variable {n : Nat} {f : Nat → R3} {k s h : Int} {F : Nat → R1}
theorem chg_zero {w : Nat} (hc : chD n f k s h = 0) : chgE w n f k s h n F = 0 ↔ ∀ i, i < n → opE w (f i) (fi F i) = 0 := by
  have hn := (chD_zero.1 hc).1.1
  have e : chgE w n f k s h n F = if chD n f k s h ≠ 0 then chD n f k s h else if n ≠ n then 5 else if opE w (f 0) (fi F 0) ≠ 0 then opE w (f 0) (fi F 0) else if n = 2 then opE w (f 1) (fi F 1) else 0 := rfl
  rw [e, if_neg (by simp [hc]), if_neg (by simp)]
  by_cases h0 : opE w (f 0) (fi F 0) = 0
  · rw [if_neg (show ¬ opE w (f 0) (fi F 0) ≠ 0 by simp [h0])]
    rcases hn with rfl | rfl
    · rw [if_neg (by omega)]
      exact ⟨fun _ i hi => by obtain rfl : i = 0 := by omega
                              exact h0, fun _ => rfl⟩
    · rw [if_pos rfl]
      exact ⟨fun h1 i hi => by
        rcases (show i = 0 ∨ i = 1 by omega) with rfl | rfl
        · exact h0
        · exact h1, fun h => h 1 (by omega)⟩
  · rw [if_pos (show opE w (f 0) (fi F 0) ≠ 0 from h0)]
    exact ⟨fun h => absurd h h0, fun h => absurd (h 0 (by omega)) h0⟩
theorem chg_n {w : Nat} (hE : chgE w n f k s h n F = 0) : chgN w n f k s h n F = n ∧ ∀ x, chgX w n f k s h n F x = x := by
  unfold chgN chgX
  exact ⟨if_pos hE, fun x => if_pos hE⟩
theorem chg_chD {w : Nat} (hc : chD n f k s h = 0) (hr : ∀ i, i < n → RR (opF w (f i) (fi F i))) : chD n (chgF w f F) k s h = 0 :=
  chD_zero.2 ⟨⟨(chD_zero.1 hc).1.1, hr⟩, (chD_zero.1 hc).2⟩
theorem sa_of {g : Nat → R3} (hc : chD n f k s h = 0) (he : ∀ i, i < n → g i = f i) : chD n g k s h = 0 ∧ saD n g k s h n f k s h = true := by
  have hg : chD n g k s h = 0 := chD_zero.2 ⟨⟨(chD_zero.1 hc).1.1, fun i hi => by rw [he i hi]; exact (chD_zero.1 hc).1.2 i hi⟩, (chD_zero.1 hc).2⟩
  refine ⟨hg, ?_⟩
  rw [← wi_same hg hc, Bool.and_eq_true]
  exact ⟨(wiD_iff (boE_zero.2 ⟨hg, hc, rfl⟩)).2 (.inr fun i hi v hv => by rw [he i hi] at hv; exact hv), (wiD_iff (boE_zero.2 ⟨hc, hg, rfl⟩)).2 (.inr fun i hi v hv => by rw [he i hi]; exact hv)⟩
theorem wider (hc : chD n f k s h = 0) (hz : szD n f k s h ≠ 0) (hF : ∀ i, i < n → 0 ≤ fi F i ∧ fi F i ≤ 400) (hE : chgE 1 n f k s h n F = 0) :
    chD n (chgF 1 f F) k s h = 0 ∧ chgE 1 n (chgF 1 f F) k s h n (negF F) = 0 ∧ (∀ i, i < n → chgF 1 (chgF 1 f F) (negF F) i = f i) ∧ wiD n f k s h n (chgF 1 f F) k s h = true := by
  have ops := (chg_zero (w := 1) hc).1 hE
  have one : ∀ i, i < n → RR (chgF 1 f F i) ∧ opE 1 (chgF 1 f F i) (-fi F i) = 0 ∧ opF 1 (chgF 1 f F i) (-fi F i) = f i ∧ ∀ v, RInR (f i) v → RInR (chgF 1 f F i) v := fun i hi => by
    obtain ⟨r, hab⟩ := rp_of hc hz hi
    obtain ⟨g1, g2, g3, R, _, ⟨b1, b2, b3, b4⟩, hw⟩ := ex_all r.1 hab r.2 (hF i hi).1 (hF i hi).2 (ops i hi)
    have e : chgF 1 f F i = mkR (rA (f i) - fi F i * rC (f i)) (rB (f i) + fi F i * rC (f i)) (rC (f i)) := by
      show (exLow (rA (f i)) (rB (f i)) (rC (f i)) (fi F i), exHigh (rA (f i)) (rB (f i)) (rC (f i)) (fi F i), exStr (rA (f i)) (rB (f i)) (rC (f i)) (fi F i), ()) = _
      rw [g1, g2, g3]; rfl
    rw [e]
    refine ⟨⟨R, r.2⟩, b1, ?_, hw⟩
    show (exLow (rA (f i) - fi F i * rC (f i)) (rB (f i) + fi F i * rC (f i)) (rC (f i)) (-fi F i), exHigh (rA (f i) - fi F i * rC (f i)) (rB (f i) + fi F i * rC (f i)) (rC (f i)) (-fi F i), exStr (rA (f i) - fi F i * rC (f i)) (rB (f i) + fi F i * rC (f i)) (rC (f i)) (-fi F i), ()) = f i
    rw [b2, b3, b4]; rfl
  have hg := chg_chD (w := 1) (F := F) hc fun i hi => (one i hi).1
  refine ⟨hg, (chg_zero (w := 1) hg).2 fun i hi => (one i hi).2.1, fun i hi => (one i hi).2.2.1, (wiD_iff (boE_zero.2 ⟨hc, hg, rfl⟩)).2 (.inr fun i hi => (one i hi).2.2.2)⟩
theorem moved (hc : chD n f k s h = 0) (hz : szD n f k s h ≠ 0) (hF : ∀ i, i < n → -400 ≤ fi F i ∧ fi F i ≤ 400) (hE : chgE 0 n f k s h n F = 0) :
    chD n (chgF 0 f F) k s h = 0 ∧ chgE 0 n (chgF 0 f F) k s h n (negF F) = 0 ∧ (∀ i, i < n → chgF 0 (chgF 0 f F) (negF F) i = f i) ∧
    ∀ i, i < n → (-400 ≤ fi F i ∧ fi F i ≤ 400) ∧ trE (rA (f i)) (rB (f i)) (rC (f i)) (fi F i) = 0 ∧ chgF 0 f F i = mkR (rA (f i) + fi F i) (rB (f i) + fi F i) (rC (f i)) := by
  have ops := (chg_zero (w := 0) hc).1 hE
  have one : ∀ i, i < n → RR (chgF 0 f F i) ∧ opE 0 (chgF 0 f F i) (-fi F i) = 0 ∧ opF 0 (chgF 0 f F i) (-fi F i) = f i ∧ chgF 0 f F i = mkR (rA (f i) + fi F i) (rB (f i) + fi F i) (rC (f i)) := fun i hi => by
    obtain ⟨r, hab⟩ := rp_of hc hz hi
    obtain ⟨g1, g2, g3, R, ⟨b1, b2, b3, b4⟩, _⟩ := tr_all r.1 hab r.2 (hF i hi).1 (hF i hi).2 (ops i hi)
    have e : chgF 0 f F i = mkR (rA (f i) + fi F i) (rB (f i) + fi F i) (rC (f i)) := by
      show (trLow (rA (f i)) (rB (f i)) (rC (f i)) (fi F i), trHigh (rA (f i)) (rB (f i)) (rC (f i)) (fi F i), trStr (rA (f i)) (rB (f i)) (rC (f i)) (fi F i), ()) = _
      rw [g1, g2, g3]; rfl
    rw [e]
    refine ⟨⟨R, r.2⟩, b1, ?_, rfl⟩
    show (trLow (rA (f i) + fi F i) (rB (f i) + fi F i) (rC (f i)) (-fi F i), trHigh (rA (f i) + fi F i) (rB (f i) + fi F i) (rC (f i)) (-fi F i), trStr (rA (f i) + fi F i) (rB (f i) + fi F i) (rC (f i)) (-fi F i), ()) = f i
    rw [b2, b3, b4]; rfl
  have hg := chg_chD (w := 0) (F := F) hc fun i hi => (one i hi).1
  exact ⟨hg, (chg_zero (w := 0) hg).2 fun i hi => (one i hi).2.1, fun i hi => (one i hi).2.2.1, fun i hi => ⟨hF i hi, ops i hi, (one i hi).2.2.2⟩⟩
theorem inside (hc : chD n f k s h = 0) (hz : szD n f k s h ≠ 0) (hF : ∀ i, i < n → -400 ≤ fi F i ∧ fi F i ≤ 400) (hE : chgE 2 n f k s h n F = 0) :
    chD n (chgF 2 f F) k s h = 0 ∧ wiD n (chgF 2 f F) k s h n f k s h = true := by
  have ops := (chg_zero (w := 2) hc).1 hE
  have one : ∀ i, i < n → RR (chgF 2 f F i) ∧ ∀ v, RInR (chgF 2 f F i) v → RInR (f i) v := fun i hi => by
    obtain ⟨r, hab⟩ := rp_of hc hz hi
    have eF : chgF 2 f F i = if fi F i = 0 then f i else (inLow (rA (f i)) (rB (f i)) (rC (f i)) (fi F i), inHigh (rA (f i)) (rB (f i)) (rC (f i)) (fi F i), inStr (rA (f i)) (rB (f i)) (rC (f i)) (fi F i), ()) := rfl
    have hO : (if fi F i = 0 then 0 else inE (rA (f i)) (rB (f i)) (rC (f i)) (fi F i)) = 0 := ops i hi
    by_cases h0 : fi F i = 0
    · have eG : chgF 2 f F i = f i := eF.trans (if_pos h0)
      rw [eG]; exact ⟨r, fun v hv => hv⟩
    · rw [if_neg h0] at hO
      have eG : chgF 2 f F i = (inLow (rA (f i)) (rB (f i)) (rC (f i)) (fi F i), inHigh (rA (f i)) (rB (f i)) (rC (f i)) (fi F i), inStr (rA (f i)) (rB (f i)) (rC (f i)) (fi F i), ()) := eF.trans (if_neg h0)
      rw [eG]
      obtain ⟨g1, g2, g3⟩ := in_in r.1 hab r.2 h0 (hF i hi).1 (hF i hi).2 hO
      exact ⟨⟨g1, g2⟩, g3⟩
  have hg := chg_chD (w := 2) (F := F) hc fun i hi => (one i hi).1
  exact ⟨hg, (wiD_iff (boE_zero.2 ⟨hg, hc, rfl⟩)).2 (.inr fun i hi => (one i hi).2)⟩
theorem outside (hc : chD n f k s h = 0) (hz : szD n f k s h ≠ 0) (hF : ∀ i, i < n → -400 ≤ fi F i ∧ fi F i ≤ 400) (hE : chgE 3 n f k s h n F = 0) (hA : ∃ i, i < n ∧ fi F i ≠ 0) :
    chD n (chgF 3 f F) k s h = 0 ∧ chD n (diF (chgF 3 f F) f) k s h = 0 ∧ szD n (diF (chgF 3 f F) f) k s h = 0 := by
  have ops := (chg_zero (w := 3) hc).1 hE
  have one : ∀ i, i < n → RR (chgF 3 f F i) ∧ (fi F i ≠ 0 → ∀ v, RInR (chgF 3 f F i) v → ¬ RInR (f i) v) := fun i hi => by
    obtain ⟨r, hab⟩ := rp_of hc hz hi
    have eF : chgF 3 f F i = if fi F i = 0 then f i else (xtLow (rA (f i)) (rB (f i)) (rC (f i)) (fi F i), xtHigh (rA (f i)) (rB (f i)) (rC (f i)) (fi F i), xtStr (rA (f i)) (rB (f i)) (rC (f i)) (fi F i), ()) := rfl
    have hO : (if fi F i = 0 then 0 else xtE (rA (f i)) (rB (f i)) (rC (f i)) (fi F i)) = 0 := ops i hi
    by_cases h0 : fi F i = 0
    · have eG : chgF 3 f F i = f i := eF.trans (if_pos h0)
      rw [eG]; exact ⟨r, fun h => absurd h0 h⟩
    · rw [if_neg h0] at hO
      have eG : chgF 3 f F i = (xtLow (rA (f i)) (rB (f i)) (rC (f i)) (fi F i), xtHigh (rA (f i)) (rB (f i)) (rC (f i)) (fi F i), xtStr (rA (f i)) (rB (f i)) (rC (f i)) (fi F i), ()) := eF.trans (if_neg h0)
      rw [eG]
      obtain ⟨g1, g2, g3⟩ := xt_out r.1 hab r.2 h0 (hF i hi).1 (hF i hi).2 hO
      exact ⟨⟨g1, g2⟩, fun _ => g3⟩
  have hg := chg_chD (w := 3) (F := F) hc fun i hi => (one i hi).1
  have hb : boE n (chgF 3 f F) k s h n f k s h = 0 := boE_zero.2 ⟨hg, hc, rfl⟩
  have hd := di_right hb
  refine ⟨hg, hd, ?_⟩
  obtain ⟨i, hi, h0⟩ := hA
  refine (szD_none hd).2 ⟨i, hi, Classical.byContradiction fun hs => ?_⟩
  obtain ⟨v, hv⟩ := rr_some ((chD_zero.1 hd).1.2 i hi) hs
  have := ((isR_spec (one i hi).1 ((chD_zero.1 hc).1.2 i hi)).2.1 v).1 hv
  exact (one i hi).2 h0 v this.1 this.2
end
end Go.RX.Span

/- The law of parts: what it returns. -/
set_option linter.unusedVariables false
set_option linter.unusedSimpArgs false
set_option maxRecDepth 100000
namespace Go.RX.Span
open Go Go.RX
attribute [local irreducible] sx conB

section
variable {n : Nat} {f : Nat → R3} {k s h a b : Int} {K : SV → Prop} {t : T SV}
theorem nN_eq : nN n = n := tn n
theorem by_ok (hn : n = 1 ∨ n = 2) : (∀ i, i < n → -400 ≤ fi (byR a b) i ∧ fi (byR a b) i ≤ 400) ∧ OneTwo n (byR a b) ∧ (∀ i, i < n → I64 (byR a b i).1) ∧ ∀ i, i < n → I64 (negF (byR a b) i).1 := by
  have one : ∀ i, i < n → -20 ≤ fi (byR a b) i ∧ fi (byR a b) i ≤ 20 := fun i hi => by_bnd a b (by omega)
  refine ⟨fun i hi => by have := one i hi; omega, ⟨hn, fun i hi => by have := one i hi; omega⟩, fun i hi => ?_, fun i hi => ?_⟩
  · have := one i hi
    show I64 (fi (byR a b) i)
    unfold I64; omega
  · have := one i hi
    show I64 (-fi (byR a b) i)
    unfold I64; omega
theorem all_P (hc : chD n f k s h = 0) (hz : szD n f k s h ≠ 0) (h5 : szD n f k s h ≤ 500) (ht : t.All K) : (pP n f k s h t).All K := by
  have d := dr_64 (chD_zero.1 hc).1
  have hn := (chD_zero.1 hc).1.1
  unfold pP
  simp only [lk_eq]
  refine ⟨d, U.not_f.mpr (decide_eq_true ⟨hc, h5⟩), d, U.eq_f.mpr hz, by decide, by decide, ⟨by omega, ?_, ?_⟩, ht⟩
  · simp only [Int.ofNat_eq_natCast]; omega
  · simp only [Int.ofNat_eq_natCast]; omega
theorem all_E0 (hc : chD n f k s h = 0) (hE : chgE 1 n f k s h n (byR a b) ≠ 0) (ht : t.All K) : (pE0 n f k s h a b t).All K := by
  have d := dr_64 (chD_zero.1 hc).1
  obtain ⟨b1, b2, b3, b4⟩ := by_ok (a := a) (b := b) (chD_zero.1 hc).1.1
  unfold pE0
  simp only [aE, ByOk, lk_eq, nN_eq]
  exact ⟨⟨d, b3⟩, U.eq_f.mpr hE, ht⟩
theorem all_E1 (hc : chD n f k s h = 0) (hE : chgE 1 n f k s h n (byR a b) = 0) (hM : minF n (byR a b) < 0) (ht : t.All K) : (pE1 n f k s h a b t).All K := by
  have d := dr_64 (chD_zero.1 hc).1
  obtain ⟨b1, b2, b3, b4⟩ := by_ok (a := a) (b := b) (chD_zero.1 hc).1.1
  unfold pE1
  simp only [aE, ByOk, lk_eq, nN_eq]
  exact ⟨⟨d, b3⟩, U.eq_t.mpr hE, b2, U.ge_f.mpr (by omega), ht⟩
theorem min_all (hn : n = 1 ∨ n = 2) {F : Nat → R1} (hM : 0 ≤ minF n F) : ∀ i, i < n → 0 ≤ fi F i := fun i hi => by
  unfold minF at hM
  rcases hn with rfl | rfl
  · obtain rfl : i = 0 := by omega
    rw [if_neg (by omega)] at hM; exact hM
  · rw [if_pos rfl] at hM
    rcases (show i = 0 ∨ i = 1 by omega) with rfl | rfl
    · split at hM <;> omega
    · split at hM <;> omega
theorem all_E2 (hc : chD n f k s h = 0) (hz : szD n f k s h ≠ 0) (hE : chgE 1 n f k s h n (byR a b) = 0) (hM : 0 ≤ minF n (byR a b)) (ht : t.All K) : (pE2 n f k s h a b t).All K := by
  have d := dr_64 (chD_zero.1 hc).1
  have hn := (chD_zero.1 hc).1.1
  obtain ⟨b1, b2, b3, b4⟩ := by_ok (a := a) (b := b) hn
  have hF := min_all hn hM
  obtain ⟨w1, w2, w3, w4⟩ := wider hc hz (fun i hi => ⟨hF i hi, (b1 i hi).2⟩) hE
  obtain ⟨x1, x2⟩ := chg_n hE
  obtain ⟨y1, y2⟩ := chg_n w2
  obtain ⟨v1, v2⟩ := sa_of hc w3
  unfold pE2
  simp only [aE, aN, aF, aX, bE, bN, bF, bX, saB, ByOk, lk_eq, nN_eq, x1, x2, y1, y2]
  exact ⟨⟨d, b3⟩, U.eq_t.mpr hE, b2, U.ge_t.mpr hM, b2, ⟨dr_64 (chD_zero.1 w1).1, b4⟩, ⟨d, dr_64 (chD_zero.1 w1).1⟩, U.ne_f.mpr w2, U.ne_f.mpr (boE_zero.2 ⟨hc, w1, rfl⟩), ⟨dr_64 (chD_zero.1 v1).1, d⟩, U.not_f.mpr v2, U.not_f.mpr w4, ht⟩
theorem all_X0 (hc : chD n f k s h = 0) (hE : chgE 3 n f k s h n (byR a b) ≠ 0) (ht : t.All K) : (pX0 n f k s h a b t).All K := by
  have d := dr_64 (chD_zero.1 hc).1
  obtain ⟨b1, b2, b3, b4⟩ := by_ok (a := a) (b := b) (chD_zero.1 hc).1.1
  unfold pX0
  simp only [aE, ByOk, lk_eq, nN_eq]
  exact ⟨⟨d, b3⟩, U.eq_f.mpr hE, ht⟩
theorem all_X1 (hc : chD n f k s h = 0) (hE : chgE 3 n f k s h n (byR a b) = 0) (hM : anyN n (byR a b) = false) (ht : t.All K) : (pX1 n f k s h a b t).All K := by
  have d := dr_64 (chD_zero.1 hc).1
  obtain ⟨b1, b2, b3, b4⟩ := by_ok (a := a) (b := b) (chD_zero.1 hc).1.1
  unfold pX1
  simp only [aE, ByOk, lk_eq, nN_eq]
  exact ⟨⟨d, b3⟩, U.eq_t.mpr hE, b2, hM, ht⟩
theorem any_some (hn : n = 1 ∨ n = 2) {F : Nat → R1} (hA : anyN n F = true) : ∃ i, i < n ∧ fi F i ≠ 0 := by
  rcases of_decide_eq_true hA with h | ⟨h1, h2⟩
  · exact ⟨0, by omega, h⟩
  · exact ⟨1, by omega, h2⟩
theorem all_X2 (hc : chD n f k s h = 0) (hz : szD n f k s h ≠ 0) (hE : chgE 3 n f k s h n (byR a b) = 0) (hM : anyN n (byR a b) = true) (ht : t.All K) : (pX2 n f k s h a b t).All K := by
  have d := dr_64 (chD_zero.1 hc).1
  have hn := (chD_zero.1 hc).1.1
  obtain ⟨b1, b2, b3, b4⟩ := by_ok (a := a) (b := b) hn
  obtain ⟨w1, w2, w3⟩ := outside hc hz b1 hE (any_some hn hM)
  obtain ⟨x1, x2⟩ := chg_n hE
  have hb : boE n (chgF 3 f (byR a b)) k s h n f k s h = 0 := boE_zero.2 ⟨w1, hc, rfl⟩
  have y1 : diN n (chgF 3 f (byR a b)) k s h n f k s h = n := by unfold diN; rw [if_neg (by simp [hb])]
  have y2 : ∀ x, diX n (chgF 3 f (byR a b)) k s h n f k s h x = x := fun x => by unfold diX; rw [if_neg (by simp [hb])]
  unfold pX2
  simp only [aE, aN, aF, aX, boA, diM, diG, diA, ByOk, lk_eq, nN_eq, x1, x2, y1, y2]
  exact ⟨⟨d, b3⟩, U.eq_t.mpr hE, b2, hM, ⟨dr_64 (chD_zero.1 w1).1, d⟩, U.ne_f.mpr hb, dr_64 (chD_zero.1 w2).1, U.ne_f.mpr w3, ht⟩
theorem all_I0 (hc : chD n f k s h = 0) (hE : chgE 2 n f k s h n (byR a b) ≠ 0) (ht : t.All K) : (pI0 n f k s h a b t).All K := by
  have d := dr_64 (chD_zero.1 hc).1
  obtain ⟨b1, b2, b3, b4⟩ := by_ok (a := a) (b := b) (chD_zero.1 hc).1.1
  unfold pI0
  simp only [aE, ByOk, lk_eq, nN_eq]
  exact ⟨⟨d, b3⟩, U.eq_f.mpr hE, ht⟩
theorem all_I1 (hc : chD n f k s h = 0) (hz : szD n f k s h ≠ 0) (hE : chgE 2 n f k s h n (byR a b) = 0) (ht : t.All K) : (pI1 n f k s h a b t).All K := by
  have d := dr_64 (chD_zero.1 hc).1
  obtain ⟨b1, b2, b3, b4⟩ := by_ok (a := a) (b := b) (chD_zero.1 hc).1.1
  obtain ⟨w1, w2⟩ := inside hc hz b1 hE
  obtain ⟨x1, x2⟩ := chg_n hE
  unfold pI1
  simp only [aE, aN, aF, aX, boA, ByOk, lk_eq, nN_eq, x1, x2]
  exact ⟨⟨d, b3⟩, U.eq_t.mpr hE, ⟨dr_64 (chD_zero.1 w1).1, d⟩, U.ne_f.mpr (boE_zero.2 ⟨w1, hc, rfl⟩), U.not_f.mpr w2, ht⟩
theorem all_T0 {j : Nat} (hc : chD n f k s h = 0) (hE : chgE 0 n f k s h n (byR a b) ≠ 0) : (pT0 n f k s h a b j).All fun v => Cl v (.lit (.bool true)) := by
  have d := dr_64 (chD_zero.1 hc).1
  obtain ⟨b1, b2, b3, b4⟩ := by_ok (a := a) (b := b) (chD_zero.1 hc).1.1
  unfold pT0
  simp only [aE, ByOk, lk_eq, nN_eq]
  exact ⟨⟨d, b3⟩, U.ne_t.mpr hE, .inl rfl⟩
theorem all_T1 {j : Nat} (hc : chD n f k s h = 0) (hz : szD n f k s h ≠ 0) (h5 : szD n f k s h ≤ 500) (hE : chgE 0 n f k s h n (byR a b) = 0) : (pT1 n f k s h a b j).All fun v => Cl v (.lit (.bool true)) := by
  have d := dr_64 (chD_zero.1 hc).1
  obtain ⟨b1, b2, b3, b4⟩ := by_ok (a := a) (b := b) (chD_zero.1 hc).1.1
  obtain ⟨w1, w2, w3, w4⟩ := moved hc hz b1 hE
  obtain ⟨x1, x2⟩ := chg_n hE
  obtain ⟨y1, y2⟩ := chg_n w2
  obtain ⟨v1, v2⟩ := sa_of hc w3
  unfold pT1
  simp only [aE, aN, aF, aX, bE, bN, bF, bX, saB, ByOk, lk_eq, nN_eq, x1, x2, y1, y2]
  exact ⟨⟨d, b3⟩, U.ne_f.mpr hE, d, ⟨⟨rfl, hc, hz, h5, rfl, rfl, rfl, rfl, rfl, rfl, w1, w4⟩, by simp⟩, b2, ⟨dr_64 (chD_zero.1 w1).1, b4⟩, U.eq_t.mpr w2, ⟨dr_64 (chD_zero.1 v1).1, d⟩, v2, .inl rfl⟩
end
noncomputable def c_DomainParts : Con := fun args => match args with
  | [.agg [.row [.int .i64, .int .i64, .int .i64] n f, .lit (.int .i64 k), .lit (.int .i64 s), .lit (.int .i64 h)], .lit (.int .i8 a), .lit (.int .i8 b)] => .ask (Row64 n f) (.ret (.lit (.bool true)))
  | _ => .stuck 1
theorem way_all {n : Nat} {f : Nat → R3} {k s h a b : Int} (d : Row64 n f) : ∃ l, (wayP n f k s h a b l).All fun v => Cl v (.lit (.bool true)) := by
  by_cases hs : smD n f k s h = true
  rotate_left
  · exact ⟨_, by rw [t_DPa]; simp only [lk_eq]; exact ⟨d, U.not_t.mpr (by simpa using hs), .inl rfl⟩⟩
  obtain ⟨hc, h5⟩ := of_decide_eq_true hs
  by_cases hz : szD n f k s h = 0
  · exact ⟨_, by rw [t_DPb]; simp only [lk_eq]; exact ⟨d, U.not_f.mpr hs, d, U.eq_t.mpr hz, .inl rfl⟩⟩
  by_cases hE : chgE 1 n f k s h n (byR a b) = 0 <;> by_cases hX : chgE 3 n f k s h n (byR a b) = 0 <;> by_cases hI : chgE 2 n f k s h n (byR a b) = 0 <;> by_cases hT : chgE 0 n f k s h n (byR a b) = 0
  · rcases Int.lt_or_le (minF n (byR a b)) 0 with hM | hM
    · cases hA : anyN n (byR a b)
      · exact ⟨_, by rw [t_DP1111]; exact all_P hc hz h5 (all_E1 hc hE hM (all_X1 hc hX hA (all_I1 hc hz hI (all_T1 hc hz h5 hT))))⟩
      · exact ⟨_, by rw [t_DP1211]; exact all_P hc hz h5 (all_E1 hc hE hM (all_X2 hc hz hX hA (all_I1 hc hz hI (all_T1 hc hz h5 hT))))⟩
    · cases hA : anyN n (byR a b)
      · exact ⟨_, by rw [t_DP2111]; exact all_P hc hz h5 (all_E2 hc hz hE hM (all_X1 hc hX hA (all_I1 hc hz hI (all_T1 hc hz h5 hT))))⟩
      · exact ⟨_, by rw [t_DP2211]; exact all_P hc hz h5 (all_E2 hc hz hE hM (all_X2 hc hz hX hA (all_I1 hc hz hI (all_T1 hc hz h5 hT))))⟩
  · rcases Int.lt_or_le (minF n (byR a b)) 0 with hM | hM
    · cases hA : anyN n (byR a b)
      · exact ⟨_, by rw [t_DP1110]; exact all_P hc hz h5 (all_E1 hc hE hM (all_X1 hc hX hA (all_I1 hc hz hI (all_T0 hc hT))))⟩
      · exact ⟨_, by rw [t_DP1210]; exact all_P hc hz h5 (all_E1 hc hE hM (all_X2 hc hz hX hA (all_I1 hc hz hI (all_T0 hc hT))))⟩
    · cases hA : anyN n (byR a b)
      · exact ⟨_, by rw [t_DP2110]; exact all_P hc hz h5 (all_E2 hc hz hE hM (all_X1 hc hX hA (all_I1 hc hz hI (all_T0 hc hT))))⟩
      · exact ⟨_, by rw [t_DP2210]; exact all_P hc hz h5 (all_E2 hc hz hE hM (all_X2 hc hz hX hA (all_I1 hc hz hI (all_T0 hc hT))))⟩
  · rcases Int.lt_or_le (minF n (byR a b)) 0 with hM | hM
    · cases hA : anyN n (byR a b)
      · exact ⟨_, by rw [t_DP1101]; exact all_P hc hz h5 (all_E1 hc hE hM (all_X1 hc hX hA (all_I0 hc hI (all_T1 hc hz h5 hT))))⟩
      · exact ⟨_, by rw [t_DP1201]; exact all_P hc hz h5 (all_E1 hc hE hM (all_X2 hc hz hX hA (all_I0 hc hI (all_T1 hc hz h5 hT))))⟩
    · cases hA : anyN n (byR a b)
      · exact ⟨_, by rw [t_DP2101]; exact all_P hc hz h5 (all_E2 hc hz hE hM (all_X1 hc hX hA (all_I0 hc hI (all_T1 hc hz h5 hT))))⟩
      · exact ⟨_, by rw [t_DP2201]; exact all_P hc hz h5 (all_E2 hc hz hE hM (all_X2 hc hz hX hA (all_I0 hc hI (all_T1 hc hz h5 hT))))⟩
  · rcases Int.lt_or_le (minF n (byR a b)) 0 with hM | hM
    · cases hA : anyN n (byR a b)
      · exact ⟨_, by rw [t_DP1100]; exact all_P hc hz h5 (all_E1 hc hE hM (all_X1 hc hX hA (all_I0 hc hI (all_T0 hc hT))))⟩
      · exact ⟨_, by rw [t_DP1200]; exact all_P hc hz h5 (all_E1 hc hE hM (all_X2 hc hz hX hA (all_I0 hc hI (all_T0 hc hT))))⟩
    · cases hA : anyN n (byR a b)
      · exact ⟨_, by rw [t_DP2100]; exact all_P hc hz h5 (all_E2 hc hz hE hM (all_X1 hc hX hA (all_I0 hc hI (all_T0 hc hT))))⟩
      · exact ⟨_, by rw [t_DP2200]; exact all_P hc hz h5 (all_E2 hc hz hE hM (all_X2 hc hz hX hA (all_I0 hc hI (all_T0 hc hT))))⟩
  · rcases Int.lt_or_le (minF n (byR a b)) 0 with hM | hM
    · exact ⟨_, by rw [t_DP1011]; exact all_P hc hz h5 (all_E1 hc hE hM (all_X0 hc hX (all_I1 hc hz hI (all_T1 hc hz h5 hT))))⟩
    · exact ⟨_, by rw [t_DP2011]; exact all_P hc hz h5 (all_E2 hc hz hE hM (all_X0 hc hX (all_I1 hc hz hI (all_T1 hc hz h5 hT))))⟩
  · rcases Int.lt_or_le (minF n (byR a b)) 0 with hM | hM
    · exact ⟨_, by rw [t_DP1010]; exact all_P hc hz h5 (all_E1 hc hE hM (all_X0 hc hX (all_I1 hc hz hI (all_T0 hc hT))))⟩
    · exact ⟨_, by rw [t_DP2010]; exact all_P hc hz h5 (all_E2 hc hz hE hM (all_X0 hc hX (all_I1 hc hz hI (all_T0 hc hT))))⟩
  · rcases Int.lt_or_le (minF n (byR a b)) 0 with hM | hM
    · exact ⟨_, by rw [t_DP1001]; exact all_P hc hz h5 (all_E1 hc hE hM (all_X0 hc hX (all_I0 hc hI (all_T1 hc hz h5 hT))))⟩
    · exact ⟨_, by rw [t_DP2001]; exact all_P hc hz h5 (all_E2 hc hz hE hM (all_X0 hc hX (all_I0 hc hI (all_T1 hc hz h5 hT))))⟩
  · rcases Int.lt_or_le (minF n (byR a b)) 0 with hM | hM
    · exact ⟨_, by rw [t_DP1000]; exact all_P hc hz h5 (all_E1 hc hE hM (all_X0 hc hX (all_I0 hc hI (all_T0 hc hT))))⟩
    · exact ⟨_, by rw [t_DP2000]; exact all_P hc hz h5 (all_E2 hc hz hE hM (all_X0 hc hX (all_I0 hc hI (all_T0 hc hT))))⟩
  · cases hA : anyN n (byR a b)
    · exact ⟨_, by rw [t_DP0111]; exact all_P hc hz h5 (all_E0 hc hE (all_X1 hc hX hA (all_I1 hc hz hI (all_T1 hc hz h5 hT))))⟩
    · exact ⟨_, by rw [t_DP0211]; exact all_P hc hz h5 (all_E0 hc hE (all_X2 hc hz hX hA (all_I1 hc hz hI (all_T1 hc hz h5 hT))))⟩
  · cases hA : anyN n (byR a b)
    · exact ⟨_, by rw [t_DP0110]; exact all_P hc hz h5 (all_E0 hc hE (all_X1 hc hX hA (all_I1 hc hz hI (all_T0 hc hT))))⟩
    · exact ⟨_, by rw [t_DP0210]; exact all_P hc hz h5 (all_E0 hc hE (all_X2 hc hz hX hA (all_I1 hc hz hI (all_T0 hc hT))))⟩
  · cases hA : anyN n (byR a b)
    · exact ⟨_, by rw [t_DP0101]; exact all_P hc hz h5 (all_E0 hc hE (all_X1 hc hX hA (all_I0 hc hI (all_T1 hc hz h5 hT))))⟩
    · exact ⟨_, by rw [t_DP0201]; exact all_P hc hz h5 (all_E0 hc hE (all_X2 hc hz hX hA (all_I0 hc hI (all_T1 hc hz h5 hT))))⟩
  · cases hA : anyN n (byR a b)
    · exact ⟨_, by rw [t_DP0100]; exact all_P hc hz h5 (all_E0 hc hE (all_X1 hc hX hA (all_I0 hc hI (all_T0 hc hT))))⟩
    · exact ⟨_, by rw [t_DP0200]; exact all_P hc hz h5 (all_E0 hc hE (all_X2 hc hz hX hA (all_I0 hc hI (all_T0 hc hT))))⟩
  · exact ⟨_, by rw [t_DP0011]; exact all_P hc hz h5 (all_E0 hc hE (all_X0 hc hX (all_I1 hc hz hI (all_T1 hc hz h5 hT))))⟩
  · exact ⟨_, by rw [t_DP0010]; exact all_P hc hz h5 (all_E0 hc hE (all_X0 hc hX (all_I1 hc hz hI (all_T0 hc hT))))⟩
  · exact ⟨_, by rw [t_DP0001]; exact all_P hc hz h5 (all_E0 hc hE (all_X0 hc hX (all_I0 hc hI (all_T1 hc hz h5 hT))))⟩
  · exact ⟨_, by rw [t_DP0000]; exact all_P hc hz h5 (all_E0 hc hE (all_X0 hc hX (all_I0 hc hI (all_T0 hc hT))))⟩
theorem DomainParts_ok : ConOK P 18 c_DomainParts := con_force (allOKL mixed d18_ok lDP_ok) 10 18 fun args r hh => by
  unfold c_DomainParts at hh
  split at hh
  · rename_i n f k s h a b
    have d := (T.is_ask hh).1
    obtain rfl := T.is_ret (T.is_ask hh).2
    exact way_all d
  · exact hh.elim
end Go.RX.Span

