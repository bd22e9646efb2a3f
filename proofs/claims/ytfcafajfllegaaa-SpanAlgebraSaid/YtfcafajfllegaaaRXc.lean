/- Single operations over symbolic values, and that they say what the model's operations do. -/
import Derived.Test.YtfcafajfllegaaaRXb
set_option linter.unusedVariables false
set_option linter.unusedSimpArgs false
namespace Go.RX
open Go Go.RowKit

/-- What an operation yields: its value; the blocks that it writes (or makes), those that it reads; how many numbers it uses up; whether it must stand in its place among all that touch memory. -/
structure Out where
  sv : SV
  wr : List (Nat × Option Blk) := []
  rd : List Nat := []
  nn : Nat := 0
  bar : Bool := false

def ev (sl : List SV) : Operand → SV
  | .tmp t => sl.getD t (.lit undef)
  | .const v => .ofVal v
  | .global g => .lit (.pointer (some ⟨g, 0, none⟩))
  | .func f => .fn (.func f) [] []

/-- The frame. -/
structure FInv (bs : Bs) (lv : Nat → Prop) (w : World) (sl : List SV) (a : Act) : Prop where
  rep : RepL bs lv w sl a.tmps.toList
  defers : a.defers = []

theorem FInv.ev {bs : Bs} {lv : Nat → Prop} {w : World} {sl : List SV} {a : Act} (h : FInv bs lv w sl a) (x : Operand) : Rep bs lv w (ev sl x) (a.eval x) := by
  cases x with
  | tmp t => simpa [RX.ev, Act.eval] using h.rep.getD t
  | const v => exact rep_ofVal v
  | global g => exact rfl
  | func f => exact ⟨[], [], rfl, .nil, .nil⟩

def mupd (m : Nat → Option Blk) (wr : List (Nat × Option Blk)) : Nat → Option Blk := wr.foldl (fun m p => upd m p.1 p.2) m

def news (D : Nat → Prop) (nid nn : Nat) : Nat → Prop := fun x => D x ∨ (nid ≤ x ∧ x < nid + nn)

theorem MInv.monoD {lv0 : Nat → Prop} {w0 w : World} {bs : Bs} {D D' : Nat → Prop} {m : Nat → Option Blk} (h : MInv lv0 w0 bs D m w) (hD : ∀ x, D x → D' x) : MInv lv0 w0 bs D' m w :=
  { h with dom := fun b hb => h.dom b fun hd => hb (hD b hd) }
theorem MInv.eqD {lv0 : Nat → Prop} {w0 w : World} {bs : Bs} {D D' : Nat → Prop} {m : Nat → Option Blk} (h : MInv lv0 w0 bs D m w) (hD : ∀ x, D x ↔ D' x) : MInv lv0 w0 bs D' m w :=
  h.monoD fun x => (hD x).1

/-- What running an operation comes to: a value in a later world of which the new knowledge holds. -/
def Yields (lv0 : Nat → Prop) (w0 : World) (bs : Bs) (D : Nat → Prop) (m : Nat → Option Blk) (w : World) (nid : Nat) (out : Out) (r : Result Next) : Prop :=
  ∃ v w' bs', (r = .ok (.value v) w' ∨ (r = .ok .skip w' ∧ v = undef)) ∧ MInv lv0 w0 bs' (news D nid out.nn) (mupd m out.wr) w' ∧
    Ext bs (live lv0 bs m) w bs' (live lv0 bs' (mupd m out.wr)) w' ∧ Rep bs' (live lv0 bs' (mupd m out.wr)) w' out.sv v

def pureO (s : SV) : T Out := .ret ⟨s, [], [], 0, false⟩

section
variable {P : Program} {lv0 : Nat → Prop} {w0 w : World} {bs : Bs} {D : Nat → Prop} {m : Nat → Option Blk} {nid : Nat}

theorem yields_pure (h : MInv lv0 w0 bs D m w) {s : SV} {v : Value} {rd : List Nat} {bar : Bool} {r : Result Next} (hr : r = .ok (.value v) w) (hs : Rep bs (live lv0 bs m) w s v) :
    Yields lv0 w0 bs D m w nid ⟨s, [], rd, 0, bar⟩ r :=
  ⟨v, w, bs, .inl hr, h.monoD (fun x => .inl), Ext.refl _ _ _, hs⟩

end

/-! ### Integers -/
def SV.asInt : SV → Option (IntKind × Int)
  | .lit (.int k n) => some (k, n)
  | .ki k n => some (k, n)
  | _ => none
theorem asInt_rep {bs : Bs} {lv : Nat → Prop} {w : World} {s : SV} {v : Value} {k : IntKind} {n : Int} (h : Rep bs lv w s v) (hs : s.asInt = some (k, n)) : v = .int k n := by
  cases s <;> simp [SV.asInt] at hs
  case lit u =>
    obtain rfl : v = u := h
    cases v <;> simp [SV.asInt] at hs
    obtain ⟨rfl, rfl⟩ := hs; rfl
  case ki k' n' => obtain ⟨rfl, rfl⟩ := hs; exact h

def SV.asBool : SV → Option Bool
  | .lit (.bool b) => some b
  | .kb b => some b
  | _ => none
theorem asBool_rep {bs : Bs} {lv : Nat → Prop} {w : World} {s : SV} {v : Value} {b : Bool} (h : Rep bs lv w s v) (hs : s.asBool = some b) : v = .bool b := by
  cases s <;> simp [SV.asBool] at hs
  case lit u =>
    obtain rfl : v = u := h
    cases v <;> simp [SV.asBool] at hs
    subst hs; rfl
  case kb b' => subst hs; exact h

def SV.asStr : SV → Option ByteArray
  | .lit (.string b) => some b
  | _ => none
theorem asStr_rep {bs : Bs} {lv : Nat → Prop} {w : World} {s : SV} {v : Value} {b : ByteArray} (h : Rep bs lv w s v) (hs : s.asStr = some b) : v = .string b := by
  cases s <;> simp [SV.asStr] at hs
  case lit u =>
    obtain rfl : v = u := h
    cases v <;> simp [SV.asStr] at hs
    subst hs; rfl

/-- Arithmetic of whole numbers. -/
noncomputable def ibin (op : BinOp) (k : IntKind) (a b : Int) : T SV :=
  match op with
  | .add => .ret (.lit (.int k (U.add k a b)))
  | .sub => .ret (.lit (.int k (U.sub k a b)))
  | .mul => .ret (.lit (.int k (U.mul k a b)))
  | .quo => .ask (b ≠ 0) (.ret (.lit (.int k (U.quo k a b))))
  | .rem => .ask (b ≠ 0) (.ret (.lit (.int k (U.rem a b))))
  | .eql => .ret (.lit (.bool (U.eq a b)))
  | .neq => .ret (.lit (.bool (U.ne a b)))
  | .lss => .ret (.lit (.bool (U.lt a b)))
  | .leq => .ret (.lit (.bool (U.le a b)))
  | .gtr => .ret (.lit (.bool (U.gt a b)))
  | .geq => .ret (.lit (.bool (U.ge a b)))
  | .and => .ret (.lit (.int k (U.and k a b)))
  | .or => .ret (.lit (.int k (U.or k a b)))
  | .xor => .ret (.lit (.int k (U.xor k a b)))
  | _ => .stuck 1

/-- Comparisons of numbers that are written out. -/
def kcmp (op : BinOp) (a b : Int) : Option Bool :=
  match op with
  | .eql => some (decide (a = b))
  | .neq => some (!decide (a = b))
  | .lss => some (decide (a < b))
  | .leq => some (decide (a ≤ b))
  | .gtr => some (decide (a > b))
  | .geq => some (decide (a ≥ b))
  | _ => none
theorem kcmp_run {P : Program} {w : World} {op : BinOp} {k : IntKind} {a b : Int} {r : Bool} (t : TypeId) (h : kcmp op a b = some r) : (binOp op t (.int k a) (.int k b)).run P w = .ok (.bool r) w := by
  cases op <;> simp only [kcmp, Option.some.injEq, reduceCtorEq] at h <;> subst h <;> simp [binOp, Op.intCmp] <;> rfl

theorem ibin_lit {op : BinOp} {k : IntKind} {a b : Int} {s : SV} (h : (ibin op k a b).Is s) : ∃ v, s = .lit v := by
  cases op <;> simp only [ibin, T.Is] at h <;> first | exact ⟨_, h.symm⟩ | exact ⟨_, h.2.symm⟩ | exact h.elim
theorem ibin_run {P : Program} {w : World} {op : BinOp} {k : IntKind} {a b : Int} {v : Value} (t : TypeId) (h : (ibin op k a b).Is (.lit v)) :
    (binOp op t (.int k a) (.int k b)).run P w = .ok v w := by
  cases op <;> simp only [ibin, T.Is, SV.lit.injEq] at h
  all_goals first
    | exact h.elim
    | (subst h; simp [binOp, Op.intArith, Op.intCmp, Op.intBits, U.add_eq, U.sub_eq, U.mul_eq, U.eq_eq, U.ne_eq, U.lt_eq, U.le_eq, U.gt_eq, U.ge_eq, U.and_eq, U.or_eq, U.xor_eq]; done)
    | (obtain ⟨h0, rfl⟩ := h; simp [binOp, Op.intDiv, h0, U.quo_eq, U.rem_eq]; done)

theorem eqGuard_int {P : Program} {w : World} (op : BinOp) (t : TypeId) (x y : Operand) (k k' : IntKind) (a b : Int) : (eqGuard op t x y (.int k a) (.int k' b)).run P w = .ok () w := by
  cases op <;> simp [eqGuard]
theorem eqGuard_bool {P : Program} {w : World} (op : BinOp) (t : TypeId) (x y : Operand) (a b : Bool) : (eqGuard op t x y (.bool a) (.bool b)).run P w = .ok () w := by
  cases op <;> simp [eqGuard]

/-! ### Aggregates -/
def aggD : TypeDesc → Bool
  | .struct _ | .array _ _ => true
  | _ => false
theorem run_isAgg {P : Program} {w : World} {t : TypeId} {d : TypeDesc} (h : P.underlying t = some d) : (isAgg t).run P w = .ok (aggD d) w := by
  cases d <;> simp [isAgg, run_underlying h, aggD]
theorem run_typeInfo' {P : Program} {w : World} {t : TypeId} {i : TypeInfo} (h : P.info? t = some i) : (typeInfo t).run P w = .ok i w := by simp [typeInfo, h]
theorem run_sizeOf' {P : Program} {w : World} {t : TypeId} {i : TypeInfo} (h : P.info? t = some i) : (sizeOf t).run P w = .ok i.size w := by simp [sizeOf, run_typeInfo' h]

def optS {α : Type} (n : Nat) : Option α → T α
  | some a => .ret a
  | none => .stuck n
theorem optS_is {α : Type} {n : Nat} {o : Option α} {a : α} (h : (optS n o).Is a) : o = some a := by
  cases o with
  | none => exact h.elim
  | some b => exact congrArg some h

/-- A part of a row of cells. -/
def partO (P : Program) (t : TypeId) (cs : List SV) (off : Nat) : Option SV :=
  match P.info? t, P.underlying t with
  | some i, some d => bif aggD d then bif Nat.ble (off + i.size) cs.length then some (.agg ((cs.drop off).take i.size)) else none else cs[off]?
  | _, _ => none
theorem partO_sound {P : Program} {bs : Bs} {lv : Nat → Prop} {w : World} {t : TypeId} {cs : List SV} {us : List Value} {off : Nat} {s : SV} (h : partO P t cs off = some s) (hr : RepL bs lv w cs us) :
    ∃ v, (part t us.toArray off).run P w = .ok v w ∧ Rep bs lv w s v := by
  unfold partO at h
  split at h
  · rename_i i d h1 h2
    cases hd : aggD d
    · simp only [hd, cond_false] at h
      obtain ⟨v, hv, hrv⟩ := hr.get _ _ h
      exact ⟨v, by simp [part, run_isAgg h2, hd, hv], hrv⟩
    · simp only [hd, cond_true] at h
      cases hb : Nat.ble (off + i.size) cs.length
      · rw [hb] at h; cases h
      · simp only [hb, cond_true, Option.some.injEq] at h
        subst h
        refine ⟨.agg ((us.drop off).take i.size).toArray, ?_, ⟨_, rfl, (hr.drop off).take _⟩⟩
        simp [part, run_isAgg h2, hd, run_sizeOf' h1]
  · cases h

/-! ### Equality -/
noncomputable def eqFs (P : Program) (E : TypeId → SV → SV → Option Bool) (xs ys : List SV) : List Field → Option Bool
  | [] => some true
  | f :: fs =>
    if f.name = "_" then none else
    match partO P f.type xs f.offset, partO P f.type ys f.offset with
    | some a, some b =>
      match E f.type a b with
      | some r =>
        match fs with
        | [] => some r
        | _ => (eqFs P E xs ys fs).map (U.andb r ·)
      | none => none
    | _, _ => none
noncomputable def eqV (P : Program) : Nat → TypeId → SV → SV → Option Bool
  | 0, _, _, _ => none
  | d + 1, t, x, y =>
    match P.underlying t with
    | some (.int _) =>
      match x.asInt, y.asInt with
      | some (k, a), some (k', b) => if k = k' then some (U.eq a b) else none
      | _, _ => none
    | some .bool =>
      match x.asBool, y.asBool with
      | some a, some b => some (U.beq a b)
      | _, _ => none
    | some .string =>
      match x.asStr, y.asStr with
      | some a, some b => some (U.seq a b)
      | _, _ => none
    | some (.struct fs) =>
      match x, y with
      | .agg xs, .agg ys => bif P.stoodInHeld t then none else eqFs P (fun t x y => eqV P d t x y) xs ys fs.toList
      | _, _ => none
    | _ => none
theorem eqVF_sound {P : Program} {bs : Bs} {lv : Nat → Prop} {w : World} : ∀ (d : Nat),
    (∀ (t : TypeId) (x y : SV) (u v : Value) (r : Bool), eqV P d t x y = some r → Rep bs lv w x u → Rep bs lv w y v → ∀ D, d ≤ D → (Op.equalIn D t u v).run P w = .ok r w) ∧
    (∀ (fs : List Field) (xs ys : List SV) (us vs : List Value) (r : Bool), eqFs P (fun t x y => eqV P d t x y) xs ys fs = some r → RepL bs lv w xs us → RepL bs lv w ys vs → ∀ D, d ≤ D → (Op.eqFields D us.toArray vs.toArray fs).run P w = .ok r w) := by
  intro d
  have key : ∀ d, (∀ (t : TypeId) (x y : SV) (u v : Value) (r : Bool), eqV P d t x y = some r → Rep bs lv w x u → Rep bs lv w y v → ∀ D, d ≤ D → (Op.equalIn D t u v).run P w = .ok r w) →
      ∀ (fs : List Field) (xs ys : List SV) (us vs : List Value) (r : Bool), eqFs P (fun t x y => eqV P d t x y) xs ys fs = some r → RepL bs lv w xs us → RepL bs lv w ys vs → ∀ D, d ≤ D → (Op.eqFields D us.toArray vs.toArray fs).run P w = .ok r w := by
    intro d ih fs
    induction fs with
    | nil => intro xs ys us vs r h hx hy D hD; simp only [eqFs, Option.some.injEq] at h; subst h; simp [Op.eqFields]
    | cons f fs ihf =>
      intro xs ys us vs r h hx hy D hD
      rw [eqFs] at h
      split at h
      · cases h
      · rename_i hn
        split at h
        · rename_i a b ha hb
          obtain ⟨va, ra, rpa⟩ := partO_sound ha hx
          obtain ⟨vb, rb, rpb⟩ := partO_sound hb hy
          split at h
          · rename_i r1 hr1
            have he := ih _ _ _ _ _ _ hr1 rpa rpb D hD
            cases fs with
            | nil =>
              simp only [Option.some.injEq] at h; subst h
              simp only [Op.eqFields, ne_eq, hn, not_false_eq_true, if_true, Sem.run_bind, ra, rb, he, Result.andThen_ok]
              cases r1 <;> simp
            | cons g fs =>
              simp only [Option.map_eq_some_iff] at h
              obtain ⟨s, hs, rfl⟩ := h
              have h2 := ihf xs ys us vs s hs hx hy D hD
              rw [Op.eqFields, U.andb_eq]
              simp only [ne_eq, hn, not_false_eq_true, if_true, Sem.run_bind, ra, rb, he, Result.andThen_ok]
              cases r1
              · simp
              · simpa using h2
          · cases h
        · cases h
  have key2 : ∀ d, (∀ (t : TypeId) (x y : SV) (u v : Value) (r : Bool), eqV P d t x y = some r → Rep bs lv w x u → Rep bs lv w y v → ∀ D, d ≤ D → (Op.equalIn D t u v).run P w = .ok r w) := by
    intro d
    induction d with
    | zero => intro t x y u v r h; simp [eqV] at h
    | succ d ih =>
      intro t x y u v r h hx hy D hD
      obtain ⟨D, rfl⟩ : ∃ E, D = E + 1 := ⟨D - 1, by omega⟩
      rw [eqV] at h
      split at h
      · rename_i k hu
        split at h
        · rename_i k1 a k2 b h1 h2
          split at h
          · rename_i hk; subst hk
            obtain rfl := asInt_rep hx h1
            obtain rfl := asInt_rep hy h2
            cases h
            rw [U.eq_eq]; exact run_equalIn_int w D t k1 k a b hu
          · cases h
        · cases h
      · rename_i hu
        split at h
        · rename_i a b h1 h2
          obtain rfl := asBool_rep hx h1
          obtain rfl := asBool_rep hy h2
          cases h
          rw [U.beq_eq]; exact run_equalIn_bool' w D t a b hu
        · cases h
      · rename_i hu
        split at h
        · rename_i a b h1 h2
          obtain rfl := asStr_rep hx h1
          obtain rfl := asStr_rep hy h2
          cases h
          rw [U.seq_eq]; exact run_equalIn_string w D t a b hu
        · cases h
      · rename_i fs hu
        split at h
        · rename_i xs ys
          cases hp : P.stoodInHeld t
          · simp only [hp, cond_false] at h
            obtain ⟨us, rfl, hus⟩ := hx
            obtain ⟨vs, rfl, hvs⟩ := hy
            have hf : P.fieldsOf t = fs := by simp [Program.fieldsOf, hu]
            rw [run_equalIn_struct (P := P) w D t us.toArray vs.toArray (by rw [hf]; exact hu) hp, hf]
            exact key d ih fs.toList xs ys us vs r h hus hvs D (by omega)
          · simp [hp] at h
        · cases h
      · cases h
  exact ⟨key2 d, key d (key2 d)⟩

/-- Sums of small numbers that are written out. -/
def ksum (op : BinOp) (k : IntKind) (a b : Int) : Option Int :=
  match op, k, a, b with
  | .add, .i64, .ofNat x, .ofNat y => bif Nat.blt (x + y) 4611686018427387904 then some (.ofNat (x + y)) else none
  | .sub, .i64, .ofNat x, .ofNat y => bif Nat.ble y x && Nat.blt x 4611686018427387904 then some (.ofNat (x - y)) else none
  | _, _, _, _ => none
theorem ksum_run {P : Program} {w : World} {op : BinOp} {k : IntKind} {a b r : Int} (t : TypeId) (h : ksum op k a b = some r) : (binOp op t (.int k a) (.int k b)).run P w = .ok (.int k r) w := by
  unfold ksum at h
  split at h
  · rename_i x y
    cases hb : Nat.blt (x + y) 4611686018427387904
    · rw [hb] at h; cases h
    rw [hb] at h
    simp only [cond_true, Option.some.injEq] at h
    rw [Nat.blt_eq] at hb
    have e : U.add .i64 (Int.ofNat x) (Int.ofNat y) = r := by
      rw [U.add_eq, ← h]
      have : Int.ofNat x + Int.ofNat y = Int.ofNat (x + y) := by simp
      rw [this]
      exact IntWalk.i64_in _ ⟨by simp only [Int.ofNat_eq_natCast]; omega, by simp only [Int.ofNat_eq_natCast]; omega⟩
    rw [ibin_run (op := .add) (v := .int .i64 (U.add .i64 (Int.ofNat x) (Int.ofNat y))) t rfl, e]
  · rename_i x y
    cases hb : Nat.ble y x && Nat.blt x 4611686018427387904
    · rw [hb] at h; cases h
    rw [hb] at h
    simp only [cond_true, Option.some.injEq] at h
    rw [Bool.and_eq_true, Nat.blt_eq] at hb
    have hle := Nat.le_of_ble_eq_true hb.1
    have e : U.sub .i64 (Int.ofNat x) (Int.ofNat y) = r := by
      rw [U.sub_eq, ← h]
      have : Int.ofNat x - Int.ofNat y = Int.ofNat (x - y) := by simp only [Int.ofNat_eq_natCast]; omega
      rw [this]
      exact IntWalk.i64_in _ ⟨by simp only [Int.ofNat_eq_natCast]; omega, by simp only [Int.ofNat_eq_natCast]; omega⟩
    rw [ibin_run (op := .sub) (v := .int .i64 (U.sub .i64 (Int.ofNat x) (Int.ofNat y))) t rfl, e]
  · cases h

/-- Both written out. -/
def bothK (x y : SV) : Bool :=
  match x, y with
  | .ki _ _, .ki _ _ => true
  | _, _ => false

noncomputable def binS0 (P : Program) (op : BinOp) (t : TypeId) (x y : SV) : T SV :=
  match x.asInt, y.asInt with
  | some (k, a), some (k', b) =>
    if k = k' then
      match bothK x y, kcmp op a b with
      | true, some r => .ret (.kb r)
      | true, none =>
        match ksum op k a b with
        | some r => .ret (.ki k r)
        | none => ibin op k a b
      | _, _ => ibin op k a b
    else .stuck 2
  | _, _ =>
    match x.asBool, y.asBool, P.underlying t with
    | some a, some b, some .bool =>
      match op with
      | .eql => .ret (.lit (.bool (U.beq a b)))
      | .neq => .ret (.lit (.bool (U.not (U.beq a b))))
      | _ => .stuck 3
    | _, _, _ =>
      match x, y with
      | .agg xs, .agg ys =>
        bif P.eqGuardType P.depth t then .stuck 4 else
        match eqV P 20 t (.agg xs) (.agg ys), op with
        | some r, .eql => .ret (.lit (.bool r))
        | some r, .neq => .ret (.lit (.bool (U.not r)))
        | _, _ => .stuck 4
      | _, _ => .stuck 4

theorem binS0_sound {P : Program} {bs : Bs} {lv : Nat → Prop} {w : World} {op : BinOp} {t : TypeId} {x y : SV} {s : SV} {u v : Value} (xo yo : Operand)
    (h : (binS0 P op t x y).Is s) (hx : Rep bs lv w x u) (hy : Rep bs lv w y v) :
    ∃ r, (do eqGuard op t xo yo u v; binOp op t u v : Sem Value).run P w = .ok r w ∧ Rep bs lv w s r := by
  unfold binS0 at h
  split at h
  · rename_i k a k' b h1 h2
    obtain rfl := asInt_rep hx h1
    obtain rfl := asInt_rep hy h2
    split at h
    · rename_i hk; subst hk
      split at h
      · rename_i r _ hr
        obtain rfl : _ = s := h
        exact ⟨.bool r, by simp [eqGuard_int, kcmp_run t hr], rfl⟩
      · split at h
        · rename_i r hr
          obtain rfl : _ = s := h
          exact ⟨.int _ r, by simp [eqGuard_int, ksum_run t hr], rfl⟩
        · obtain ⟨r, rfl⟩ := ibin_lit h
          exact ⟨r, by simp [eqGuard_int, ibin_run t h], rfl⟩
      · obtain ⟨r, rfl⟩ := ibin_lit h
        exact ⟨r, by simp [eqGuard_int, ibin_run t h], rfl⟩
    · exact h.elim
  · split at h
    · rename_i a b h1 h2 h3
      obtain rfl := asBool_rep hx h1
      obtain rfl := asBool_rep hy h2
      have he : (Op.equal t (.bool a) (.bool b)).run P w = .ok (a == b) w := by
        unfold Op.equal
        rw [show Op.maxDepth = 9999 + 1 from rfl]
        exact run_equalIn_bool' w 9999 t a b h3
      cases op <;> simp only [T.Is] at h
      case eql =>
        subst h
        refine ⟨_, ?_, rfl⟩
        rw [Sem.run_bind, eqGuard_bool, U.beq_eq]
        show (do pure (.bool (← Op.equal t (.bool a) (.bool b))) : Sem Value).run P w = _
        rw [Sem.run_bind, he]; rfl
      case neq =>
        subst h
        refine ⟨_, ?_, rfl⟩
        rw [Sem.run_bind, eqGuard_bool, U.beq_eq, U.not_eq]
        show (do pure (.bool (!(← Op.equal t (.bool a) (.bool b)))) : Sem Value).run P w = _
        rw [Sem.run_bind, he]; rfl
    · split at h
      · rename_i xs ys _ _
        cases hg : P.eqGuardType P.depth t
        · simp only [hg, cond_false] at h
          have hx' := hx
          have hy' := hy
          obtain ⟨us, rfl, hus⟩ := hx
          obtain ⟨vs, rfl, hvs⟩ := hy
          have hgd : (eqGuard op t xo yo (.agg us.toArray) (.agg vs.toArray)).run P w = .ok () w := run_eqGuard_agg w op t xo yo _ _ hg
          split at h
          · rename_i r hr
            obtain rfl : _ = s := h
            refine ⟨_, ?_, rfl⟩
            rw [Sem.run_bind, hgd, Result.andThen_ok, run_eql_struct, (eqVF_sound (w := w) 20).1 _ _ _ _ _ _ hr hx' hy' 10000 (by decide)]; rfl
          · rename_i r hr
            obtain rfl : _ = s := h
            refine ⟨_, ?_, rfl⟩
            rw [U.not_eq, Sem.run_bind, hgd, Result.andThen_ok, run_neq_struct, (eqVF_sound (w := w) 20).1 _ _ _ _ _ _ hr hx' hy' 10000 (by decide)]; rfl
          · exact h.elim
        · simp only [hg, cond_true] at h; exact h.elim
      · exact h.elim

/-- Comparisons with nil. -/
noncomputable def nilCmp (P : Program) (t : TypeId) (x y : SV) : Option SV :=
  match P.underlying t, y with
  | some (.func _ _ _), .lit .nilFunc =>
    match x with
    | .fn _ _ _ => some (.kb false)
    | .lit .nilFunc => some (.kb true)
    | _ => none
  | some (.slice _), .lit (.slice none _ _) =>
    match x with
    | .own z _ _ => some (.lit (.bool z))
    | .csl _ _ _ _ => some (.kb false)
    | .lit (.slice none _ _) => some (.kb true)
    | _ => none
  | _, _ => none
theorem eqrun {P : Program} {w : World} {t : TypeId} {u v : Value} {b : Bool} (h : ∀ d, (Op.equalIn (d + 1) t u v).run P w = .ok b w) : (Op.equal t u v).run P w = .ok b w := by
  unfold Op.equal
  rw [show Op.maxDepth = 9999 + 1 from rfl]
  exact h 9999
theorem nilCmp_sound {P : Program} {bs : Bs} {lv : Nat → Prop} {w : World} {t : TypeId} {x y s : SV} {u v : Value} (xo yo : Operand) (op : BinOp) (h : nilCmp P t x y = some s) (hx : Rep bs lv w x u) (hy : Rep bs lv w y v) :
    ∃ b, s.asBool = some b ∧ (Op.equal t u v).run P w = .ok b w ∧ (eqGuard op t xo yo u v).run P w = .ok () w ∧
      (binOp .eql t u v = do pure (.bool (← Op.equal t u v))) ∧ (binOp .neq t u v = do pure (.bool (!(← Op.equal t u v)))) := by
  unfold nilCmp at h
  split at h
  · rename_i ps rs vr ht
    obtain rfl : v = _ := hy
    split at h
    · cases h
      obtain ⟨us, ts, rfl, _⟩ := hx
      exact ⟨false, rfl, eqrun fun d => by simp [Op.equalIn, run_underlying ht], by cases op <;> simp [eqGuard], rfl, rfl⟩
    · cases h
      obtain rfl : u = _ := hx
      exact ⟨true, rfl, eqrun fun d => by simp [Op.equalIn, run_underlying ht], by cases op <;> simp [eqGuard], rfl, rfl⟩
    · cases h
  · rename_i e n c ht
    obtain rfl : v = _ := hy
    split at h
    · rename_i z b n
      cases h
      refine ⟨z, rfl, ?_⟩
      rcases hx with ⟨rfl, rfl, rfl⟩ | ⟨rfl, x, c, _, rfl, _⟩
      · exact ⟨eqrun fun d => by simp [Op.equalIn, run_underlying ht], by cases op <;> simp [eqGuard], rfl, rfl⟩
      · exact ⟨eqrun fun d => by simp [Op.equalIn, run_underlying ht], by cases op <;> simp [eqGuard], rfl, rfl⟩
    · cases h
      obtain ⟨x, c, cap, _, rfl, _⟩ := hx
      exact ⟨false, rfl, eqrun fun d => by simp [Op.equalIn, run_underlying ht], by cases op <;> simp [eqGuard], rfl, rfl⟩
    · cases h
      obtain rfl : u = _ := hx
      exact ⟨true, rfl, eqrun fun d => by simp [Op.equalIn, run_underlying ht], by cases op <;> simp [eqGuard], rfl, rfl⟩
    · cases h
  · cases h

noncomputable def notS : SV → SV
  | .kb b => .kb (!b)
  | .lit (.bool b) => .lit (.bool (U.not b))
  | s => s

noncomputable def binS (P : Program) (op : BinOp) (t : TypeId) (x y : SV) : T SV :=
  match op with
  | .shl => match x.asInt, y.asInt with | some (k, a), some (_, b) => .ask (0 ≤ b) (.ret (.lit (.int k (U.shl k a b)))) | _, _ => .stuck 7
  | .shr => match x.asInt, y.asInt with | some (k, a), some (_, b) => .ask (0 ≤ b) (.ret (.lit (.int k (U.shr k a b)))) | _, _ => .stuck 7
  | .eql => match nilCmp P t x y with | some s => .ret s | none => binS0 P .eql t x y
  | .neq => match nilCmp P t x y with | some s => .ret (notS s) | none => binS0 P .neq t x y
  | op => binS0 P op t x y

theorem asBool_known {bs : Bs} {lv : Nat → Prop} {w : World} {s : SV} {b : Bool} (h : s.asBool = some b) : Rep bs lv w s (.bool b) ∧ Rep bs lv w (notS s) (.bool (!b)) := by
  cases s <;> simp [SV.asBool] at h
  · rename_i v
    cases v <;> simp [SV.asBool] at h
    subst h; exact ⟨rfl, by simp [notS, U.not_eq]; rfl⟩
  · subst h; exact ⟨rfl, rfl⟩

theorem binS_sound {P : Program} {bs : Bs} {lv : Nat → Prop} {w : World} {op : BinOp} {t : TypeId} {x y : SV} {s : SV} {u v : Value} (xo yo : Operand)
    (h : (binS P op t x y).Is s) (hx : Rep bs lv w x u) (hy : Rep bs lv w y v) :
    ∃ r, (do eqGuard op t xo yo u v; binOp op t u v : Sem Value).run P w = .ok r w ∧ Rep bs lv w s r := by
  have hsh : ∀ o : BinOp, o = .shl ∨ o = .shr → ∀ (k k' : IntKind) (a b : Int), 0 ≤ b → (do eqGuard o t xo yo (.int k a) (.int k' b); binOp o t (.int k a) (.int k' b) : Sem Value).run P w = .ok (.int k (if o = .shl then U.shl k a b else U.shr k a b)) w := by
    intro o ho k k' a b hb
    have hn : ¬ b < 0 := by omega
    rcases ho with rfl | rfl
    · simp [eqGuard, binOp, Op.shift, hn, U.shl_eq]
    · simp [eqGuard, binOp, Op.shift, hn, U.shr_eq]
  unfold binS at h
  split at h
  · split at h
    · rename_i k a k' b h1 h2
      obtain rfl := asInt_rep hx h1
      obtain rfl := asInt_rep hy h2
      obtain ⟨hb, h⟩ := h
      obtain rfl : _ = s := h
      exact ⟨_, hsh .shl (.inl rfl) k k' a b hb, rfl⟩
    · exact h.elim
  · split at h
    · rename_i k a k' b h1 h2
      obtain rfl := asInt_rep hx h1
      obtain rfl := asInt_rep hy h2
      obtain ⟨hb, h⟩ := h
      obtain rfl : _ = s := h
      exact ⟨_, hsh .shr (.inr rfl) k k' a b hb, rfl⟩
    · exact h.elim
  · split at h
    · rename_i s' hs
      obtain rfl : _ = s := h
      obtain ⟨b, h1, h2, h3, h4, h5⟩ := nilCmp_sound xo yo .eql hs hx hy
      refine ⟨.bool b, ?_, (asBool_known h1).1⟩
      rw [Sem.run_bind, h3, Result.andThen_ok, h4, Sem.run_bind, h2]; rfl
    · exact binS0_sound xo yo h hx hy
  · split at h
    · rename_i s' hs
      obtain rfl : _ = s := h
      obtain ⟨b, h1, h2, h3, h4, h5⟩ := nilCmp_sound xo yo .neq hs hx hy
      refine ⟨.bool (!b), ?_, (asBool_known h1).2⟩
      rw [Sem.run_bind, h3, Result.andThen_ok, h5, Sem.run_bind, h2]; rfl
    · exact binS0_sound xo yo h hx hy
  · exact binS0_sound xo yo h hx hy

noncomputable def unS (op : UnOp) (x : SV) : T SV :=
  match op, x.asInt, x.asBool with
  | .neg, some (k, n), _ => .ret (.lit (.int k (U.sub k 0 n)))
  | .not, _, some b => .ret (match x with | .kb c => .kb (!c) | _ => .lit (.bool (U.not b)))
  | _, _, _ => .stuck 5
theorem unS_sound {P : Program} {bs : Bs} {lv : Nat → Prop} {w : World} {op : UnOp} {x s : SV} {u : Value} (h : (unS op x).Is s) (hx : Rep bs lv w x u) :
    ∃ r, (Op.unary op u).run P w = .ok r w ∧ Rep bs lv w s r := by
  unfold unS at h
  split at h
  · rename_i k n h1
    obtain rfl := asInt_rep hx h1
    obtain rfl : _ = s := h
    exact ⟨_, by simp [Op.unary, Op.intArith, U.sub_eq]; rfl, by simp [U.sub_eq]; rfl⟩
  · rename_i b h1
    obtain rfl := asBool_rep hx h1
    obtain rfl : _ = s := h
    refine ⟨.bool (!b), by simp [Op.unary], ?_⟩
    split
    · rename_i c
      simp only [SV.asBool, Option.some.injEq] at h1
      subst h1; rfl
    · rw [U.not_eq]; rfl
  · exact h.elim

/-- A choice between two values. -/
noncomputable def pickS (c : SV) (x y : SV) : T SV :=
  match c with
  | .kb true => .ret x
  | .kb false => .ret y
  | .lit (.bool b) =>
    match x.asBool, y.asBool with
    | some p, some q => .ret (.lit (.bool (U.pick b p q)))
    | _, _ => .br b (.ret x) (.ret y)
  | _ => .stuck 6
theorem pickS_sound {P : Program} {bs : Bs} {lv : Nat → Prop} {w : World} {c x y s : SV} {vc vx vy : Value} (h : (pickS c x y).Is s) (hc : Rep bs lv w c vc) (hx : Rep bs lv w x vx) (hy : Rep bs lv w y vy) :
    ∃ b, vc = .bool b ∧ Rep bs lv w s (if b then vx else vy) := by
  unfold pickS at h
  split at h
  · obtain rfl : x = s := h; exact ⟨true, hc, by simpa using hx⟩
  · obtain rfl : y = s := h; exact ⟨false, hc, by simpa using hy⟩
  · rename_i b
    split at h
    · rename_i p q h1 h2
      obtain rfl : _ = s := h
      obtain rfl := asBool_rep hx h1
      obtain rfl := asBool_rep hy h2
      exact ⟨b, hc, by rw [U.pick_eq]; cases b <;> exact rfl⟩
    · rcases h with ⟨rfl, h⟩ | ⟨rfl, h⟩
      · obtain rfl : x = s := h; exact ⟨true, hc, by simpa using hx⟩
      · obtain rfl : y = s := h; exact ⟨false, hc, by simpa using hy⟩
  · exact h.elim

def fieldS (P : Program) (st : TypeId) (f : Nat) (x : SV) : T SV :=
  match P.underlying st, x with
  | some (.struct fs), .agg cs =>
    match fs[f]? with
    | some fl => optS 10 (partO P fl.type cs fl.offset)
    | none => .stuck 10
  | _, _ => .stuck 11
theorem fieldS_sound {P : Program} {bs : Bs} {lv : Nat → Prop} {w : World} {st : TypeId} {f : Nat} {x s : SV} {u : Value} (h : (fieldS P st f x).Is s) (hx : Rep bs lv w x u) :
    ∃ v, (Instr.field st u f).run P w = .ok v w ∧ Rep bs lv w s v := by
  unfold fieldS at h
  split at h
  · rename_i fs cs hu
    split at h
    · rename_i fl hf
      obtain ⟨us, rfl, hr⟩ := hx
      obtain ⟨v, hv, hrv⟩ := partO_sound (optS_is h) hr
      exact ⟨v, by simp [Instr.field, run_underlying hu, hf, asAgg, hv], hrv⟩
    · exact h.elim
  · exact h.elim

theorem Addr.add_mk (b o n : Nat) : (⟨b, o, none⟩ : Addr).add n = ⟨b, o + n, none⟩ := by unfold Addr.add; split <;> simp_all

def fieldAddrS (P : Program) (st : TypeId) (f : Nat) (x : SV) : T SV :=
  match P.underlying st with
  | some (.struct fs) =>
    match fs[f]? with
    | some fl =>
      match P.info? fl.type with
      | some i =>
        bif Nat.beq i.size 0 then .stuck 12 else
        match x with
        | .ptr b off => .ret (.ptr b (off + fl.offset))
        | .rptr n k c ix off => .ret (.rptr n k c ix (off + fl.offset))
        | .optr b ix off k => .ret (.optr b ix (off + fl.offset) k)
        | _ => .stuck 13
      | none => .stuck 14
    | none => .stuck 15
  | _ => .stuck 16
theorem fieldAddrS_sound {P : Program} {bs : Bs} {lv : Nat → Prop} {w : World} {st : TypeId} {f : Nat} {x s : SV} {u : Value} (h : (fieldAddrS P st f x).Is s) (hx : Rep bs lv w x u) :
    ∃ v, (Instr.fieldAt st u f).run P w = .ok v w ∧ Rep bs lv w s v := by
  unfold fieldAddrS at h
  split at h
  · rename_i fs hu
    split at h
    · rename_i fl hf
      split at h
      · rename_i i hi
        cases h0 : Nat.beq i.size 0
        · have h0' : ¬ i.size = 0 := fun e => by rw [e] at h0; cases h0
          simp only [h0, cond_false] at h
          split at h
          · obtain rfl : _ = s := h
            obtain ⟨x, c, h1, rfl⟩ := hx
            exact ⟨.pointer (some ⟨x, _, none⟩), (by simp [Instr.fieldAt, run_underlying hu, hf, Instr.sureAddr, fieldPlace, run_sizeOf' hi, h0', Addr.add_mk]; try rfl), x, c, h1, rfl⟩
          · obtain rfl : _ = s := h
            obtain ⟨x, off, rfl, h2⟩ := hx
            refine ⟨.pointer (some ⟨x, _, none⟩), (by simp [Instr.fieldAt, run_underlying hu, hf, Instr.sureAddr, fieldPlace, run_sizeOf' hi, h0', Addr.add_mk]; try rfl), x, off, ?_, h2⟩
            rw [Nat.add_assoc]
          · obtain rfl : _ = s := h
            obtain ⟨x, c, h1, rfl⟩ := hx
            refine ⟨.pointer (some ⟨x, _, none⟩), (by simp [Instr.fieldAt, run_underlying hu, hf, Instr.sureAddr, fieldPlace, run_sizeOf' hi, h0', Addr.add_mk]; try rfl), x, c, h1, ?_⟩
            rw [Nat.add_assoc]
          · exact h.elim
        · simp only [h0, cond_true] at h; exact h.elim
      · exact h.elim
    · exact h.elim
  · exact h.elim
end Go.RX
