/- Ranges: what the law of By of By returns. -/
import Derived.Test.YtfcafajfllegaaaSQa
import Derived.Test.YtfcafajfllegaaaSPw
import Derived.Test.YtfcafajfllegaaaSPz
set_option linter.unusedVariables false
set_option linter.unusedSimpArgs false
set_option maxRecDepth 100000
namespace Go.RX.Span
open Go Go.RX

noncomputable abbrev k11 : List (Nat × Con) := (36, c_Equal) :: (37, c_Concat) :: k10 --%K
theorem k11_ok : ∀ p ∈ k11, ConOK P p.1 p.2 := by
  intro p hp
  simp only [k11, List.mem_cons] at hp
  rcases hp with rfl | rfl | hp
  · exact Equal_ok
  · exact Concat_ok
  · exact k10_ok p (by simpa [k10] using hp)
theorem T.all_dup {α : Type} {K : α → Prop} {c1 c2 c3 : Bool} {r X : T α} (hX : X.All K) (h : c1 = true → c2 = true → c3 = false) : (T.br c1 (T.br c2 (T.br c3 r X) X) X).All K :=
  ⟨fun h1 => ⟨fun h2 => ⟨(fun h3 => by rw [h h1 h2] at h3; cases h3), fun _ => hX⟩, fun _ => hX⟩, fun _ => hX⟩
theorem right_i64 {a b c : Int} (h : Right a b c) : I64 a ∧ I64 b ∧ I64 c := by
  have h1 := h.1
  have h2 := right_c h
  unfold I64
  omega
theorem numsN_right {a b c : Int} (h : Right a b c) : ((numsN a b c 401 : Nat) : Int) = min (ofC a b c) 402 := by
  unfold numsN
  rw [size_eq' h]
  have := ofC_bnd h
  omega

theorem cat_val (n : Nat) (f g : Nat → Els [.int .i64]) (j : Nat) (x : Int) (h1 : j < n → (f j).1 = x) (h2 : ¬ j < n → (g (j - n)).1 = x) : (U.cat n f g j).1 = x := by
  rw [U.cat_eq]
  by_cases h : j < n
  · rw [if_pos h]; exact h1 h
  · rw [if_neg h]; exact h2 h
noncomputable def c_SpanByBy : Con := fun args => match args with
  | [.agg [.lit (.int .i64 a), .lit (.int .i64 b), .lit (.int .i64 c)], .lit (.int .i16 m), .lit (.int .i16 n), .lit (.int .u8 k)] => .ask (I64 a ∧ I64 b ∧ I64 c ∧ 0 ≤ k ∧ k ≤ 255) (.ret (.lit (.bool true)))
  | _ => .stuck 1
set_option maxRecDepth 100000 in
theorem t_SpanByBy (a b c m n k : Int) : conB Go.Proofs.Try.prog (conOf k11) noLoops 10 5 [.agg [.lit (.int .i64 a), .lit (.int .i64 b), .lit (.int .i64 c)], .lit (.int .i16 m), .lit (.int .i16 n), .lit (.int .u8 k)] =
    T.ask (I64 a ∧ I64 b ∧ I64 c)
    (T.br (U.not (lk smallB a b c)) (T.ret (SV.lit (Value.bool true)))
      (T.br (U.eq m (0 : Int)) (T.ret (SV.lit (Value.bool true)))
        (T.br (U.eq n (0 : Int)) (T.ret (SV.lit (Value.bool true)))
          (T.br (U.gt m (1000 : Int)) (T.ret (SV.lit (Value.bool true)))
            (T.br (U.lt m (-1000 : Int)) (T.ret (SV.lit (Value.bool true)))
              (T.br (U.gt n (1000 : Int)) (T.ret (SV.lit (Value.bool true)))
                (T.br (U.lt n (-1000 : Int)) (T.ret (SV.lit (Value.bool true)))
                  (T.ask (I64 a ∧ I64 b ∧ I64 c)
                    (T.br (U.ne (lk byErr a b c (U.wrap IntKind.i64 m)) (0 : Int)) (T.ret (SV.lit (Value.bool false)))
                      (T.ask
                        (I64 (lk byLow a b c (U.wrap IntKind.i64 m)) ∧
                          I64 (lk byHigh a b c (U.wrap IntKind.i64 m)) ∧ I64 (lk byStr a b c (U.wrap IntKind.i64 m)))
                        (T.ask (I64 a ∧ I64 b ∧ I64 c)
                          (T.br
                            (U.ne
                              (lk byErr (lk byLow a b c (U.wrap IntKind.i64 m)) (lk byHigh a b c (U.wrap IntKind.i64 m))
                                (lk byStr a b c (U.wrap IntKind.i64 m)) (U.wrap IntKind.i64 n))
                              (0 : Int))
                            (T.ret (SV.lit (Value.bool false)))
                            (T.br
                              (U.ne (lk byErr a b c (U.mul IntKind.i64 (U.wrap IntKind.i64 m) (U.wrap IntKind.i64 n)))
                                (0 : Int))
                              (T.ret (SV.lit (Value.bool false)))
                              (T.br (U.gt m (0 : Int))
                                (T.br (U.gt n (0 : Int))
                                  (T.br
                                    (U.not
                                      (U.andb
                                        (U.eq
                                          (lk byLow (lk byLow a b c (U.wrap IntKind.i64 m))
                                            (lk byHigh a b c (U.wrap IntKind.i64 m))
                                            (lk byStr a b c (U.wrap IntKind.i64 m)) (U.wrap IntKind.i64 n))
                                          (lk byLow a b c
                                            (U.mul IntKind.i64 (U.wrap IntKind.i64 m) (U.wrap IntKind.i64 n))))
                                        (U.andb
                                          (U.eq
                                            (lk byHigh (lk byLow a b c (U.wrap IntKind.i64 m))
                                              (lk byHigh a b c (U.wrap IntKind.i64 m))
                                              (lk byStr a b c (U.wrap IntKind.i64 m)) (U.wrap IntKind.i64 n))
                                            (lk byHigh a b c
                                              (U.mul IntKind.i64 (U.wrap IntKind.i64 m) (U.wrap IntKind.i64 n))))
                                          (U.eq
                                            (lk byStr (lk byLow a b c (U.wrap IntKind.i64 m))
                                              (lk byHigh a b c (U.wrap IntKind.i64 m))
                                              (lk byStr a b c (U.wrap IntKind.i64 m)) (U.wrap IntKind.i64 n))
                                            (lk byStr a b c
                                              (U.mul IntKind.i64 (U.wrap IntKind.i64 m) (U.wrap IntKind.i64 n)))))))
                                    (T.ret (SV.lit (Value.bool false)))
                                    (T.ask (I64 a ∧ I64 b ∧ I64 c)
                                      (T.ask
                                        (I64 (lk byLow a b c (-1 : Int)) ∧
                                          I64 (lk byHigh a b c (-1 : Int)) ∧ I64 (lk byStr a b c (-1 : Int)))
                                        (T.br (U.ne (lk byErr a b c (-1 : Int)) (0 : Int))
                                          (T.ret (SV.lit (Value.bool false)))
                                          (T.br
                                            (U.ne
                                              (lk byErr (lk byLow a b c (-1 : Int)) (lk byHigh a b c (-1 : Int))
                                                (lk byStr a b c (-1 : Int)) (-1 : Int))
                                              (0 : Int))
                                            (T.ret (SV.lit (Value.bool false)))
                                            (T.br
                                              (U.not
                                                (U.andb
                                                  (U.eq
                                                    (lk byLow (lk byLow a b c (-1 : Int)) (lk byHigh a b c (-1 : Int))
                                                      (lk byStr a b c (-1 : Int)) (-1 : Int))
                                                    a)
                                                  (U.andb
                                                    (U.eq
                                                      (lk byHigh (lk byLow a b c (-1 : Int))
                                                        (lk byHigh a b c (-1 : Int)) (lk byStr a b c (-1 : Int))
                                                        (-1 : Int))
                                                      b)
                                                    (U.eq
                                                      (lk byStr (lk byLow a b c (-1 : Int)) (lk byHigh a b c (-1 : Int))
                                                        (lk byStr a b c (-1 : Int)) (-1 : Int))
                                                      c))))
                                              (T.ret (SV.lit (Value.bool false)))
                                              (T.ask (I64 a ∧ I64 b ∧ I64 c)
                                                (T.ask (U.add IntKind.i64 (lk size a b c) (1 : Int) ≠ (0 : Int))
                                                  (T.ask
                                                    (I64 a ∧
                                                      I64 b ∧
                                                        I64 c ∧
                                                          I64
                                                            (U.rem (U.wrap IntKind.i64 k)
                                                              (U.add IntKind.i64 (lk size a b c) (1 : Int))))
                                                    (T.ask (I64 a ∧ I64 b ∧ I64 c)
                                                      (T.ask
                                                        (I64 a ∧
                                                          I64 b ∧
                                                            I64 c ∧
                                                              I64
                                                                (U.sub IntKind.i64
                                                                  (U.rem (U.wrap IntKind.i64 k)
                                                                    (U.add IntKind.i64 (lk size a b c) (1 : Int)))
                                                                  (lk size a b c)))
                                                        (T.br
                                                          (U.eq
                                                            (lk cntE a b c
                                                              (U.rem (U.wrap IntKind.i64 k)
                                                                (U.add IntKind.i64 (lk size a b c) (1 : Int))))
                                                            (0 : Int))
                                                          (T.br
                                                            (U.eq
                                                              (lk cntE a b c
                                                                (U.sub IntKind.i64
                                                                  (U.rem (U.wrap IntKind.i64 k)
                                                                    (U.add IntKind.i64 (lk size a b c) (1 : Int)))
                                                                  (lk size a b c)))
                                                              (0 : Int))
                                                            (T.ask
                                                              (I64
                                                                  (lk cntLow a b c
                                                                    (U.rem (U.wrap IntKind.i64 k)
                                                                      (U.add IntKind.i64 (lk size a b c) (1 : Int)))) ∧
                                                                I64
                                                                    (lk cntHigh a b c
                                                                      (U.rem (U.wrap IntKind.i64 k)
                                                                        (U.add IntKind.i64 (lk size a b c)
                                                                          (1 : Int)))) ∧
                                                                  I64
                                                                      (lk cntStr a b c
                                                                        (U.rem (U.wrap IntKind.i64 k)
                                                                          (U.add IntKind.i64 (lk size a b c)
                                                                            (1 : Int)))) ∧
                                                                    (0 : Int) ≤ (401 : Int) ∧
                                                                      (401 : Int) ≤ (1000000 : Int))
                                                              (T.ask
                                                                (I64
                                                                    (lk cntLow a b c
                                                                      (U.sub IntKind.i64
                                                                        (U.rem (U.wrap IntKind.i64 k)
                                                                          (U.add IntKind.i64 (lk size a b c) (1 : Int)))
                                                                        (lk size a b c))) ∧
                                                                  I64
                                                                      (lk cntHigh a b c
                                                                        (U.sub IntKind.i64
                                                                          (U.rem (U.wrap IntKind.i64 k)
                                                                            (U.add IntKind.i64 (lk size a b c)
                                                                              (1 : Int)))
                                                                          (lk size a b c))) ∧
                                                                    I64
                                                                        (lk cntStr a b c
                                                                          (U.sub IntKind.i64
                                                                            (U.rem (U.wrap IntKind.i64 k)
                                                                              (U.add IntKind.i64 (lk size a b c)
                                                                                (1 : Int)))
                                                                            (lk size a b c))) ∧
                                                                      (0 : Int) ≤ (401 : Int) ∧
                                                                        (401 : Int) ≤ (1000000 : Int))
                                                                (T.ask
                                                                  (lk numsN
                                                                        (lk cntLow a b c
                                                                          (U.rem (U.wrap IntKind.i64 k)
                                                                            (U.add IntKind.i64 (lk size a b c)
                                                                              (1 : Int))))
                                                                        (lk cntHigh a b c
                                                                          (U.rem (U.wrap IntKind.i64 k)
                                                                            (U.add IntKind.i64 (lk size a b c)
                                                                              (1 : Int))))
                                                                        (lk cntStr a b c
                                                                          (U.rem (U.wrap IntKind.i64 k)
                                                                            (U.add IntKind.i64 (lk size a b c)
                                                                              (1 : Int))))
                                                                        (401 : Int) +
                                                                      lk numsN
                                                                        (lk cntLow a b c
                                                                          (U.sub IntKind.i64
                                                                            (U.rem (U.wrap IntKind.i64 k)
                                                                              (U.add IntKind.i64 (lk size a b c)
                                                                                (1 : Int)))
                                                                            (lk size a b c)))
                                                                        (lk cntHigh a b c
                                                                          (U.sub IntKind.i64
                                                                            (U.rem (U.wrap IntKind.i64 k)
                                                                              (U.add IntKind.i64 (lk size a b c)
                                                                                (1 : Int)))
                                                                            (lk size a b c)))
                                                                        (lk cntStr a b c
                                                                          (U.sub IntKind.i64
                                                                            (U.rem (U.wrap IntKind.i64 k)
                                                                              (U.add IntKind.i64 (lk size a b c)
                                                                                (1 : Int)))
                                                                            (lk size a b c)))
                                                                        (401 : Int) ≤
                                                                    (1000000 : Nat))
                                                                  (T.ask
                                                                    (I64 a ∧
                                                                      I64 b ∧
                                                                        I64 c ∧
                                                                          (0 : Int) ≤ (401 : Int) ∧
                                                                            (401 : Int) ≤ (1000000 : Int))
                                                                    (T.ask
                                                                      (lk numsN
                                                                            (lk cntLow a b c
                                                                              (U.rem (U.wrap IntKind.i64 k)
                                                                                (U.add IntKind.i64 (lk size a b c)
                                                                                  (1 : Int))))
                                                                            (lk cntHigh a b c
                                                                              (U.rem (U.wrap IntKind.i64 k)
                                                                                (U.add IntKind.i64 (lk size a b c)
                                                                                  (1 : Int))))
                                                                            (lk cntStr a b c
                                                                              (U.rem (U.wrap IntKind.i64 k)
                                                                                (U.add IntKind.i64 (lk size a b c)
                                                                                  (1 : Int))))
                                                                            (401 : Int) +
                                                                          lk numsN
                                                                            (lk cntLow a b c
                                                                              (U.sub IntKind.i64
                                                                                (U.rem (U.wrap IntKind.i64 k)
                                                                                  (U.add IntKind.i64 (lk size a b c)
                                                                                    (1 : Int)))
                                                                                (lk size a b c)))
                                                                            (lk cntHigh a b c
                                                                              (U.sub IntKind.i64
                                                                                (U.rem (U.wrap IntKind.i64 k)
                                                                                  (U.add IntKind.i64 (lk size a b c)
                                                                                    (1 : Int)))
                                                                                (lk size a b c)))
                                                                            (lk cntStr a b c
                                                                              (U.sub IntKind.i64
                                                                                (U.rem (U.wrap IntKind.i64 k)
                                                                                  (U.add IntKind.i64 (lk size a b c)
                                                                                    (1 : Int)))
                                                                                (lk size a b c)))
                                                                            (401 : Int) ≤
                                                                        nat_lit 140737488351232)
                                                                      (T.br
                                                                        (lk eqR
                                                                          (lk numsN
                                                                              (lk cntLow a b c
                                                                                (U.rem (U.wrap IntKind.i64 k)
                                                                                  (U.add IntKind.i64 (lk size a b c)
                                                                                    (1 : Int))))
                                                                              (lk cntHigh a b c
                                                                                (U.rem (U.wrap IntKind.i64 k)
                                                                                  (U.add IntKind.i64 (lk size a b c)
                                                                                    (1 : Int))))
                                                                              (lk cntStr a b c
                                                                                (U.rem (U.wrap IntKind.i64 k)
                                                                                  (U.add IntKind.i64 (lk size a b c)
                                                                                    (1 : Int))))
                                                                              (401 : Int) +
                                                                            lk numsN
                                                                              (lk cntLow a b c
                                                                                (U.sub IntKind.i64
                                                                                  (U.rem (U.wrap IntKind.i64 k)
                                                                                    (U.add IntKind.i64 (lk size a b c)
                                                                                      (1 : Int)))
                                                                                  (lk size a b c)))
                                                                              (lk cntHigh a b c
                                                                                (U.sub IntKind.i64
                                                                                  (U.rem (U.wrap IntKind.i64 k)
                                                                                    (U.add IntKind.i64 (lk size a b c)
                                                                                      (1 : Int)))
                                                                                  (lk size a b c)))
                                                                              (lk cntStr a b c
                                                                                (U.sub IntKind.i64
                                                                                  (U.rem (U.wrap IntKind.i64 k)
                                                                                    (U.add IntKind.i64 (lk size a b c)
                                                                                      (1 : Int)))
                                                                                  (lk size a b c)))
                                                                              (401 : Int))
                                                                          (U.cat
                                                                            (lk numsN
                                                                              (lk cntLow a b c
                                                                                (U.rem (U.wrap IntKind.i64 k)
                                                                                  (U.add IntKind.i64 (lk size a b c)
                                                                                    (1 : Int))))
                                                                              (lk cntHigh a b c
                                                                                (U.rem (U.wrap IntKind.i64 k)
                                                                                  (U.add IntKind.i64 (lk size a b c)
                                                                                    (1 : Int))))
                                                                              (lk cntStr a b c
                                                                                (U.rem (U.wrap IntKind.i64 k)
                                                                                  (U.add IntKind.i64 (lk size a b c)
                                                                                    (1 : Int))))
                                                                              (401 : Int))
                                                                            (fun k_1 =>
                                                                              (lk num
                                                                                  (lk cntLow a b c
                                                                                    (U.rem (U.wrap IntKind.i64 k)
                                                                                      (U.add IntKind.i64 (lk size a b c)
                                                                                        (1 : Int))))
                                                                                  (lk cntHigh a b c
                                                                                    (U.rem (U.wrap IntKind.i64 k)
                                                                                      (U.add IntKind.i64 (lk size a b c)
                                                                                        (1 : Int))))
                                                                                  (lk cntStr a b c
                                                                                    (U.rem (U.wrap IntKind.i64 k)
                                                                                      (U.add IntKind.i64 (lk size a b c)
                                                                                        (1 : Int))))
                                                                                  k_1,
                                                                                PUnit.unit))
                                                                            fun k_1 =>
                                                                            (lk num
                                                                                (lk cntLow a b c
                                                                                  (U.sub IntKind.i64
                                                                                    (U.rem (U.wrap IntKind.i64 k)
                                                                                      (U.add IntKind.i64 (lk size a b c)
                                                                                        (1 : Int)))
                                                                                    (lk size a b c)))
                                                                                (lk cntHigh a b c
                                                                                  (U.sub IntKind.i64
                                                                                    (U.rem (U.wrap IntKind.i64 k)
                                                                                      (U.add IntKind.i64 (lk size a b c)
                                                                                        (1 : Int)))
                                                                                    (lk size a b c)))
                                                                                (lk cntStr a b c
                                                                                  (U.sub IntKind.i64
                                                                                    (U.rem (U.wrap IntKind.i64 k)
                                                                                      (U.add IntKind.i64 (lk size a b c)
                                                                                        (1 : Int)))
                                                                                    (lk size a b c)))
                                                                                k_1,
                                                                              PUnit.unit))
                                                                          (lk numsN a b c (401 : Int)) fun k =>
                                                                          (lk num a b c k, PUnit.unit))
                                                                        (T.ret (SV.lit (Value.bool true)))
                                                                        (T.ret (SV.lit (Value.bool false)))))))))
                                                            (T.ret (SV.lit (Value.bool false))))
                                                          (T.ret (SV.lit (Value.bool false)))))))))))))))
                                  (T.ask (I64 a ∧ I64 b ∧ I64 c)
                                    (T.ask
                                      (I64 (lk byLow a b c (-1 : Int)) ∧
                                        I64 (lk byHigh a b c (-1 : Int)) ∧ I64 (lk byStr a b c (-1 : Int)))
                                      (T.br (U.ne (lk byErr a b c (-1 : Int)) (0 : Int))
                                        (T.ret (SV.lit (Value.bool false)))
                                        (T.br
                                          (U.ne
                                            (lk byErr (lk byLow a b c (-1 : Int)) (lk byHigh a b c (-1 : Int))
                                              (lk byStr a b c (-1 : Int)) (-1 : Int))
                                            (0 : Int))
                                          (T.ret (SV.lit (Value.bool false)))
                                          (T.br
                                            (U.not
                                              (U.andb
                                                (U.eq
                                                  (lk byLow (lk byLow a b c (-1 : Int)) (lk byHigh a b c (-1 : Int))
                                                    (lk byStr a b c (-1 : Int)) (-1 : Int))
                                                  a)
                                                (U.andb
                                                  (U.eq
                                                    (lk byHigh (lk byLow a b c (-1 : Int)) (lk byHigh a b c (-1 : Int))
                                                      (lk byStr a b c (-1 : Int)) (-1 : Int))
                                                    b)
                                                  (U.eq
                                                    (lk byStr (lk byLow a b c (-1 : Int)) (lk byHigh a b c (-1 : Int))
                                                      (lk byStr a b c (-1 : Int)) (-1 : Int))
                                                    c))))
                                            (T.ret (SV.lit (Value.bool false)))
                                            (T.ask (I64 a ∧ I64 b ∧ I64 c)
                                              (T.ask (U.add IntKind.i64 (lk size a b c) (1 : Int) ≠ (0 : Int))
                                                (T.ask
                                                  (I64 a ∧
                                                    I64 b ∧
                                                      I64 c ∧
                                                        I64
                                                          (U.rem (U.wrap IntKind.i64 k)
                                                            (U.add IntKind.i64 (lk size a b c) (1 : Int))))
                                                  (T.ask (I64 a ∧ I64 b ∧ I64 c)
                                                    (T.ask
                                                      (I64 a ∧
                                                        I64 b ∧
                                                          I64 c ∧
                                                            I64
                                                              (U.sub IntKind.i64
                                                                (U.rem (U.wrap IntKind.i64 k)
                                                                  (U.add IntKind.i64 (lk size a b c) (1 : Int)))
                                                                (lk size a b c)))
                                                      (T.br
                                                        (U.eq
                                                          (lk cntE a b c
                                                            (U.rem (U.wrap IntKind.i64 k)
                                                              (U.add IntKind.i64 (lk size a b c) (1 : Int))))
                                                          (0 : Int))
                                                        (T.br
                                                          (U.eq
                                                            (lk cntE a b c
                                                              (U.sub IntKind.i64
                                                                (U.rem (U.wrap IntKind.i64 k)
                                                                  (U.add IntKind.i64 (lk size a b c) (1 : Int)))
                                                                (lk size a b c)))
                                                            (0 : Int))
                                                          (T.ask
                                                            (I64
                                                                (lk cntLow a b c
                                                                  (U.rem (U.wrap IntKind.i64 k)
                                                                    (U.add IntKind.i64 (lk size a b c) (1 : Int)))) ∧
                                                              I64
                                                                  (lk cntHigh a b c
                                                                    (U.rem (U.wrap IntKind.i64 k)
                                                                      (U.add IntKind.i64 (lk size a b c) (1 : Int)))) ∧
                                                                I64
                                                                    (lk cntStr a b c
                                                                      (U.rem (U.wrap IntKind.i64 k)
                                                                        (U.add IntKind.i64 (lk size a b c)
                                                                          (1 : Int)))) ∧
                                                                  (0 : Int) ≤ (401 : Int) ∧
                                                                    (401 : Int) ≤ (1000000 : Int))
                                                            (T.ask
                                                              (I64
                                                                  (lk cntLow a b c
                                                                    (U.sub IntKind.i64
                                                                      (U.rem (U.wrap IntKind.i64 k)
                                                                        (U.add IntKind.i64 (lk size a b c) (1 : Int)))
                                                                      (lk size a b c))) ∧
                                                                I64
                                                                    (lk cntHigh a b c
                                                                      (U.sub IntKind.i64
                                                                        (U.rem (U.wrap IntKind.i64 k)
                                                                          (U.add IntKind.i64 (lk size a b c) (1 : Int)))
                                                                        (lk size a b c))) ∧
                                                                  I64
                                                                      (lk cntStr a b c
                                                                        (U.sub IntKind.i64
                                                                          (U.rem (U.wrap IntKind.i64 k)
                                                                            (U.add IntKind.i64 (lk size a b c)
                                                                              (1 : Int)))
                                                                          (lk size a b c))) ∧
                                                                    (0 : Int) ≤ (401 : Int) ∧
                                                                      (401 : Int) ≤ (1000000 : Int))
                                                              (T.ask
                                                                (lk numsN
                                                                      (lk cntLow a b c
                                                                        (U.rem (U.wrap IntKind.i64 k)
                                                                          (U.add IntKind.i64 (lk size a b c)
                                                                            (1 : Int))))
                                                                      (lk cntHigh a b c
                                                                        (U.rem (U.wrap IntKind.i64 k)
                                                                          (U.add IntKind.i64 (lk size a b c)
                                                                            (1 : Int))))
                                                                      (lk cntStr a b c
                                                                        (U.rem (U.wrap IntKind.i64 k)
                                                                          (U.add IntKind.i64 (lk size a b c)
                                                                            (1 : Int))))
                                                                      (401 : Int) +
                                                                    lk numsN
                                                                      (lk cntLow a b c
                                                                        (U.sub IntKind.i64
                                                                          (U.rem (U.wrap IntKind.i64 k)
                                                                            (U.add IntKind.i64 (lk size a b c)
                                                                              (1 : Int)))
                                                                          (lk size a b c)))
                                                                      (lk cntHigh a b c
                                                                        (U.sub IntKind.i64
                                                                          (U.rem (U.wrap IntKind.i64 k)
                                                                            (U.add IntKind.i64 (lk size a b c)
                                                                              (1 : Int)))
                                                                          (lk size a b c)))
                                                                      (lk cntStr a b c
                                                                        (U.sub IntKind.i64
                                                                          (U.rem (U.wrap IntKind.i64 k)
                                                                            (U.add IntKind.i64 (lk size a b c)
                                                                              (1 : Int)))
                                                                          (lk size a b c)))
                                                                      (401 : Int) ≤
                                                                  (1000000 : Nat))
                                                                (T.ask
                                                                  (I64 a ∧
                                                                    I64 b ∧
                                                                      I64 c ∧
                                                                        (0 : Int) ≤ (401 : Int) ∧
                                                                          (401 : Int) ≤ (1000000 : Int))
                                                                  (T.ask
                                                                    (lk numsN
                                                                          (lk cntLow a b c
                                                                            (U.rem (U.wrap IntKind.i64 k)
                                                                              (U.add IntKind.i64 (lk size a b c)
                                                                                (1 : Int))))
                                                                          (lk cntHigh a b c
                                                                            (U.rem (U.wrap IntKind.i64 k)
                                                                              (U.add IntKind.i64 (lk size a b c)
                                                                                (1 : Int))))
                                                                          (lk cntStr a b c
                                                                            (U.rem (U.wrap IntKind.i64 k)
                                                                              (U.add IntKind.i64 (lk size a b c)
                                                                                (1 : Int))))
                                                                          (401 : Int) +
                                                                        lk numsN
                                                                          (lk cntLow a b c
                                                                            (U.sub IntKind.i64
                                                                              (U.rem (U.wrap IntKind.i64 k)
                                                                                (U.add IntKind.i64 (lk size a b c)
                                                                                  (1 : Int)))
                                                                              (lk size a b c)))
                                                                          (lk cntHigh a b c
                                                                            (U.sub IntKind.i64
                                                                              (U.rem (U.wrap IntKind.i64 k)
                                                                                (U.add IntKind.i64 (lk size a b c)
                                                                                  (1 : Int)))
                                                                              (lk size a b c)))
                                                                          (lk cntStr a b c
                                                                            (U.sub IntKind.i64
                                                                              (U.rem (U.wrap IntKind.i64 k)
                                                                                (U.add IntKind.i64 (lk size a b c)
                                                                                  (1 : Int)))
                                                                              (lk size a b c)))
                                                                          (401 : Int) ≤
                                                                      nat_lit 140737488351232)
                                                                    (T.br
                                                                      (lk eqR
                                                                        (lk numsN
                                                                            (lk cntLow a b c
                                                                              (U.rem (U.wrap IntKind.i64 k)
                                                                                (U.add IntKind.i64 (lk size a b c)
                                                                                  (1 : Int))))
                                                                            (lk cntHigh a b c
                                                                              (U.rem (U.wrap IntKind.i64 k)
                                                                                (U.add IntKind.i64 (lk size a b c)
                                                                                  (1 : Int))))
                                                                            (lk cntStr a b c
                                                                              (U.rem (U.wrap IntKind.i64 k)
                                                                                (U.add IntKind.i64 (lk size a b c)
                                                                                  (1 : Int))))
                                                                            (401 : Int) +
                                                                          lk numsN
                                                                            (lk cntLow a b c
                                                                              (U.sub IntKind.i64
                                                                                (U.rem (U.wrap IntKind.i64 k)
                                                                                  (U.add IntKind.i64 (lk size a b c)
                                                                                    (1 : Int)))
                                                                                (lk size a b c)))
                                                                            (lk cntHigh a b c
                                                                              (U.sub IntKind.i64
                                                                                (U.rem (U.wrap IntKind.i64 k)
                                                                                  (U.add IntKind.i64 (lk size a b c)
                                                                                    (1 : Int)))
                                                                                (lk size a b c)))
                                                                            (lk cntStr a b c
                                                                              (U.sub IntKind.i64
                                                                                (U.rem (U.wrap IntKind.i64 k)
                                                                                  (U.add IntKind.i64 (lk size a b c)
                                                                                    (1 : Int)))
                                                                                (lk size a b c)))
                                                                            (401 : Int))
                                                                        (U.cat
                                                                          (lk numsN
                                                                            (lk cntLow a b c
                                                                              (U.rem (U.wrap IntKind.i64 k)
                                                                                (U.add IntKind.i64 (lk size a b c)
                                                                                  (1 : Int))))
                                                                            (lk cntHigh a b c
                                                                              (U.rem (U.wrap IntKind.i64 k)
                                                                                (U.add IntKind.i64 (lk size a b c)
                                                                                  (1 : Int))))
                                                                            (lk cntStr a b c
                                                                              (U.rem (U.wrap IntKind.i64 k)
                                                                                (U.add IntKind.i64 (lk size a b c)
                                                                                  (1 : Int))))
                                                                            (401 : Int))
                                                                          (fun k_1 =>
                                                                            (lk num
                                                                                (lk cntLow a b c
                                                                                  (U.rem (U.wrap IntKind.i64 k)
                                                                                    (U.add IntKind.i64 (lk size a b c)
                                                                                      (1 : Int))))
                                                                                (lk cntHigh a b c
                                                                                  (U.rem (U.wrap IntKind.i64 k)
                                                                                    (U.add IntKind.i64 (lk size a b c)
                                                                                      (1 : Int))))
                                                                                (lk cntStr a b c
                                                                                  (U.rem (U.wrap IntKind.i64 k)
                                                                                    (U.add IntKind.i64 (lk size a b c)
                                                                                      (1 : Int))))
                                                                                k_1,
                                                                              PUnit.unit))
                                                                          fun k_1 =>
                                                                          (lk num
                                                                              (lk cntLow a b c
                                                                                (U.sub IntKind.i64
                                                                                  (U.rem (U.wrap IntKind.i64 k)
                                                                                    (U.add IntKind.i64 (lk size a b c)
                                                                                      (1 : Int)))
                                                                                  (lk size a b c)))
                                                                              (lk cntHigh a b c
                                                                                (U.sub IntKind.i64
                                                                                  (U.rem (U.wrap IntKind.i64 k)
                                                                                    (U.add IntKind.i64 (lk size a b c)
                                                                                      (1 : Int)))
                                                                                  (lk size a b c)))
                                                                              (lk cntStr a b c
                                                                                (U.sub IntKind.i64
                                                                                  (U.rem (U.wrap IntKind.i64 k)
                                                                                    (U.add IntKind.i64 (lk size a b c)
                                                                                      (1 : Int)))
                                                                                  (lk size a b c)))
                                                                              k_1,
                                                                            PUnit.unit))
                                                                        (lk numsN a b c (401 : Int)) fun k =>
                                                                        (lk num a b c k, PUnit.unit))
                                                                      (T.ret (SV.lit (Value.bool true)))
                                                                      (T.ret (SV.lit (Value.bool false)))))))))
                                                          (T.ret (SV.lit (Value.bool false))))
                                                        (T.ret (SV.lit (Value.bool false)))))))))))))))
                                (T.ask (I64 a ∧ I64 b ∧ I64 c)
                                  (T.ask
                                    (I64 (lk byLow a b c (-1 : Int)) ∧
                                      I64 (lk byHigh a b c (-1 : Int)) ∧ I64 (lk byStr a b c (-1 : Int)))
                                    (T.br (U.ne (lk byErr a b c (-1 : Int)) (0 : Int))
                                      (T.ret (SV.lit (Value.bool false)))
                                      (T.br
                                        (U.ne
                                          (lk byErr (lk byLow a b c (-1 : Int)) (lk byHigh a b c (-1 : Int))
                                            (lk byStr a b c (-1 : Int)) (-1 : Int))
                                          (0 : Int))
                                        (T.ret (SV.lit (Value.bool false)))
                                        (T.br
                                          (U.not
                                            (U.andb
                                              (U.eq
                                                (lk byLow (lk byLow a b c (-1 : Int)) (lk byHigh a b c (-1 : Int))
                                                  (lk byStr a b c (-1 : Int)) (-1 : Int))
                                                a)
                                              (U.andb
                                                (U.eq
                                                  (lk byHigh (lk byLow a b c (-1 : Int)) (lk byHigh a b c (-1 : Int))
                                                    (lk byStr a b c (-1 : Int)) (-1 : Int))
                                                  b)
                                                (U.eq
                                                  (lk byStr (lk byLow a b c (-1 : Int)) (lk byHigh a b c (-1 : Int))
                                                    (lk byStr a b c (-1 : Int)) (-1 : Int))
                                                  c))))
                                          (T.ret (SV.lit (Value.bool false)))
                                          (T.ask (I64 a ∧ I64 b ∧ I64 c)
                                            (T.ask (U.add IntKind.i64 (lk size a b c) (1 : Int) ≠ (0 : Int))
                                              (T.ask
                                                (I64 a ∧
                                                  I64 b ∧
                                                    I64 c ∧
                                                      I64
                                                        (U.rem (U.wrap IntKind.i64 k)
                                                          (U.add IntKind.i64 (lk size a b c) (1 : Int))))
                                                (T.ask (I64 a ∧ I64 b ∧ I64 c)
                                                  (T.ask
                                                    (I64 a ∧
                                                      I64 b ∧
                                                        I64 c ∧
                                                          I64
                                                            (U.sub IntKind.i64
                                                              (U.rem (U.wrap IntKind.i64 k)
                                                                (U.add IntKind.i64 (lk size a b c) (1 : Int)))
                                                              (lk size a b c)))
                                                    (T.br
                                                      (U.eq
                                                        (lk cntE a b c
                                                          (U.rem (U.wrap IntKind.i64 k)
                                                            (U.add IntKind.i64 (lk size a b c) (1 : Int))))
                                                        (0 : Int))
                                                      (T.br
                                                        (U.eq
                                                          (lk cntE a b c
                                                            (U.sub IntKind.i64
                                                              (U.rem (U.wrap IntKind.i64 k)
                                                                (U.add IntKind.i64 (lk size a b c) (1 : Int)))
                                                              (lk size a b c)))
                                                          (0 : Int))
                                                        (T.ask
                                                          (I64
                                                              (lk cntLow a b c
                                                                (U.rem (U.wrap IntKind.i64 k)
                                                                  (U.add IntKind.i64 (lk size a b c) (1 : Int)))) ∧
                                                            I64
                                                                (lk cntHigh a b c
                                                                  (U.rem (U.wrap IntKind.i64 k)
                                                                    (U.add IntKind.i64 (lk size a b c) (1 : Int)))) ∧
                                                              I64
                                                                  (lk cntStr a b c
                                                                    (U.rem (U.wrap IntKind.i64 k)
                                                                      (U.add IntKind.i64 (lk size a b c) (1 : Int)))) ∧
                                                                (0 : Int) ≤ (401 : Int) ∧ (401 : Int) ≤ (1000000 : Int))
                                                          (T.ask
                                                            (I64
                                                                (lk cntLow a b c
                                                                  (U.sub IntKind.i64
                                                                    (U.rem (U.wrap IntKind.i64 k)
                                                                      (U.add IntKind.i64 (lk size a b c) (1 : Int)))
                                                                    (lk size a b c))) ∧
                                                              I64
                                                                  (lk cntHigh a b c
                                                                    (U.sub IntKind.i64
                                                                      (U.rem (U.wrap IntKind.i64 k)
                                                                        (U.add IntKind.i64 (lk size a b c) (1 : Int)))
                                                                      (lk size a b c))) ∧
                                                                I64
                                                                    (lk cntStr a b c
                                                                      (U.sub IntKind.i64
                                                                        (U.rem (U.wrap IntKind.i64 k)
                                                                          (U.add IntKind.i64 (lk size a b c) (1 : Int)))
                                                                        (lk size a b c))) ∧
                                                                  (0 : Int) ≤ (401 : Int) ∧
                                                                    (401 : Int) ≤ (1000000 : Int))
                                                            (T.ask
                                                              (lk numsN
                                                                    (lk cntLow a b c
                                                                      (U.rem (U.wrap IntKind.i64 k)
                                                                        (U.add IntKind.i64 (lk size a b c) (1 : Int))))
                                                                    (lk cntHigh a b c
                                                                      (U.rem (U.wrap IntKind.i64 k)
                                                                        (U.add IntKind.i64 (lk size a b c) (1 : Int))))
                                                                    (lk cntStr a b c
                                                                      (U.rem (U.wrap IntKind.i64 k)
                                                                        (U.add IntKind.i64 (lk size a b c) (1 : Int))))
                                                                    (401 : Int) +
                                                                  lk numsN
                                                                    (lk cntLow a b c
                                                                      (U.sub IntKind.i64
                                                                        (U.rem (U.wrap IntKind.i64 k)
                                                                          (U.add IntKind.i64 (lk size a b c) (1 : Int)))
                                                                        (lk size a b c)))
                                                                    (lk cntHigh a b c
                                                                      (U.sub IntKind.i64
                                                                        (U.rem (U.wrap IntKind.i64 k)
                                                                          (U.add IntKind.i64 (lk size a b c) (1 : Int)))
                                                                        (lk size a b c)))
                                                                    (lk cntStr a b c
                                                                      (U.sub IntKind.i64
                                                                        (U.rem (U.wrap IntKind.i64 k)
                                                                          (U.add IntKind.i64 (lk size a b c) (1 : Int)))
                                                                        (lk size a b c)))
                                                                    (401 : Int) ≤
                                                                (1000000 : Nat))
                                                              (T.ask
                                                                (I64 a ∧
                                                                  I64 b ∧
                                                                    I64 c ∧
                                                                      (0 : Int) ≤ (401 : Int) ∧
                                                                        (401 : Int) ≤ (1000000 : Int))
                                                                (T.ask
                                                                  (lk numsN
                                                                        (lk cntLow a b c
                                                                          (U.rem (U.wrap IntKind.i64 k)
                                                                            (U.add IntKind.i64 (lk size a b c)
                                                                              (1 : Int))))
                                                                        (lk cntHigh a b c
                                                                          (U.rem (U.wrap IntKind.i64 k)
                                                                            (U.add IntKind.i64 (lk size a b c)
                                                                              (1 : Int))))
                                                                        (lk cntStr a b c
                                                                          (U.rem (U.wrap IntKind.i64 k)
                                                                            (U.add IntKind.i64 (lk size a b c)
                                                                              (1 : Int))))
                                                                        (401 : Int) +
                                                                      lk numsN
                                                                        (lk cntLow a b c
                                                                          (U.sub IntKind.i64
                                                                            (U.rem (U.wrap IntKind.i64 k)
                                                                              (U.add IntKind.i64 (lk size a b c)
                                                                                (1 : Int)))
                                                                            (lk size a b c)))
                                                                        (lk cntHigh a b c
                                                                          (U.sub IntKind.i64
                                                                            (U.rem (U.wrap IntKind.i64 k)
                                                                              (U.add IntKind.i64 (lk size a b c)
                                                                                (1 : Int)))
                                                                            (lk size a b c)))
                                                                        (lk cntStr a b c
                                                                          (U.sub IntKind.i64
                                                                            (U.rem (U.wrap IntKind.i64 k)
                                                                              (U.add IntKind.i64 (lk size a b c)
                                                                                (1 : Int)))
                                                                            (lk size a b c)))
                                                                        (401 : Int) ≤
                                                                    nat_lit 140737488351232)
                                                                  (T.br
                                                                    (lk eqR
                                                                      (lk numsN
                                                                          (lk cntLow a b c
                                                                            (U.rem (U.wrap IntKind.i64 k)
                                                                              (U.add IntKind.i64 (lk size a b c)
                                                                                (1 : Int))))
                                                                          (lk cntHigh a b c
                                                                            (U.rem (U.wrap IntKind.i64 k)
                                                                              (U.add IntKind.i64 (lk size a b c)
                                                                                (1 : Int))))
                                                                          (lk cntStr a b c
                                                                            (U.rem (U.wrap IntKind.i64 k)
                                                                              (U.add IntKind.i64 (lk size a b c)
                                                                                (1 : Int))))
                                                                          (401 : Int) +
                                                                        lk numsN
                                                                          (lk cntLow a b c
                                                                            (U.sub IntKind.i64
                                                                              (U.rem (U.wrap IntKind.i64 k)
                                                                                (U.add IntKind.i64 (lk size a b c)
                                                                                  (1 : Int)))
                                                                              (lk size a b c)))
                                                                          (lk cntHigh a b c
                                                                            (U.sub IntKind.i64
                                                                              (U.rem (U.wrap IntKind.i64 k)
                                                                                (U.add IntKind.i64 (lk size a b c)
                                                                                  (1 : Int)))
                                                                              (lk size a b c)))
                                                                          (lk cntStr a b c
                                                                            (U.sub IntKind.i64
                                                                              (U.rem (U.wrap IntKind.i64 k)
                                                                                (U.add IntKind.i64 (lk size a b c)
                                                                                  (1 : Int)))
                                                                              (lk size a b c)))
                                                                          (401 : Int))
                                                                      (U.cat
                                                                        (lk numsN
                                                                          (lk cntLow a b c
                                                                            (U.rem (U.wrap IntKind.i64 k)
                                                                              (U.add IntKind.i64 (lk size a b c)
                                                                                (1 : Int))))
                                                                          (lk cntHigh a b c
                                                                            (U.rem (U.wrap IntKind.i64 k)
                                                                              (U.add IntKind.i64 (lk size a b c)
                                                                                (1 : Int))))
                                                                          (lk cntStr a b c
                                                                            (U.rem (U.wrap IntKind.i64 k)
                                                                              (U.add IntKind.i64 (lk size a b c)
                                                                                (1 : Int))))
                                                                          (401 : Int))
                                                                        (fun k_1 =>
                                                                          (lk num
                                                                              (lk cntLow a b c
                                                                                (U.rem (U.wrap IntKind.i64 k)
                                                                                  (U.add IntKind.i64 (lk size a b c)
                                                                                    (1 : Int))))
                                                                              (lk cntHigh a b c
                                                                                (U.rem (U.wrap IntKind.i64 k)
                                                                                  (U.add IntKind.i64 (lk size a b c)
                                                                                    (1 : Int))))
                                                                              (lk cntStr a b c
                                                                                (U.rem (U.wrap IntKind.i64 k)
                                                                                  (U.add IntKind.i64 (lk size a b c)
                                                                                    (1 : Int))))
                                                                              k_1,
                                                                            PUnit.unit))
                                                                        fun k_1 =>
                                                                        (lk num
                                                                            (lk cntLow a b c
                                                                              (U.sub IntKind.i64
                                                                                (U.rem (U.wrap IntKind.i64 k)
                                                                                  (U.add IntKind.i64 (lk size a b c)
                                                                                    (1 : Int)))
                                                                                (lk size a b c)))
                                                                            (lk cntHigh a b c
                                                                              (U.sub IntKind.i64
                                                                                (U.rem (U.wrap IntKind.i64 k)
                                                                                  (U.add IntKind.i64 (lk size a b c)
                                                                                    (1 : Int)))
                                                                                (lk size a b c)))
                                                                            (lk cntStr a b c
                                                                              (U.sub IntKind.i64
                                                                                (U.rem (U.wrap IntKind.i64 k)
                                                                                  (U.add IntKind.i64 (lk size a b c)
                                                                                    (1 : Int)))
                                                                                (lk size a b c)))
                                                                            k_1,
                                                                          PUnit.unit))
                                                                      (lk numsN a b c (401 : Int)) fun k =>
                                                                      (lk num a b c k, PUnit.unit))
                                                                    (T.ret (SV.lit (Value.bool true)))
                                                                    (T.ret (SV.lit (Value.bool false)))))))))
                                                        (T.ret (SV.lit (Value.bool false))))
                                                      (T.ret (SV.lit (Value.bool false)))))))))))))))))))))))))))) := by kernel_rfl
set_option maxHeartbeats 2000000 in
theorem SpanByBy_ok : ConOK P 5 c_SpanByBy := con_of (allOK mixed k11_ok) 10 5 fun args r h => by
  unfold c_SpanByBy at h
  split at h
  · rename_i a b c m n k
    have hp := (T.is_ask h).1
    have h := (T.is_ask h).2
    obtain rfl := T.is_ret h
    rw [t_SpanByBy]
    obtain ⟨ha, hb, hc, hk0, hk1⟩ := hp
    refine ⟨⟨ha, hb, hc⟩, fun _ => rfl, fun h1 => ⟨fun _ => rfl, fun h2 => ⟨fun _ => rfl, fun h3 => ⟨fun _ => rfl, fun h4 => ⟨fun _ => rfl, fun h5 => ⟨fun _ => rfl, fun h6 => ⟨fun _ => rfl, fun h7 => ?_⟩⟩⟩⟩⟩⟩⟩
    rw [U.not_f, lk_eq] at h1
    rw [U.eq_f] at h2 h3
    rw [U.gt_f] at h4 h6
    rw [U.lt_f] at h5 h7
    have hs' := of_decide_eq_true h1
    have hr := chk_zero.1 hs'.1
    have hsz := size_eq' hr
    have h400 : ofC a b c ≤ 400 := by rw [← hsz]; exact hs'.2
    have hbnd := ofC_bnd hr
    have hm : U.wrap .i64 m = m := by rw [U.wrap_eq]; exact IntWalk.i64_in m ⟨by omega, by omega⟩
    have hn : U.wrap .i64 n = n := by rw [U.wrap_eq]; exact IntWalk.i64_in n ⟨by omega, by omega⟩
    have hk : U.wrap .i64 k = k := by rw [U.wrap_eq]; exact IntWalk.i64_in k ⟨by omega, by omega⟩
    have hmb := mul_bnd (x := m) (y := n) (X := 1000) (Y := 1000) (by omega) (by omega)
    have hmn : U.mul .i64 m n = m * n := by rw [U.mul64 (by unfold I64; omega)]
    have hmn0 : m * n ≠ 0 := fun h => by rcases Int.mul_eq_zero.1 h with h | h <;> omega
    obtain ⟨b1, b2⟩ := by_right hr (n := m) h2 (by omega)
    obtain ⟨b3, b4⟩ := by_right b2 (n := n) h3 (by omega)
    obtain ⟨b5, b6⟩ := by_right hr (n := m * n) hmn0 (by omega)
    obtain ⟨b7, b8⟩ := by_right hr (n := -1) (by omega) (by omega)
    obtain ⟨b9, b10⟩ := by_right b8 (n := -1) (by omega) (by omega)
    obtain ⟨d1, d2, d3⟩ := by_back hr
    have hadd : U.add .i64 (ofC a b c) 1 = ofC a b c + 1 := by rw [U.add64 (by unfold I64; omega)]
    obtain ⟨i, hi⟩ : ∃ i, i = k.tmod (ofC a b c + 1) := ⟨_, rfl⟩
    have hrem : U.rem k (ofC a b c + 1) = i := by rw [U.rem_eq, hi]
    have hi0 : 0 ≤ i := by rw [hi]; exact Int.tmod_nonneg _ hk0
    have hi1 : i ≤ ofC a b c := by rw [hi]; have := Int.tmod_lt_of_pos k (show 0 < ofC a b c + 1 by omega); omega
    have hsub : U.sub .i64 i (ofC a b c) = i - ofC a b c := by rw [U.sub64 (by unfold I64; omega)]
    obtain ⟨e1, e2, e3, e4, e5, e6, e7, e8⟩ := count_cat hr hi0 hi1
    simp only [hm, hn, hk, lk_eq, hmn, hsz, hadd, hrem, hsub]
    refine ⟨⟨ha, hb, hc⟩, fun h => ?_, fun _ => ⟨right_i64 b2, ⟨ha, hb, hc⟩, fun h => ?_, fun _ => ⟨fun h => ?_, fun _ => T.all_dup ?_ ?_⟩⟩⟩
    · rw [b1, U.ne_t] at h; exact absurd rfl h
    · rw [b3, U.ne_t] at h; exact absurd rfl h
    · rw [b5, U.ne_t] at h; exact absurd rfl h
    · refine ⟨⟨ha, hb, hc⟩, right_i64 b8, fun h => ?_, fun _ => ⟨fun h => ?_, fun _ => ⟨fun h => ?_, fun _ => ?_⟩⟩⟩
      · rw [b7, U.ne_t] at h; exact absurd rfl h
      · rw [b9, U.ne_t] at h; exact absurd rfl h
      · rw [d1, d2, d3, U.not_t, U.andb_f] at h
        have hh := h (by rw [U.eq_t])
        rw [U.andb_f] at hh
        have hh := hh (by rw [U.eq_t])
        rw [U.eq_f] at hh
        exact absurd rfl hh
      · refine ⟨⟨ha, hb, hc⟩, by omega, ⟨ha, hb, hc, by unfold I64; omega⟩, ⟨ha, hb, hc⟩, ⟨ha, hb, hc, by unfold I64; omega⟩, fun _ => ⟨fun _ => ?_, fun h => ?_⟩, fun h => ?_⟩
        · have n1 := numsN_right e3
          have n2 := numsN_right e4
          have n3 := numsN_right hr
          obtain ⟨i1, i2, i3⟩ := right_i64 e3
          obtain ⟨i4, i5, i6⟩ := right_i64 e4
          rw [e5] at n1
          rw [e6] at n2
          refine ⟨⟨i1, i2, i3, by omega, by omega⟩, ⟨i4, i5, i6, by omega, by omega⟩, by omega, ⟨ha, hb, hc, by omega, by omega⟩, by omega, fun _ => rfl, fun hf => ?_⟩
          refine absurd (hf.symm.trans (eqR_t.2 ⟨by omega, fun j hj => ?_⟩)) (by simp)
          refine cat_val _ _ _ j _ (fun hj' => e7 j (by omega)) (fun hj' => ?_)
          have he := e8 (j - numsN (cntLow a b c i) (cntHigh a b c i) (cntStr a b c i) 401) (by omega)
          rw [show i.toNat + (j - numsN (cntLow a b c i) (cntHigh a b c i) (cntStr a b c i) 401) = j by omega] at he
          exact he
        · rw [e2, U.eq_f] at h; exact absurd rfl h
        · rw [e1, U.eq_f] at h; exact absurd rfl h
    · intro hm0 hn0
      rw [U.gt_t] at hm0 hn0
      obtain ⟨q1, q2, q3⟩ := by_by hr hm0 hn0 (by omega) (by omega)
      rw [U.not_f, U.andb_t, U.andb_t, U.eq_t, U.eq_t, U.eq_t]
      exact ⟨q1, q2, q3⟩
  · exact h.elim

theorem SpanByBy_walk (a b c m n k : Int) (ha : I64 a) (hb : I64 b) (hc : I64 c) (hm : -32768 ≤ m ∧ m ≤ 32767) (hn : -32768 ≤ n ∧ n ≤ 32767) (hk : 0 ≤ k ∧ k ≤ 255) (w : World) :
    Calls P 5 #[.agg #[.int .i64 a, .int .i64 b, .int .i64 c], .int .i16 m, .int .i16 n, .int .u8 k] w fun e w' => e = .returned (.bool true) ∧ Go.RowKit.Below w.heap.size w w' :=
  (SpanByBy_ok [.agg [.lit (.int .i64 a), .lit (.int .i64 b), .lit (.int .i64 c)], .lit (.int .i16 m), .lit (.int .i16 n), .lit (.int .u8 k)] (.lit (.bool true)) ⟨⟨ha, hb, hc, hk.1, hk.2⟩, rfl⟩ (fun _ => False) w
    [.agg #[.int .i64 a, .int .i64 b, .int .i64 c], .int .i16 m, .int .i16 n, .int .u8 k] (fun _ h => h.elim) ⟨_, _, rfl, ⟨[_, _, _], rfl, _, _, rfl, rfl, _, _, rfl, rfl, _, _, rfl, rfl, rfl⟩, _, _, rfl, rfl, _, _, rfl, rfl, _, _, rfl, rfl, rfl⟩).mono
    fun e w' ⟨v, h1, h2, h3⟩ => ⟨by rw [h1, show v = .bool true from h3], h2⟩
end Go.RX.Span
