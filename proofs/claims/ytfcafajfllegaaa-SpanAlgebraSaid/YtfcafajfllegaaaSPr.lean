/- Ranges: what the law of changes returns. -/
import Derived.Test.YtfcafajfllegaaaSPq
set_option linter.unusedVariables false
set_option linter.unusedSimpArgs false
set_option maxRecDepth 100000
namespace Go.RX.Span
open Go Go.RX

noncomputable abbrev k9 : List (Nat × Con) := (34, c_By) :: (40, c_Translate) :: (41, c_Translate) :: (42, c_Expand) :: (43, c_Expand) :: (44, c_Interior) :: (45, c_Interior) :: (46, c_Exterior) :: (47, c_Exterior) :: k8 --%K
theorem k9_ok : ∀ p ∈ k9, ConOK P p.1 p.2 := by
  intro p hp
  simp only [k9, List.mem_cons] at hp
  rcases hp with rfl | rfl | rfl | rfl | rfl | rfl | rfl | rfl | rfl | hp
  · exact By_ok
  · exact Translate_ok
  · exact rTranslate_ok
  · exact Expand_ok
  · exact rExpand_ok
  · exact Interior_ok
  · exact rInterior_ok
  · exact Exterior_ok
  · exact rExterior_ok
  · exact k8_ok p (by simpa [k8] using hp)

noncomputable abbrev l6 : List (Nat × Loops) := [(6, [(2, .un 8)])] --%K
theorem l6_ok : ∀ p ∈ l6, LoopsOK P p.2 (bodyOf P p.1) := by
  intro p hp
  simp only [l6, List.mem_singleton] at hp
  subst hp
  exact loopsOK_un fun q hq => by simp only [List.mem_singleton] at hq; subst hq; exact ⟨8, rfl⟩

noncomputable def c_SpanChanges : Con := fun args => match args with
  | [.agg [.lit (.int .i64 a), .lit (.int .i64 b), .lit (.int .i64 c)], .lit (.int .i64 n)] => .ask (I64 a ∧ I64 b ∧ I64 c ∧ I64 n) (.ret (.lit (.bool true)))
  | _ => .stuck 1
set_option maxRecDepth 100000 in
theorem t_SpanChanges (a b c n : Int) : conB Go.Proofs.Try.prog (conOf k9) (loopsOf l6) 10 6 [.agg [.lit (.int .i64 a), .lit (.int .i64 b), .lit (.int .i64 c)], .lit (.int .i64 n)] =
    T.ask (I64 a ∧ I64 b ∧ I64 c)
    (T.ask (I64 a ∧ I64 b ∧ I64 c)
      (T.br
        (U.not
          (U.andb (U.eq (lk byLow a b c n) (lk byLow a b c n))
            (U.andb (U.eq (lk byHigh a b c n) (lk byHigh a b c n)) (U.eq (lk byStr a b c n) (lk byStr a b c n)))))
        (T.ret (SV.lit (Value.bool false)))
        (T.br (U.ne (lk byErr a b c n) (lk byErr a b c n)) (T.ret (SV.lit (Value.bool false)))
          (T.ask (I64 a ∧ I64 b ∧ I64 c ∧ I64 n)
            (T.ask (I64 a ∧ I64 b ∧ I64 c ∧ I64 n)
              (T.br
                (U.not
                  (U.andb (U.eq (lk cntLow a b c n) (lk cntLow a b c n))
                    (U.andb (U.eq (lk cntHigh a b c n) (lk cntHigh a b c n))
                      (U.eq (lk cntStr a b c n) (lk cntStr a b c n)))))
                (T.ret (SV.lit (Value.bool false)))
                (T.br (U.ne (lk cntE a b c n) (lk cntE a b c n)) (T.ret (SV.lit (Value.bool false)))
                  (T.ask (I64 a ∧ I64 b ∧ I64 c ∧ I64 n)
                    (T.ask (I64 a ∧ I64 b ∧ I64 c ∧ I64 n)
                      (T.br
                        (U.not
                          (U.andb (U.eq (lk trLow a b c n) (lk trLow a b c n))
                            (U.andb (U.eq (lk trHigh a b c n) (lk trHigh a b c n))
                              (U.eq (lk trStr a b c n) (lk trStr a b c n)))))
                        (T.ret (SV.lit (Value.bool false)))
                        (T.br (U.ne (lk trE a b c n) (lk trE a b c n)) (T.ret (SV.lit (Value.bool false)))
                          (T.ask (I64 a ∧ I64 b ∧ I64 c ∧ I64 n)
                            (T.ask (I64 a ∧ I64 b ∧ I64 c ∧ I64 n)
                              (T.br
                                (U.not
                                  (U.andb (U.eq (lk exLow a b c n) (lk exLow a b c n))
                                    (U.andb (U.eq (lk exHigh a b c n) (lk exHigh a b c n))
                                      (U.eq (lk exStr a b c n) (lk exStr a b c n)))))
                                (T.ret (SV.lit (Value.bool false)))
                                (T.br (U.ne (lk exE a b c n) (lk exE a b c n)) (T.ret (SV.lit (Value.bool false)))
                                  (T.ask (I64 a ∧ I64 b ∧ I64 c ∧ I64 n)
                                    (T.ask (I64 a ∧ I64 b ∧ I64 c ∧ I64 n)
                                      (T.br
                                        (U.not
                                          (U.andb (U.eq (lk inLow a b c n) (lk inLow a b c n))
                                            (U.andb (U.eq (lk inHigh a b c n) (lk inHigh a b c n))
                                              (U.eq (lk inStr a b c n) (lk inStr a b c n)))))
                                        (T.ret (SV.lit (Value.bool false)))
                                        (T.br (U.ne (lk inE a b c n) (lk inE a b c n))
                                          (T.ret (SV.lit (Value.bool false)))
                                          (T.ask (I64 a ∧ I64 b ∧ I64 c ∧ I64 n)
                                            (T.ask (I64 a ∧ I64 b ∧ I64 c ∧ I64 n)
                                              (T.br
                                                (U.not
                                                  (U.andb (U.eq (lk xtLow a b c n) (lk xtLow a b c n))
                                                    (U.andb (U.eq (lk xtHigh a b c n) (lk xtHigh a b c n))
                                                      (U.eq (lk xtStr a b c n) (lk xtStr a b c n)))))
                                                (T.ret (SV.lit (Value.bool false)))
                                                (T.br (U.ne (lk xtE a b c n) (lk xtE a b c n))
                                                  (T.ret (SV.lit (Value.bool false)))
                                                  (T.ret (SV.lit (Value.bool true)))))))))))))))))))))))))) := by kernel_rfl
theorem SpanChanges_ok : ConOK P 6 c_SpanChanges := con_of (allOKL mixed k9_ok l6_ok) 10 6 fun args r h => by
  unfold c_SpanChanges at h
  split at h
  · rename_i a b c n
    have hp := (T.is_ask h).1
    have h := (T.is_ask h).2
    obtain rfl := T.is_ret h
    rw [t_SpanChanges]
    simp [T.All, U.eq_eq, U.ne_eq, U.andb_eq, U.beq_eq, U.not_eq, hp]
  · exact h.elim

theorem SpanChanges_walk (a b c n : Int) (ha : I64 a) (hb : I64 b) (hc : I64 c) (hn : I64 n) (w : World) :
    Calls P 6 #[.agg #[.int .i64 a, .int .i64 b, .int .i64 c], .int .i64 n] w fun e w' => e = .returned (.bool true) ∧ Go.RowKit.Below w.heap.size w w' :=
  (SpanChanges_ok [.agg [.lit (.int .i64 a), .lit (.int .i64 b), .lit (.int .i64 c)], .lit (.int .i64 n)] (.lit (.bool true)) ⟨⟨ha, hb, hc, hn⟩, rfl⟩ (fun _ => False) w
    [.agg #[.int .i64 a, .int .i64 b, .int .i64 c], .int .i64 n] (fun _ h => h.elim) ⟨_, _, rfl, ⟨[_, _, _], rfl, _, _, rfl, rfl, _, _, rfl, rfl, _, _, rfl, rfl, rfl⟩, _, _, rfl, rfl, rfl⟩).mono
    fun e w' ⟨v, h1, h2, h3⟩ => ⟨by rw [h1, show v = .bool true from h3], h2⟩
end Go.RX.Span
