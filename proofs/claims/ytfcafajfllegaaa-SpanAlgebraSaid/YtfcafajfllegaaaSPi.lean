/- Ranges: what the first law's body returns. -/
import Derived.Test.YtfcafajfllegaaaSPh
set_option linter.unusedVariables false
set_option linter.unusedSimpArgs false
set_option maxRecDepth 100000
namespace Go.RX.Span
open Go Go.RX

noncomputable def c_SpanOf : Con := fun args => match args with
  | [.lit (.int .i64 l), .lit (.int .i64 h), .lit (.int .i64 s), .agg [.lit (.int .i64 a), .lit (.int .i64 b), .lit (.int .i64 c)], .lit (.int .i64 n)] => .ask (I64 a ∧ I64 b ∧ I64 c) (.ret (.lit (.bool true)))
  | _ => .stuck 1
set_option maxRecDepth 100000 in
theorem t_SpanOf (l h s a b c n : Int) : conB Go.Proofs.Try.prog (conOf k7) noLoops 10 3 [.lit (.int .i64 l), .lit (.int .i64 h), .lit (.int .i64 s), .agg [.lit (.int .i64 a), .lit (.int .i64 b), .lit (.int .i64 c)], .lit (.int .i64 n)] =
    T.ask (I64 a ∧ I64 b ∧ I64 c)
    (T.ask (I64 a ∧ I64 b ∧ I64 c)
      (T.ask (I64 a ∧ I64 b ∧ I64 c)
        (T.ask (I64 a ∧ I64 b ∧ I64 c)
          (T.br
            (U.andb (U.eq (lk ofLow l h s) (lk ofLow l h s))
              (U.andb (U.eq (lk ofHigh l h s) (lk ofHigh l h s)) (U.eq (lk ofStr l h s) (lk ofStr l h s))))
            (T.br (U.eq (lk ofErr l h s) (lk ofErr l h s))
              (T.ask (I64 a ∧ I64 b ∧ I64 c)
                (T.ask (I64 a ∧ I64 b ∧ I64 c)
                  (T.br (U.eq (lk chk a b c) (lk chk a b c))
                    (T.ask (I64 a ∧ I64 b ∧ I64 c)
                      (T.ask (I64 a ∧ I64 b ∧ I64 c)
                        (T.br (U.eq (lk size a b c) (lk size a b c))
                          (T.ask (I64 a ∧ I64 b ∧ I64 c)
                            (T.ask (I64 a ∧ I64 b ∧ I64 c)
                              (T.br (U.beq (lk has a b c n) (lk has a b c n))
                                (T.br (U.eq (lk nth a b c n) (lk nth a b c n))
                                  (T.br (U.eq (lk nthE a b c n) (lk nthE a b c n))
                                    (T.br (U.eq (lk pos a b c n) (lk pos a b c n))
                                      (T.br (U.beq (lk has a b c n) (lk has a b c n)) (T.ret (SV.lit (Value.bool true)))
                                        (T.ret (SV.lit (Value.bool false))))
                                      (T.ret (SV.lit (Value.bool false))))
                                    (T.ret (SV.lit (Value.bool false))))
                                  (T.ret (SV.lit (Value.bool false))))
                                (T.ret (SV.lit (Value.bool false))))))
                          (T.ret (SV.lit (Value.bool false))))))
                    (T.ret (SV.lit (Value.bool false))))))
              (T.ret (SV.lit (Value.bool false))))
            (T.ret (SV.lit (Value.bool false))))))) := by kernel_rfl
theorem SpanOf_ok : ConOK P 3 c_SpanOf := con_of (allOK mixed k7_ok) 10 3 fun args r h => by
  unfold c_SpanOf at h
  split at h
  · rename_i l h' s a b c n
    have hp := (T.is_ask h).1
    have h := (T.is_ask h).2
    obtain rfl := T.is_ret h
    rw [t_SpanOf]
    simp [T.All, U.eq_eq, U.andb_eq, U.beq_eq, hp]
  · exact h.elim

/-- The law's body in the model's own words. -/
theorem SpanOf_walk (l h s a b c n : Int) (ha : I64 a) (hb : I64 b) (hc : I64 c) (w : World) :
    Calls P 3 #[.int .i64 l, .int .i64 h, .int .i64 s, .agg #[.int .i64 a, .int .i64 b, .int .i64 c], .int .i64 n] w fun e w' => e = .returned (.bool true) ∧ Go.RowKit.Below w.heap.size w w' :=
  (SpanOf_ok [.lit (.int .i64 l), .lit (.int .i64 h), .lit (.int .i64 s), .agg [.lit (.int .i64 a), .lit (.int .i64 b), .lit (.int .i64 c)], .lit (.int .i64 n)] (.lit (.bool true)) ⟨⟨ha, hb, hc⟩, rfl⟩ (fun _ => False) w
    [.int .i64 l, .int .i64 h, .int .i64 s, .agg #[.int .i64 a, .int .i64 b, .int .i64 c], .int .i64 n] (fun _ h => h.elim) ⟨_, _, rfl, rfl, _, _, rfl, rfl, _, _, rfl, rfl, _, _, rfl, ⟨[_, _, _], rfl, _, _, rfl, rfl, _, _, rfl, rfl, _, _, rfl, rfl, rfl⟩, _, _, rfl, rfl, rfl⟩).mono
    fun e w' ⟨v, h1, h2, h3⟩ => ⟨by rw [h1, show v = .bool true from h3], h2⟩
end Go.RX.Span
