/- Ranges: the contracts of layer 1's small functions. -/
import Derived.Test.YtfcafajfllegaaaSPa
set_option linter.unusedVariables false
namespace Go.RX.Span
open Go Go.RX

noncomputable def c_within : Con := fun args => match args with
  | [.lit (.int .i64 n)] => .ret (.lit (.bool (lk lim n)))
  | _ => .stuck 1
noncomputable def c_last : Con := fun args => match args with
  | [.agg [.lit (.int .i64 a), .lit (.int .i64 b), .lit (.int .i64 c)]] => .ask (I64 (c - 1) ∧ I64 (b * (c - 1)) ∧ I64 (a + b * (c - 1))) (.ret (.lit (.int .i64 (lk sLast a b c))))
  | _ => .stuck 1
noncomputable def c_of : Con := fun args => match args with
  | [.agg [.lit (.int .i64 a), .lit (.int .i64 b), .lit (.int .i64 c)]] =>
    .ask (a ≤ b → c ≠ 0 ∧ -9223372036854775807 ≤ c ∧ b - a < 9223372036854775807 ∧ I64 a ∧ I64 b ∧ I64 c) (.ret (.agg [.lit (.int .i64 (lk ofF a b c)), .lit (.int .i64 (lk ofB a b c)), .lit (.int .i64 (lk ofC a b c))]))
  | _ => .stuck 1
noncomputable def c_normal : Con := fun args => match args with
  | [.agg [.lit (.int .i64 a), .lit (.int .i64 b), .lit (.int .i64 c)]] =>
    .ask (0 < c → I64 (c - 1) ∧ I64 (b * (c - 1)) ∧ I64 (a + b * (c - 1)))
      (.ret (.tup [.agg [.lit (.int .i64 (lk nLow a b c)), .lit (.int .i64 (lk nHigh a b c)), .lit (.int .i64 (lk nStr a b c))], .lit (.int .i64 (lk nErr a b c))]))
  | _ => .stuck 1
noncomputable def c_turned : Con := fun args => match args with
  | [.agg [.lit (.int .i64 a), .lit (.int .i64 b), .lit (.int .i64 c)]] =>
    .ask (c ≠ 0 → I64 (c - 1) ∧ I64 (b * (c - 1)) ∧ I64 (a + b * (c - 1)) ∧ I64 (-b)) (.ret (.agg [.lit (.int .i64 (lk tF a b c)), .lit (.int .i64 (lk tB a b c)), .lit (.int .i64 c)]))
  | _ => .stuck 1
noncomputable def c_Check : Con := fun args => match args with
  | [.agg [.lit (.int .i64 a), .lit (.int .i64 b), .lit (.int .i64 c)]] => .ask (I64 a ∧ I64 b ∧ I64 c) (.ret (.lit (.int .i64 (lk chk a b c))))
  | _ => .stuck 1
noncomputable def c_Of : Con := fun args => match args with
  | [.lit (.int .i64 l), .lit (.int .i64 h), .lit (.int .i64 s)] =>
    .ret (.tup [.agg [.lit (.int .i64 (lk ofLow l h s)), .lit (.int .i64 (lk ofHigh l h s)), .lit (.int .i64 (lk ofStr l h s))], .lit (.int .i64 (lk ofErr l h s))])
  | _ => .stuck 1
noncomputable def c_Size : Con := fun args => match args with
  | [.agg [.lit (.int .i64 a), .lit (.int .i64 b), .lit (.int .i64 c)]] => .ask (I64 a ∧ I64 b ∧ I64 c) (.ret (.lit (.int .i64 (lk size a b c))))
  | _ => .stuck 1
noncomputable def c_Nth : Con := fun args => match args with
  | [.agg [.lit (.int .i64 a), .lit (.int .i64 b), .lit (.int .i64 c)], .lit (.int .i64 k)] => .ask (I64 a ∧ I64 b ∧ I64 c) (.ret (.tup [.lit (.int .i64 (lk nth a b c k)), .lit (.int .i64 (lk nthE a b c k))]))
  | _ => .stuck 1
noncomputable def c_Position : Con := fun args => match args with
  | [.agg [.lit (.int .i64 a), .lit (.int .i64 b), .lit (.int .i64 c)], .lit (.int .i64 n)] => .ask (I64 a ∧ I64 b ∧ I64 c) (.ret (.tup [.lit (.int .i64 (lk pos a b c n)), .lit (.bool (lk has a b c n))]))
  | _ => .stuck 1
noncomputable def c_Has : Con := fun args => match args with
  | [.agg [.lit (.int .i64 a), .lit (.int .i64 b), .lit (.int .i64 c)], .lit (.int .i64 n)] => .ask (I64 a ∧ I64 b ∧ I64 c) (.ret (.lit (.bool (lk has a b c n))))
  | _ => .stuck 1
noncomputable def c_By : Con := fun args => match args with
  | [.agg [.lit (.int .i64 a), .lit (.int .i64 b), .lit (.int .i64 c)], .lit (.int .i64 n)] =>
    .ask (I64 a ∧ I64 b ∧ I64 c) (.ret (.tup [.agg [.lit (.int .i64 (lk byLow a b c n)), .lit (.int .i64 (lk byHigh a b c n)), .lit (.int .i64 (lk byStr a b c n))], .lit (.int .i64 (lk byErr a b c n))]))
  | _ => .stuck 1
noncomputable def c_true : Con := fun args => match args with
  | [] => .ret (.lit (.bool true))
  | _ => .stuck 1
noncomputable def c_Empty : Con := fun args => match args with
  | [] => .ret (.agg [.lit (.int .i64 1), .lit (.int .i64 0), .lit (.int .i64 1)])
  | _ => .stuck 1
noncomputable def c_IsEmpty : Con := fun args => match args with
  | [.agg [.lit (.int .i64 a), .lit (.int .i64 b), .lit (.int .i64 c)]] => .ret (.lit (.bool (lk isE a b c)))
  | _ => .stuck 1
noncomputable def c_step : Con := fun args => match args with
  | [.agg [.lit (.int .i64 a), .lit (.int .i64 b), .lit (.int .i64 c)]] => .ask (I64 (-c)) (.ret (.lit (.int .i64 (lk absI c))))
  | _ => .stuck 1
noncomputable def c_mod : Con := fun args => match args with
  | [.lit (.int .i64 a), .lit (.int .i64 b)] => .ask (b ≠ 0 ∧ I64 a ∧ I64 b) (.ret (.lit (.int .u64 (lk rmod a b))))
  | _ => .stuck 1
noncomputable def c_Normal : Con := fun args => match args with
  | [.lit (.int .i64 l), .lit (.int .i64 h), .lit (.int .i64 s), .lit (.bool d)] =>
    .ask (l < h → d = true → I64 (-s)) (.ret (.agg [.lit (.int .i64 (lk rnL l h s d)), .lit (.int .i64 (lk rnH l h s d)), .lit (.int .i64 (lk rnS l h s d))]))
  | _ => .stuck 1
end Go.RX.Span
