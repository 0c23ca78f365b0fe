/- Written by gen.py: the conditions of the functions of law4ArithShort. -/
import Derived.Test.YtlmopdohgipbeaaNums
set_option linter.unusedVariables false
set_option linter.unusedSimpArgs false
namespace Go.Den.Ytlmopdohgipbeaa
open Go Go.Den

/- burin/burinlaw4.ArithShort -/
set_option maxRecDepth 100000 in
def burinlaw4_ArithShort (C : CallP) (a0_1 : Int) (a0_2 : Option Addr) (a0_2n : Nat) (a0_2c : Nat) (h : Heap) (K : Value → Heap → Prop) (Kp : List PanicEntry → Heap → Prop) : Prop :=
newC h [.int .i64 a0_1, .slice a0_2 a0_2n a0_2c] T_burinlaw4_Script fun r_3 h_4 =>
ldI h_4 ((⟨r_3, 0, none⟩ : Addr).add 0) .i64 fun x_5 =>
C F_burinkit_Within #[.int .i64 x_5, .int .i64 12] h_4 (fun v_6 h_7 =>
∃ (r_8 : Int), v_6 = .int .i64 r_8 ∧ (
bindI (IntKind.i64.wrap ((1 : Int) + r_8)) fun z_9 =>
C F_arith_New #[.int .i64 z_9] h_7 (fun v_10 h_11 =>
∃ (r_12 : Option Addr), ∃ (r_13 : Int), v_10 = .tuple #[.pointer r_12, .int .i64 r_13] ∧ (
bcase (r_13 != (0 : Int)) (
K (.bool false) h_11) <|
bcase r_12.isNone (
K (.bool false) h_11) <|
∃ J_14 : Nat → List Value → Heap → Prop, (∃ n_16, J_14 n_16 [.int .i64 0] h_11) ∧ ∀ (n_16 : Nat) (h_17 : Heap) (u_18 : Nat → Value) (x_19 : Int), J_14 n_16 [.int .i64 x_19] h_17 → (
bcase (decide (x_19 < (20000 : Int))) (
needs (IntKind.i64 = IntKind.i64 ∧ z_9 ≠ 0) <|
bindI (x_19.tmod z_9) fun z_20 =>
ldS h_17 ((⟨r_3, 0, none⟩ : Addr).add 1) fun x_21 x_21n x_21c =>
bcase (decide (z_20 < (x_21n : Int))) (
ldS h_17 ((⟨r_3, 0, none⟩ : Addr).add 1) fun x_22 x_22n x_22c =>
needs (0 ≤ z_20 ∧ z_20 < (x_22n : Int)) <|
ptr x_22 fun a_23 =>
ldI h_17 ((a_23.add (z_20.toNat * 2)).add 1) .i64 fun x_24 =>
bindI (bitI .and .i64 x_24 (1 : Int)) fun z_25 =>
C F_arith_Coder_Put #[.pointer r_12, .int .i64 z_20, .int .i64 z_25] h_17 (fun v_26 h_27 =>
∃ (r_28 : Int), v_26 = .int .i64 r_28 ∧ (
bcase (r_28 != (0 : Int)) (
K (.bool false) h_27) <|
bindI (IntKind.i64.wrap (x_19 + (1 : Int))) fun z_29 =>
∃ m_15, m_15 < n_16 ∧ J_14 m_15 [.int .i64 z_29] h_27)) (Kp)) <|
C F_arith_Coder_Put #[.pointer r_12, .int .i64 z_20, .int .i64 0] h_17 (fun v_30 h_31 =>
∃ (r_32 : Int), v_30 = .int .i64 r_32 ∧ (
bcase (r_32 != (0 : Int)) (
K (.bool false) h_31) <|
bindI (IntKind.i64.wrap (x_19 + (1 : Int))) fun z_33 =>
∃ m_15, m_15 < n_16 ∧ J_14 m_15 [.int .i64 z_33] h_31)) (Kp)) <|
C F_arith_Coder_Flush #[.pointer r_12] h_17 (fun v_34 h_35 =>
∃ (r_36 : Option Addr) (r_36n : Nat) (r_36c : Nat), ∃ (r_37 : Int), v_34 = .tuple #[.slice r_36 r_36n r_36c, .int .i64 r_37] ∧ (
bcase (r_37 == (0 : Int)) (
bindI (IntKind.i64.wrap ((3 : Int) * z_9)) fun z_38 =>
bindI (IntKind.i64.wrap ((8 : Int) + z_38)) fun z_39 =>
bcase (decide ((r_36n : Int) ≤ z_39)) (
C F_burinlaw4_wakes #[] h_35 (fun v_40 h_41 =>
∃ (r_42 : Bool), v_40 = .bool r_42 ∧ (
K (.bool r_42) h_41)) (Kp)) <|
K (.bool false) h_35) <|
K (.bool false) h_35)) (Kp)))) (Kp))) (Kp)

end Go.Den.Ytlmopdohgipbeaa
