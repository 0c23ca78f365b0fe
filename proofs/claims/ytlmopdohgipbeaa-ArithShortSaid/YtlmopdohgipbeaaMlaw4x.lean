/- Written by gen.py: the conditions of the functions of law4x. -/
import Derived.Test.YtlmopdohgipbeaaNums
set_option linter.unusedVariables false
set_option linter.unusedSimpArgs false
namespace Go.Den.Ytlmopdohgipbeaa
open Go Go.Den

/- burin/burinlaw4.wakes -/
set_option maxRecDepth 100000 in
def burinlaw4_wakes (C : CallP)  (h : Heap) (K : Value → Heap → Prop) (Kp : List PanicEntry → Heap → Prop) : Prop :=
C F_arith_New #[.int .i64 2] h (fun v_1 h_2 =>
∃ (r_3 : Option Addr), ∃ (r_4 : Int), v_1 = .tuple #[.pointer r_3, .int .i64 r_4] ∧ (
bcase (r_4 != (0 : Int)) (
K (.bool false) h_2) <|
bcase r_3.isNone (
K (.bool false) h_2) <|
∃ J_5 : Nat → List Value → Heap → Prop, (∃ n_7, J_5 n_7 [.int .i64 0] h_2) ∧ ∀ (n_7 : Nat) (h_8 : Heap) (u_9 : Nat → Value) (x_10 : Int), J_5 n_7 [.int .i64 x_10] h_8 → (
bcase (decide (x_10 < (40 : Int))) (
bindI (x_10.tmod (2 : Int)) fun z_11 =>
bindI (IntKind.i64.wrap (x_10.tdiv (3 : Int))) fun z_12 =>
bindI (z_12.tmod (2 : Int)) fun z_13 =>
C F_arith_Coder_Put #[.pointer r_3, .int .i64 z_11, .int .i64 z_13] h_8 (fun v_14 h_15 =>
∃ (r_16 : Int), v_14 = .int .i64 r_16 ∧ (
bcase (r_16 != (0 : Int)) (
K (.bool false) h_15) <|
bindI (IntKind.i64.wrap (x_10 + (1 : Int))) fun z_17 =>
∃ m_6, m_6 < n_7 ∧ J_5 m_6 [.int .i64 z_17] h_15)) (Kp)) <|
C F_arith_Coder_Flush #[.pointer r_3] h_8 (fun v_18 h_19 =>
∃ (r_20 : Option Addr) (r_20n : Nat) (r_20c : Nat), ∃ (r_21 : Int), v_18 = .tuple #[.slice r_20 r_20n r_20c, .int .i64 r_21] ∧ (
C F_arith_NewDecoder #[.slice r_20 r_20n r_20c, .int .i64 2] h_19 (fun v_22 h_23 =>
∃ (r_24 : Option Addr), ∃ (r_25 : Int), v_22 = .tuple #[.pointer r_24, .int .i64 r_25] ∧ (
bcase (r_21 != (0 : Int)) (
K (.bool false) h_23) <|
bcase (r_25 != (0 : Int)) (
K (.bool false) h_23) <|
bcase r_24.isNone (
K (.bool false) h_23) <|
bcase ((r_20n : Int) == (0 : Int)) (
K (.bool false) h_23) <|
∃ J_26 : Nat → List Value → Heap → Prop, (∃ n_28, J_26 n_28 [.int .i64 0] h_23) ∧ ∀ (n_28 : Nat) (h_29 : Heap) (u_30 : Nat → Value) (x_31 : Int), J_26 n_28 [.int .i64 x_31] h_29 → (
bcase (decide (x_31 < (40 : Int))) (
bindI (x_31.tmod (2 : Int)) fun z_32 =>
C F_arith_Decoder_Get #[.pointer r_24, .int .i64 z_32] h_29 (fun v_33 h_34 =>
∃ (r_35 : Int), ∃ (r_36 : Int), v_33 = .tuple #[.int .i64 r_35, .int .i64 r_36] ∧ (
bcase (r_36 != (0 : Int)) (
K (.bool false) h_34) <|
bindI (IntKind.i64.wrap (x_31.tdiv (3 : Int))) fun z_37 =>
bindI (z_37.tmod (2 : Int)) fun z_38 =>
bcase (r_35 != z_38) (
K (.bool false) h_34) <|
bindI (IntKind.i64.wrap (x_31 + (1 : Int))) fun z_39 =>
∃ m_27, m_27 < n_28 ∧ J_26 m_27 [.int .i64 z_39] h_34)) (Kp)) <|
K (.bool true) h_29))) (Kp))) (Kp)))) (Kp)

/- burin/burinlaw4.known -/
set_option maxRecDepth 100000 in
def burinlaw4_known (C : CallP)  (h : Heap) (K : Value → Heap → Prop) (Kp : List PanicEntry → Heap → Prop) : Prop :=
newC h [.int .u8 0, .int .u8 2, .int .u8 0, .int .u8 81, .int .u8 0, .int .u8 0, .int .u8 0, .int .u8 192, .int .u8 3, .int .u8 82, .int .u8 135, .int .u8 42, .int .u8 170, .int .u8 170, .int .u8 170, .int .u8 170, .int .u8 130, .int .u8 192, .int .u8 32, .int .u8 0, .int .u8 252, .int .u8 215, .int .u8 158, .int .u8 246, .int .u8 191, .int .u8 127, .int .u8 237, .int .u8 144, .int .u8 79, .int .u8 70, .int .u8 163, .int .u8 191] T_uint8 fun r_1 h_2 =>
newC h_2 [.int .u8 132, .int .u8 199, .int .u8 59, .int .u8 252, .int .u8 225, .int .u8 161, .int .u8 67, .int .u8 4, .int .u8 2, .int .u8 32, .int .u8 0, .int .u8 0, .int .u8 65, .int .u8 13, .int .u8 187, .int .u8 134, .int .u8 244, .int .u8 49, .int .u8 127, .int .u8 255, .int .u8 136, .int .u8 255, .int .u8 55, .int .u8 71, .int .u8 26, .int .u8 219, .int .u8 106, .int .u8 223] T_uint8 fun r_3 h_4 =>
K (.tuple #[.slice (some ⟨r_1, 0, none⟩) 32 32, .slice (some ⟨r_3, 0, none⟩) 28 28]) h_4

end Go.Den.Ytlmopdohgipbeaa
