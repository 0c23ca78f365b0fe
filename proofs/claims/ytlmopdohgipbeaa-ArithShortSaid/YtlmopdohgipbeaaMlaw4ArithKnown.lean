/- Written by gen.py: the conditions of the functions of law4ArithKnown. -/
import Derived.Test.YtlmopdohgipbeaaNums
set_option linter.unusedVariables false
set_option linter.unusedSimpArgs false
namespace Go.Den.Ytlmopdohgipbeaa
open Go Go.Den

/- burin/burinlaw4.ArithKnown -/
set_option maxRecDepth 100000 in
def burinlaw4_ArithKnown (C : CallP)  (h : Heap) (K : Value → Heap → Prop) (Kp : List PanicEntry → Heap → Prop) : Prop :=
C F_burinlaw4_known #[] h (fun v_1 h_2 =>
∃ (r_3 : Option Addr) (r_3n : Nat) (r_3c : Nat), ∃ (r_4 : Option Addr) (r_4n : Nat) (r_4c : Nat), v_1 = .tuple #[.slice r_3 r_3n r_3c, .slice r_4 r_4n r_4c] ∧ (
C F_arith_New #[.int .i64 1] h_2 (fun v_5 h_6 =>
∃ (r_7 : Option Addr), ∃ (r_8 : Int), v_5 = .tuple #[.pointer r_7, .int .i64 r_8] ∧ (
bcase (r_8 != (0 : Int)) (
K (.bool false) h_6) <|
bcase r_7.isNone (
K (.bool false) h_6) <|
∃ J_9 : Nat → List Value → Heap → Prop, (∃ n_11, J_9 n_11 [.int .i64 0] h_6) ∧ ∀ (n_11 : Nat) (h_12 : Heap) (u_13 : Nat → Value) (x_14 : Int), J_9 n_11 [.int .i64 x_14] h_12 → (
bindI (IntKind.i64.wrap ((8 : Int) * (r_3n : Int))) fun z_15 =>
bcase (decide (x_14 < z_15)) (
bindI (IntKind.i64.wrap (x_14.tdiv (8 : Int))) fun z_16 =>
needs (0 ≤ z_16 ∧ z_16 < (r_3n : Int)) <|
ptr r_3 fun a_17 =>
ldI h_12 (a_17.add (z_16.toNat * 1)) .u8 fun x_18 =>
bindI (x_14.tmod (8 : Int)) fun z_19 =>
bindI (IntKind.i64.wrap ((7 : Int) - z_19)) fun z_20 =>
bindI (IntKind.u64.wrap z_20) fun z_21 =>
needs (0 ≤ z_21) <|
bindI (shrI .u8 x_18 z_21) fun z_22 =>
bindI (bitI .and .u8 z_22 (1 : Int)) fun z_23 =>
bindI (IntKind.i64.wrap z_23) fun z_24 =>
C F_arith_Coder_Put #[.pointer r_7, .int .i64 0, .int .i64 z_24] h_12 (fun v_25 h_26 =>
∃ (r_27 : Int), v_25 = .int .i64 r_27 ∧ (
bcase (r_27 != (0 : Int)) (
K (.bool false) h_26) <|
bindI (IntKind.i64.wrap (x_14 + (1 : Int))) fun z_28 =>
∃ m_10, m_10 < n_11 ∧ J_9 m_10 [.int .i64 z_28] h_26)) (Kp)) <|
C F_arith_Coder_Flush #[.pointer r_7] h_12 (fun v_29 h_30 =>
∃ (r_31 : Option Addr) (r_31n : Nat) (r_31c : Nat), ∃ (r_32 : Int), v_29 = .tuple #[.slice r_31 r_31n r_31c, .int .i64 r_32] ∧ (
C F_arith_NewDecoder #[.slice r_4 r_4n r_4c, .int .i64 1] h_30 (fun v_33 h_34 =>
∃ (r_35 : Option Addr), ∃ (r_36 : Int), v_33 = .tuple #[.pointer r_35, .int .i64 r_36] ∧ (
bcase (r_32 != (0 : Int)) (
K (.bool false) h_34) <|
bcase (r_36 != (0 : Int)) (
K (.bool false) h_34) <|
bcase r_35.isNone (
K (.bool false) h_34) <|
C F_burinref0_Eq #[.slice r_31 r_31n r_31c, .slice r_4 r_4n r_4c] h_34 (fun v_37 h_38 =>
∃ (r_39 : Bool), v_37 = .bool r_39 ∧ (
bcase (!r_39) (
K (.bool false) h_38) <|
∃ J_40 : Nat → List Value → Heap → Prop, (∃ n_42, J_40 n_42 [.int .i64 0] h_38) ∧ ∀ (n_42 : Nat) (h_43 : Heap) (u_44 : Nat → Value) (x_45 : Int), J_40 n_42 [.int .i64 x_45] h_43 → (
bindI (IntKind.i64.wrap ((8 : Int) * (r_3n : Int))) fun z_46 =>
bcase (decide (x_45 < z_46)) (
C F_arith_Decoder_Get #[.pointer r_35, .int .i64 0] h_43 (fun v_47 h_48 =>
∃ (r_49 : Int), ∃ (r_50 : Int), v_47 = .tuple #[.int .i64 r_49, .int .i64 r_50] ∧ (
bcase (r_50 != (0 : Int)) (
K (.bool false) h_48) <|
bindI (IntKind.i64.wrap (x_45.tdiv (8 : Int))) fun z_51 =>
needs (0 ≤ z_51 ∧ z_51 < (r_3n : Int)) <|
ptr r_3 fun a_52 =>
ldI h_48 (a_52.add (z_51.toNat * 1)) .u8 fun x_53 =>
bindI (x_45.tmod (8 : Int)) fun z_54 =>
bindI (IntKind.i64.wrap ((7 : Int) - z_54)) fun z_55 =>
bindI (IntKind.u64.wrap z_55) fun z_56 =>
needs (0 ≤ z_56) <|
bindI (shrI .u8 x_53 z_56) fun z_57 =>
bindI (bitI .and .u8 z_57 (1 : Int)) fun z_58 =>
bindI (IntKind.i64.wrap z_58) fun z_59 =>
bcase (r_49 != z_59) (
K (.bool false) h_48) <|
bindI (IntKind.i64.wrap (x_45 + (1 : Int))) fun z_60 =>
∃ m_41, m_41 < n_42 ∧ J_40 m_41 [.int .i64 z_60] h_48)) (Kp)) <|
ptr r_7 fun a_61 =>
ptr r_35 fun a_62 =>
C F_arith_table_States #[.pointer (some (a_61.add 0))] h_43 (fun v_63 h_64 =>
∃ (r_65 : Option Addr) (r_65n : Nat) (r_65c : Nat), v_63 = .slice r_65 r_65n r_65c ∧ (
C F_arith_table_States #[.pointer (some (a_62.add 0))] h_64 (fun v_66 h_67 =>
∃ (r_68 : Option Addr) (r_68n : Nat) (r_68c : Nat), v_66 = .slice r_68 r_68n r_68c ∧ (
C F_burinref0_Eq #[.slice r_65 r_65n r_65c, .slice r_68 r_68n r_68c] h_67 (fun v_69 h_70 =>
∃ (r_71 : Bool), v_69 = .bool r_71 ∧ (
bcase r_71 (
C F_burinlaw4_wakes #[] h_70 (fun v_72 h_73 =>
∃ (r_74 : Bool), v_72 = .bool r_74 ∧ (
K (.bool r_74) h_73)) (Kp)) <|
K (.bool false) h_70)) (Kp))) (Kp))) (Kp)))) (Kp))) (Kp))) (Kp)))) (Kp))) (Kp)

end Go.Den.Ytlmopdohgipbeaa
