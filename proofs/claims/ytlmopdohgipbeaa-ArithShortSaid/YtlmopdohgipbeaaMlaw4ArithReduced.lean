/- Written by gen.py: the conditions of the functions of law4ArithReduced. -/
import Derived.Test.YtlmopdohgipbeaaNums
set_option linter.unusedVariables false
set_option linter.unusedSimpArgs false
namespace Go.Den.Ytlmopdohgipbeaa
open Go Go.Den

/- burin/burinlaw4.ArithReduced -/
set_option maxRecDepth 100000 in
def burinlaw4_ArithReduced (C : CallP) (a0_1 : Int) (a0_2 : Option Addr) (a0_2n : Nat) (a0_2c : Nat) (h : Heap) (K : Value → Heap → Prop) (Kp : List PanicEntry → Heap → Prop) : Prop :=
newC h [.int .i64 a0_1, .slice a0_2 a0_2n a0_2c] T_burinlaw4_Script fun r_3 h_4 =>
ldI h_4 ((⟨r_3, 0, none⟩ : Addr).add 0) .i64 fun x_5 =>
C F_burinkit_Within #[.int .i64 x_5, .int .i64 40] h_4 (fun v_6 h_7 =>
∃ (r_8 : Int), v_6 = .int .i64 r_8 ∧ (
bindI (IntKind.i64.wrap ((1 : Int) + r_8)) fun z_9 =>
C F_arith_New #[.int .i64 z_9] h_7 (fun v_10 h_11 =>
∃ (r_12 : Option Addr), ∃ (r_13 : Int), v_10 = .tuple #[.pointer r_12, .int .i64 r_13] ∧ (
C F_arith_New #[.int .i64 z_9] h_11 (fun v_14 h_15 =>
∃ (r_16 : Option Addr), ∃ (r_17 : Int), v_14 = .tuple #[.pointer r_16, .int .i64 r_17] ∧ (
bcase (r_13 != (0 : Int)) (
K (.bool false) h_15) <|
bcase (r_17 != (0 : Int)) (
K (.bool false) h_15) <|
bcase r_12.isNone (
K (.bool false) h_15) <|
bcase r_16.isNone (
K (.bool false) h_15) <|
∃ K_18 : List Value → Heap → Prop, (
∃ J_21 : Nat → List Value → Heap → Prop, (∃ n_23, J_21 n_23 [.int .i64 0] h_15) ∧ ∀ (n_23 : Nat) (h_24 : Heap) (u_25 : Nat → Value) (x_26 : Int), J_21 n_23 [.int .i64 x_26] h_24 → (
ldS h_24 ((⟨r_3, 0, none⟩ : Addr).add 1) fun x_27 x_27n x_27c =>
bcase (decide (x_26 < (x_27n : Int))) (
bcase (decide (x_26 < (2000 : Int))) (
ldS h_24 ((⟨r_3, 0, none⟩ : Addr).add 1) fun x_28 x_28n x_28c =>
needs (0 ≤ x_26 ∧ x_26 < (x_28n : Int)) <|
ptr x_28 fun a_29 =>
ldI h_24 ((a_29.add (x_26.toNat * 2)).add 0) .i64 fun x_30 =>
C F_burinkit_Within #[.int .i64 x_30, .int .i64 z_9] h_24 (fun v_31 h_32 =>
∃ (r_33 : Int), v_31 = .int .i64 r_33 ∧ (
bindI (x_26.tmod (7 : Int)) fun z_34 =>
bindI (IntKind.i64.wrap (z_34 - (3 : Int))) fun z_35 =>
bindI (IntKind.i64.wrap (z_9 * z_35)) fun z_36 =>
bindI (IntKind.i64.wrap (r_33 + z_36)) fun z_37 =>
ldS h_32 ((⟨r_3, 0, none⟩ : Addr).add 1) fun x_38 x_38n x_38c =>
needs (0 ≤ x_26 ∧ x_26 < (x_38n : Int)) <|
ptr x_38 fun a_39 =>
ldI h_32 ((a_39.add (x_26.toNat * 2)).add 1) .i64 fun x_40 =>
bindI (bitI .and .i64 x_40 (1 : Int)) fun z_41 =>
C F_arith_Coder_Put #[.pointer r_12, .int .i64 r_33, .int .i64 z_41] h_32 (fun v_42 h_43 =>
∃ (r_44 : Int), v_42 = .int .i64 r_44 ∧ (
bcase (r_44 != (0 : Int)) (
K (.bool false) h_43) <|
ldS h_43 ((⟨r_3, 0, none⟩ : Addr).add 1) fun x_45 x_45n x_45c =>
needs (0 ≤ x_26 ∧ x_26 < (x_45n : Int)) <|
ptr x_45 fun a_46 =>
ldI h_43 ((a_46.add (x_26.toNat * 2)).add 1) .i64 fun x_47 =>
bindI (bitI .and .i64 x_47 (1 : Int)) fun z_48 =>
C F_arith_Coder_Put #[.pointer r_16, .int .i64 z_37, .int .i64 z_48] h_43 (fun v_49 h_50 =>
∃ (r_51 : Int), v_49 = .int .i64 r_51 ∧ (
bcase (r_51 != (0 : Int)) (
K (.bool false) h_50) <|
bindI (IntKind.i64.wrap (x_26 + (1 : Int))) fun z_52 =>
∃ m_22, m_22 < n_23 ∧ J_21 m_22 [.int .i64 z_52] h_50)) (Kp))) (Kp))) (Kp)) <|
K_18 [] h_24) <|
K_18 [] h_24)) ∧ ∀ (h_19 : Heap) (u_20 : Nat → Value) , K_18 [] h_19 → (
C F_arith_Coder_Flush #[.pointer r_12] h_19 (fun v_53 h_54 =>
∃ (r_55 : Option Addr) (r_55n : Nat) (r_55c : Nat), ∃ (r_56 : Int), v_53 = .tuple #[.slice r_55 r_55n r_55c, .int .i64 r_56] ∧ (
C F_arith_Coder_Flush #[.pointer r_16] h_54 (fun v_57 h_58 =>
∃ (r_59 : Option Addr) (r_59n : Nat) (r_59c : Nat), ∃ (r_60 : Int), v_57 = .tuple #[.slice r_59 r_59n r_59c, .int .i64 r_60] ∧ (
bcase (r_56 == (0 : Int)) (
bcase (r_60 == (0 : Int)) (
C F_burinref0_Eq #[.slice r_55 r_55n r_55c, .slice r_59 r_59n r_59c] h_58 (fun v_61 h_62 =>
∃ (r_63 : Bool), v_61 = .bool r_63 ∧ (
bcase r_63 (
ptr r_12 fun a_64 =>
ptr r_16 fun a_65 =>
C F_arith_table_States #[.pointer (some (a_64.add 0))] h_62 (fun v_66 h_67 =>
∃ (r_68 : Option Addr) (r_68n : Nat) (r_68c : Nat), v_66 = .slice r_68 r_68n r_68c ∧ (
C F_arith_table_States #[.pointer (some (a_65.add 0))] h_67 (fun v_69 h_70 =>
∃ (r_71 : Option Addr) (r_71n : Nat) (r_71c : Nat), v_69 = .slice r_71 r_71n r_71c ∧ (
C F_burinref0_Eq #[.slice r_68 r_68n r_68c, .slice r_71 r_71n r_71c] h_70 (fun v_72 h_73 =>
∃ (r_74 : Bool), v_72 = .bool r_74 ∧ (
bcase r_74 (
C F_burinlaw4_wakes #[] h_73 (fun v_75 h_76 =>
∃ (r_77 : Bool), v_75 = .bool r_77 ∧ (
K (.bool r_77) h_76)) (Kp)) <|
K (.bool false) h_73)) (Kp))) (Kp))) (Kp)) <|
K (.bool false) h_62)) (Kp)) <|
K (.bool false) h_58) <|
K (.bool false) h_58)) (Kp))) (Kp)))) (Kp))) (Kp))) (Kp)

end Go.Den.Ytlmopdohgipbeaa
