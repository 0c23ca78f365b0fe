/- Written by gen.py: the conditions of the functions of law4ArithReads. -/
import Derived.Test.YtlmopdohgipbeaaNums
set_option linter.unusedVariables false
set_option linter.unusedSimpArgs false
namespace Go.Den.Ytlmopdohgipbeaa
open Go Go.Den

/- burin/burinlaw4.ArithReads -/
set_option maxRecDepth 100000 in
def burinlaw4_ArithReads (C : CallP) (a0_1 : Option Addr) (a0_1n : Nat) (a0_1c : Nat) (a0_2 : Int) (a0_3 : Option Addr) (a0_3n : Nat) (a0_3c : Nat) (h : Heap) (K : Value → Heap → Prop) (Kp : List PanicEntry → Heap → Prop) : Prop :=
newC h [.slice a0_1 a0_1n a0_1c, .int .i64 a0_2, .slice a0_3 a0_3n a0_3c] T_burinlaw4_Reading fun r_4 h_5 =>
ldS h_5 ((⟨r_4, 0, none⟩ : Addr).add 0) fun x_6 x_6n x_6c =>
C F_burinkit_Lend #[.slice x_6 x_6n x_6c] h_5 (fun v_7 h_8 =>
∃ (r_9 : Option Addr) (r_9n : Nat) (r_9c : Nat), v_7 = .slice r_9 r_9n r_9c ∧ (
ldI h_8 ((⟨r_4, 0, none⟩ : Addr).add 1) .i64 fun x_10 =>
C F_arith_NewDecoder #[.slice r_9 r_9n r_9c, .int .i64 x_10] h_8 (fun v_11 h_12 =>
∃ (r_13 : Option Addr), ∃ (r_14 : Int), v_11 = .tuple #[.pointer r_13, .int .i64 r_14] ∧ (
ldS h_12 ((⟨r_4, 0, none⟩ : Addr).add 0) fun x_15 x_15n x_15c =>
C F_burinkit_Back #[.slice r_9 r_9n r_9c, .slice x_15 x_15n x_15c] h_12 (fun v_16 h_17 =>
∃ (r_18 : Bool), v_16 = .bool r_18 ∧ (
bcase (!r_18) (
K (.bool false) h_17) <|
ldI h_17 ((⟨r_4, 0, none⟩ : Addr).add 1) .i64 fun x_19 =>
bcase (decide (x_19 < (1 : Int))) (
bcase r_13.isNone (
bcase (r_14 == (40 : Int)) (
C F_burinlaw4_wakes #[] h_17 (fun v_20 h_21 =>
∃ (r_22 : Bool), v_20 = .bool r_22 ∧ (
K (.bool r_22) h_21)) (Kp)) <|
K (.bool false) h_17) <|
K (.bool false) h_17) <|
ldI h_17 ((⟨r_4, 0, none⟩ : Addr).add 1) .i64 fun x_23 =>
bcase (decide (x_23 > (131072 : Int))) (
bcase r_13.isNone (
bcase (r_14 == (40 : Int)) (
C F_burinlaw4_wakes #[] h_17 (fun v_24 h_25 =>
∃ (r_26 : Bool), v_24 = .bool r_26 ∧ (
K (.bool r_26) h_25)) (Kp)) <|
K (.bool false) h_17) <|
K (.bool false) h_17) <|
bcase r_13.isNone (
hext h_17 h_17 ∧ (
K (.bool false) h_17)) <|
bcase (r_14 != (0 : Int)) (
hext h_17 h_17 ∧ (
K (.bool false) h_17)) <|
ptr r_13 fun a_27 =>
ldI h_17 ((⟨r_4, 0, none⟩ : Addr).add 1) .i64 fun x_28 =>
C F_arith_table_Contexts #[.pointer (some (a_27.add 0))] h_17 (fun v_29 h_30 =>
∃ (r_31 : Int), v_29 = .int .i64 r_31 ∧ (
hext h_17 h_30 ∧ (
bcase (r_31 != x_28) (
K (.bool false) h_30) <|
ldI h_30 ((⟨r_4, 0, none⟩ : Addr).add 1) .i64 fun x_32 =>
bcase (decide (x_32 > (5000 : Int))) (
C F_burinlaw4_wakes #[] h_30 (fun v_33 h_34 =>
∃ (r_35 : Bool), v_33 = .bool r_35 ∧ (
K (.bool r_35) h_34)) (Kp)) <|
ldS h_30 ((⟨r_4, 0, none⟩ : Addr).add 0) fun x_36 x_36n x_36c =>
ldI h_30 ((⟨r_4, 0, none⟩ : Addr).add 1) .i64 fun x_37 =>
C F_burinref4_NewDecoder #[.slice x_36 x_36n x_36c, .int .i64 x_37] h_30 (fun v_38 h_39 =>
∃ (r_40 : Option Addr), v_38 = .pointer r_40 ∧ (
∃ K_41 : List Value → Heap → Prop, (
∃ J_44 : Nat → List Value → Heap → Prop, (∃ n_46, J_44 n_46 [.int .i64 0] h_39) ∧ ∀ (n_46 : Nat) (h_47 : Heap) (u_48 : Nat → Value) (x_49 : Int), J_44 n_46 [.int .i64 x_49] h_47 → (
ldS h_47 ((⟨r_4, 0, none⟩ : Addr).add 2) fun x_50 x_50n x_50c =>
bcase (decide (x_49 < (x_50n : Int))) (
bcase (decide (x_49 < (6000 : Int))) (
ldS h_47 ((⟨r_4, 0, none⟩ : Addr).add 2) fun x_51 x_51n x_51c =>
needs (0 ≤ x_49 ∧ x_49 < (x_51n : Int)) <|
ptr x_51 fun a_52 =>
ldI h_47 (a_52.add (x_49.toNat * 1)) .i64 fun x_53 =>
C F_arith_Decoder_Get #[.pointer r_13, .int .i64 x_53] h_47 (fun v_54 h_55 =>
∃ (r_56 : Int), ∃ (r_57 : Int), v_54 = .tuple #[.int .i64 r_56, .int .i64 r_57] ∧ (
ldS h_55 ((⟨r_4, 0, none⟩ : Addr).add 2) fun x_58 x_58n x_58c =>
needs (0 ≤ x_49 ∧ x_49 < (x_58n : Int)) <|
ptr x_58 fun a_59 =>
ldI h_55 (a_59.add (x_49.toNat * 1)) .i64 fun x_60 =>
C F_burinref4_Decoder_Get #[.pointer r_40, .int .i64 x_60] h_55 (fun v_61 h_62 =>
∃ (r_63 : Int), ∃ (r_64 : Int), v_61 = .tuple #[.int .i64 r_63, .int .i64 r_64] ∧ (
bcase (r_56 != r_63) (
K (.bool false) h_62) <|
bcase (r_57 != r_64) (
K (.bool false) h_62) <|
bindI (x_49.tmod (97 : Int)) fun z_65 =>
bcase (z_65 == (0 : Int)) (
ptr r_13 fun a_66 =>
ptr r_40 fun a_67 =>
C F_arith_table_States #[.pointer (some (a_66.add 0))] h_62 (fun v_68 h_69 =>
∃ (r_70 : Option Addr) (r_70n : Nat) (r_70c : Nat), v_68 = .slice r_70 r_70n r_70c ∧ (
C F_burinref4_side_States #[.pointer (some (a_67.add 0))] h_69 (fun v_71 h_72 =>
∃ (r_73 : Option Addr) (r_73n : Nat) (r_73c : Nat), v_71 = .slice r_73 r_73n r_73c ∧ (
C F_burinref0_Eq #[.slice r_70 r_70n r_70c, .slice r_73 r_73n r_73c] h_72 (fun v_74 h_75 =>
∃ (r_76 : Bool), v_74 = .bool r_76 ∧ (
bcase (!r_76) (
K (.bool false) h_75) <|
bindI (IntKind.i64.wrap (x_49 + (1 : Int))) fun z_77 =>
∃ m_45, m_45 < n_46 ∧ J_44 m_45 [.int .i64 z_77] h_75)) (Kp))) (Kp))) (Kp)) <|
bindI (IntKind.i64.wrap (x_49 + (1 : Int))) fun z_78 =>
∃ m_45, m_45 < n_46 ∧ J_44 m_45 [.int .i64 z_78] h_62)) (Kp))) (Kp)) <|
K_41 [] h_47) <|
K_41 [] h_47)) ∧ ∀ (h_42 : Heap) (u_43 : Nat → Value) , K_41 [] h_42 → (
ptr r_13 fun a_79 =>
ptr r_40 fun a_80 =>
C F_arith_table_States #[.pointer (some (a_79.add 0))] h_42 (fun v_81 h_82 =>
∃ (r_83 : Option Addr) (r_83n : Nat) (r_83c : Nat), v_81 = .slice r_83 r_83n r_83c ∧ (
C F_burinref4_side_States #[.pointer (some (a_80.add 0))] h_82 (fun v_84 h_85 =>
∃ (r_86 : Option Addr) (r_86n : Nat) (r_86c : Nat), v_84 = .slice r_86 r_86n r_86c ∧ (
C F_burinref0_Eq #[.slice r_83 r_83n r_83c, .slice r_86 r_86n r_86c] h_85 (fun v_87 h_88 =>
∃ (r_89 : Bool), v_87 = .bool r_89 ∧ (
bcase r_89 (
C F_burinlaw4_wakes #[] h_88 (fun v_90 h_91 =>
∃ (r_92 : Bool), v_90 = .bool r_92 ∧ (
K (.bool r_92) h_91)) (Kp)) <|
K (.bool false) h_88)) (Kp))) (Kp))) (Kp)))) (Kp)))) (Kp))) (Kp))) (Kp))) (Kp)

end Go.Den.Ytlmopdohgipbeaa
