/- Written by gen.py: the conditions of the functions of law4ArithCodes. -/
import Derived.Test.YtlmopdohgipbeaaNums
set_option linter.unusedVariables false
set_option linter.unusedSimpArgs false
namespace Go.Den.Ytlmopdohgipbeaa
open Go Go.Den

/- burin/burinlaw4.ArithCodes -/
set_option maxRecDepth 100000 in
def burinlaw4_ArithCodes (C : CallP) (a0_1 : Int) (a0_2 : Option Addr) (a0_2n : Nat) (a0_2c : Nat) (h : Heap) (K : Value → Heap → Prop) (Kp : List PanicEntry → Heap → Prop) : Prop :=
newC h [.int .i64 a0_1, .slice a0_2 a0_2n a0_2c] T_burinlaw4_Script fun r_3 h_4 =>
ldI h_4 ((⟨r_3, 0, none⟩ : Addr).add 0) .i64 fun x_5 =>
C F_arith_New #[.int .i64 x_5] h_4 (fun v_6 h_7 =>
∃ (r_8 : Option Addr), ∃ (r_9 : Int), v_6 = .tuple #[.pointer r_8, .int .i64 r_9] ∧ (
ldI h_7 ((⟨r_3, 0, none⟩ : Addr).add 0) .i64 fun x_10 =>
bcase (decide (x_10 < (1 : Int))) (
bcase r_8.isNone (
bcase (r_9 == (40 : Int)) (
C F_burinlaw4_wakes #[] h_7 (fun v_11 h_12 =>
∃ (r_13 : Bool), v_11 = .bool r_13 ∧ (
K (.bool r_13) h_12)) (Kp)) <|
K (.bool false) h_7) <|
K (.bool false) h_7) <|
ldI h_7 ((⟨r_3, 0, none⟩ : Addr).add 0) .i64 fun x_14 =>
bcase (decide (x_14 > (131072 : Int))) (
bcase r_8.isNone (
bcase (r_9 == (40 : Int)) (
C F_burinlaw4_wakes #[] h_7 (fun v_15 h_16 =>
∃ (r_17 : Bool), v_15 = .bool r_17 ∧ (
K (.bool r_17) h_16)) (Kp)) <|
K (.bool false) h_7) <|
K (.bool false) h_7) <|
∃ R_18 : Nat → Prop, (
bcase r_8.isNone (
hkeep R_18 h_7 h_7 ∧ (
K (.bool false) h_7)) <|
bcase (r_9 != (0 : Int)) (
hkeep R_18 h_7 h_7 ∧ (
K (.bool false) h_7)) <|
ptr r_8 fun a_19 =>
ldI h_7 ((⟨r_3, 0, none⟩ : Addr).add 0) .i64 fun x_20 =>
R_18 (((⟨r_3, 0, none⟩ : Addr).add 0) : Addr).block ∧ (
C F_arith_table_Contexts #[.pointer (some (a_19.add 0))] h_7 (fun v_21 h_22 =>
∃ (r_23 : Int), v_21 = .int .i64 r_23 ∧ (
hkeep R_18 h_7 h_22 ∧ (
bcase (r_23 != x_20) (
K (.bool false) h_22) <|
ldI h_22 ((⟨r_3, 0, none⟩ : Addr).add 0) .i64 fun x_24 =>
bcase (decide (x_24 > (5000 : Int))) (
C F_burinlaw4_wakes #[] h_22 (fun v_25 h_26 =>
∃ (r_27 : Bool), v_25 = .bool r_27 ∧ (
K (.bool r_27) h_26)) (Kp)) <|
ldI h_22 ((⟨r_3, 0, none⟩ : Addr).add 0) .i64 fun x_28 =>
C F_burinref4_New #[.int .i64 x_28] h_22 (fun v_29 h_30 =>
∃ (r_31 : Option Addr), v_29 = .pointer r_31 ∧ (
∃ K_32 : List Value → Heap → Prop, (
∃ J_35 : Nat → List Value → Heap → Prop, (∃ n_37, J_35 n_37 [.int .i64 0] h_30) ∧ ∀ (n_37 : Nat) (h_38 : Heap) (u_39 : Nat → Value) (x_40 : Int), J_35 n_37 [.int .i64 x_40] h_38 → (
ldS h_38 ((⟨r_3, 0, none⟩ : Addr).add 1) fun x_41 x_41n x_41c =>
bcase (decide (x_40 < (x_41n : Int))) (
bcase (decide (x_40 < (6000 : Int))) (
∃ R_42 : Nat → Prop, (
ldS h_38 ((⟨r_3, 0, none⟩ : Addr).add 1) fun x_43 x_43n x_43c =>
R_42 (((⟨r_3, 0, none⟩ : Addr).add 1) : Addr).block ∧ (
needs (0 ≤ x_40 ∧ x_40 < (x_43n : Int)) <|
ptr x_43 fun a_44 =>
ldI h_38 ((a_44.add (x_40.toNat * 2)).add 0) .i64 fun x_45 =>
R_42 (((a_44.add (x_40.toNat * 2)).add 0) : Addr).block ∧ (
ldS h_38 ((⟨r_3, 0, none⟩ : Addr).add 1) fun x_46 x_46n x_46c =>
R_42 (((⟨r_3, 0, none⟩ : Addr).add 1) : Addr).block ∧ (
needs (0 ≤ x_40 ∧ x_40 < (x_46n : Int)) <|
ptr x_46 fun a_47 =>
ldI h_38 ((a_47.add (x_40.toNat * 2)).add 1) .i64 fun x_48 =>
R_42 (((a_47.add (x_40.toNat * 2)).add 1) : Addr).block ∧ (
ldS h_38 ((⟨r_3, 0, none⟩ : Addr).add 1) fun x_49 x_49n x_49c =>
R_42 (((⟨r_3, 0, none⟩ : Addr).add 1) : Addr).block ∧ (
needs (0 ≤ x_40 ∧ x_40 < (x_49n : Int)) <|
ptr x_49 fun a_50 =>
ldI h_38 ((a_50.add (x_40.toNat * 2)).add 0) .i64 fun x_51 =>
R_42 (((a_50.add (x_40.toNat * 2)).add 0) : Addr).block ∧ (
ldS h_38 ((⟨r_3, 0, none⟩ : Addr).add 1) fun x_52 x_52n x_52c =>
R_42 (((⟨r_3, 0, none⟩ : Addr).add 1) : Addr).block ∧ (
needs (0 ≤ x_40 ∧ x_40 < (x_52n : Int)) <|
ptr x_52 fun a_53 =>
ldI h_38 ((a_53.add (x_40.toNat * 2)).add 1) .i64 fun x_54 =>
R_42 (((a_53.add (x_40.toNat * 2)).add 1) : Addr).block ∧ (
C F_arith_Coder_Put #[.pointer r_8, .int .i64 x_45, .int .i64 x_48] h_38 (fun v_55 h_56 =>
∃ (r_57 : Int), v_55 = .int .i64 r_57 ∧ (
hkeep R_42 h_38 h_56 ∧ (
C F_burinref4_Coder_Put #[.pointer r_31, .int .i64 x_51, .int .i64 x_54] h_56 (fun v_58 h_59 =>
∃ (r_60 : Int), v_58 = .int .i64 r_60 ∧ (
bcase (r_57 != r_60) (
K (.bool false) h_59) <|
bindI (x_40.tmod (97 : Int)) fun z_61 =>
bcase (z_61 == (0 : Int)) (
ptr r_8 fun a_62 =>
C F_arith_table_States #[.pointer (some (a_62.add 0))] h_59 (fun v_63 h_64 =>
∃ (r_65 : Option Addr) (r_65n : Nat) (r_65c : Nat), v_63 = .slice r_65 r_65n r_65c ∧ (
ptr r_31 fun a_66 =>
C F_burinref4_side_States #[.pointer (some (a_66.add 0))] h_64 (fun v_67 h_68 =>
∃ (r_69 : Option Addr) (r_69n : Nat) (r_69c : Nat), v_67 = .slice r_69 r_69n r_69c ∧ (
C F_burinref0_Eq #[.slice r_65 r_65n r_65c, .slice r_69 r_69n r_69c] h_68 (fun v_70 h_71 =>
∃ (r_72 : Bool), v_70 = .bool r_72 ∧ (
bcase (!r_72) (
K (.bool false) h_71) <|
C F_burinkit_Over #[.slice r_65 r_65n r_65c] h_71 (fun v_73 h_74 =>
bindI (IntKind.i64.wrap (x_40 + (1 : Int))) fun z_75 =>
∃ m_36, m_36 < n_37 ∧ J_35 m_36 [.int .i64 z_75] h_74) (Kp))) (Kp))) (Kp))) (Kp)) <|
bindI (IntKind.i64.wrap (x_40 + (1 : Int))) fun z_76 =>
∃ m_36, m_36 < n_37 ∧ J_35 m_36 [.int .i64 z_76] h_59)) (Kp)))) (Kp))))))))))) <|
K_32 [] h_38) <|
K_32 [] h_38)) ∧ ∀ (h_33 : Heap) (u_34 : Nat → Value) , K_32 [] h_33 → (
C F_arith_Coder_Flush #[.pointer r_8] h_33 (fun v_77 h_78 =>
∃ (r_79 : Option Addr) (r_79n : Nat) (r_79c : Nat), ∃ (r_80 : Int), v_77 = .tuple #[.slice r_79 r_79n r_79c, .int .i64 r_80] ∧ (
C F_burinref4_Coder_Flush #[.pointer r_31] h_78 (fun v_81 h_82 =>
∃ (r_83 : Option Addr) (r_83n : Nat) (r_83c : Nat), ∃ (r_84 : Int), v_81 = .tuple #[.slice r_83 r_83n r_83c, .int .i64 r_84] ∧ (
bcase (r_80 != r_84) (
K (.bool false) h_82) <|
C F_burinref0_Eq #[.slice r_79 r_79n r_79c, .slice r_83 r_83n r_83c] h_82 (fun v_85 h_86 =>
∃ (r_87 : Bool), v_85 = .bool r_87 ∧ (
bcase (!r_87) (
K (.bool false) h_86) <|
ptr r_8 fun a_88 =>
ptr r_31 fun a_89 =>
C F_arith_table_States #[.pointer (some (a_88.add 0))] h_86 (fun v_90 h_91 =>
∃ (r_92 : Option Addr) (r_92n : Nat) (r_92c : Nat), v_90 = .slice r_92 r_92n r_92c ∧ (
C F_burinref4_side_States #[.pointer (some (a_89.add 0))] h_91 (fun v_93 h_94 =>
∃ (r_95 : Option Addr) (r_95n : Nat) (r_95c : Nat), v_93 = .slice r_95 r_95n r_95c ∧ (
C F_burinref0_Eq #[.slice r_92 r_92n r_92c, .slice r_95 r_95n r_95c] h_94 (fun v_96 h_97 =>
∃ (r_98 : Bool), v_96 = .bool r_98 ∧ (
bcase (!r_98) (
K (.bool false) h_97) <|
C F_burinkit_Over #[.slice r_79 r_79n r_79c] h_97 (fun v_99 h_100 =>
C F_arith_Coder_Flush #[.pointer r_8] h_100 (fun v_101 h_102 =>
∃ (r_103 : Option Addr) (r_103n : Nat) (r_103c : Nat), ∃ (r_104 : Int), v_101 = .tuple #[.slice r_103 r_103n r_103c, .int .i64 r_104] ∧ (
bcase (r_104 == (43 : Int)) (
bcase ((r_103n : Int) == (0 : Int)) (
C F_arith_Coder_Put #[.pointer r_8, .int .i64 0, .int .i64 0] h_102 (fun v_105 h_106 =>
∃ (r_107 : Int), v_105 = .int .i64 r_107 ∧ (
bcase (r_107 == (43 : Int)) (
C F_burinlaw4_wakes #[] h_106 (fun v_108 h_109 =>
∃ (r_110 : Bool), v_108 = .bool r_110 ∧ (
K (.bool r_110) h_109)) (Kp)) <|
K (.bool false) h_106)) (Kp)) <|
K (.bool false) h_102) <|
K (.bool false) h_102)) (Kp)) (Kp))) (Kp))) (Kp))) (Kp))) (Kp))) (Kp))) (Kp)))) (Kp)))) (Kp))))) (Kp)

end Go.Den.Ytlmopdohgipbeaa
