/- Written by gen.py: the conditions of the functions of law4ArithBack. -/
import Derived.Test.YtlmopdohgipbeaaNums
set_option linter.unusedVariables false
set_option linter.unusedSimpArgs false
namespace Go.Den.Ytlmopdohgipbeaa
open Go Go.Den

/- burin/burinlaw4.ArithBack -/
set_option maxRecDepth 100000 in
def burinlaw4_ArithBack (C : CallP) (a0_1 : Int) (a0_2 : Option Addr) (a0_2n : Nat) (a0_2c : Nat) (h : Heap) (K : Value → Heap → Prop) (Kp : List PanicEntry → Heap → Prop) : Prop :=
newC h [.int .i64 a0_1, .slice a0_2 a0_2n a0_2c] T_burinlaw4_Script fun r_3 h_4 =>
ldI h_4 ((⟨r_3, 0, none⟩ : Addr).add 0) .i64 fun x_5 =>
C F_burinkit_Within #[.int .i64 x_5, .int .i64 40] h_4 (fun v_6 h_7 =>
∃ (r_8 : Int), v_6 = .int .i64 r_8 ∧ (
bindI (IntKind.i64.wrap ((1 : Int) + r_8)) fun z_9 =>
C F_arith_New #[.int .i64 z_9] h_7 (fun v_10 h_11 =>
∃ (r_12 : Option Addr), ∃ (r_13 : Int), v_10 = .tuple #[.pointer r_12, .int .i64 r_13] ∧ (
bcase (r_13 != (0 : Int)) (
K (.bool false) h_11) <|
bcase r_12.isNone (
K (.bool false) h_11) <|
∃ K_14 : List Value → Heap → Prop, (
∃ J_17 : Nat → List Value → Heap → Prop, (∃ n_19, J_17 n_19 [.slice none 0 0, .slice none 0 0, .int .i64 0] h_11) ∧ ∀ (n_19 : Nat) (h_20 : Heap) (u_21 : Nat → Value) (x_22 : Option Addr) (x_22n : Nat) (x_22c : Nat) (x_23 : Option Addr) (x_23n : Nat) (x_23c : Nat) (x_24 : Int), J_17 n_19 [.slice x_22 x_22n x_22c, .slice x_23 x_23n x_23c, .int .i64 x_24] h_20 → (
ldS h_20 ((⟨r_3, 0, none⟩ : Addr).add 1) fun x_25 x_25n x_25c =>
bcase (decide (x_24 < (x_25n : Int))) (
bcase (decide (x_24 < (6000 : Int))) (
ldS h_20 ((⟨r_3, 0, none⟩ : Addr).add 1) fun x_26 x_26n x_26c =>
needs (0 ≤ x_24 ∧ x_24 < (x_26n : Int)) <|
ptr x_26 fun a_27 =>
ldI h_20 ((a_27.add (x_24.toNat * 2)).add 0) .i64 fun x_28 =>
ldS h_20 ((⟨r_3, 0, none⟩ : Addr).add 1) fun x_29 x_29n x_29c =>
needs (0 ≤ x_24 ∧ x_24 < (x_29n : Int)) <|
ptr x_29 fun a_30 =>
ldI h_20 ((a_30.add (x_24.toNat * 2)).add 1) .i64 fun x_31 =>
bindI (bitI .and .i64 x_31 (1 : Int)) fun z_32 =>
newC h_20 [.int .i64 0, .int .i64 0] T_burinlaw4_Decision fun r_33 h_34 =>
stV h_34 ((⟨r_33, 0, none⟩ : Addr).add 0) (.int .i64 x_28) fun h_35 =>
stV h_35 ((⟨r_33, 0, none⟩ : Addr).add 1) (.int .i64 z_32) fun h_36 =>
ldI h_36 ((⟨r_33, 0, none⟩ : Addr).add 0) .i64 fun x_37 =>
ldI h_36 ((⟨r_33, 0, none⟩ : Addr).add 1) .i64 fun x_38 =>
C F_arith_Coder_Put #[.pointer r_12, .int .i64 x_37, .int .i64 x_38] h_36 (fun v_39 h_40 =>
∃ (r_41 : Int), v_39 = .int .i64 r_41 ∧ (
bcase (r_41 != (0 : Int)) (
K (.bool false) h_40) <|
ldI h_40 ((⟨r_33, 0, none⟩ : Addr).add 0) .i64 fun x_42 =>
ldI h_40 ((⟨r_33, 0, none⟩ : Addr).add 1) .i64 fun x_43 =>
newC h_40 [.int .i64 x_42, .int .i64 x_43] T_burinlaw4_Decision fun r_44 h_45 =>
appC h_45 T_burinlaw4_Decision 2 16 [.int .i64 0, .int .i64 0] x_23 (x_23n) (x_23c) (some ⟨r_44, 0, none⟩) (1) fun q_46 q_46n q_46c h_47 =>
bcase (decide (x_24 < (600 : Int))) (
ptr r_12 fun a_48 =>
C F_arith_table_States #[.pointer (some (a_48.add 0))] h_47 (fun v_49 h_50 =>
∃ (r_51 : Option Addr) (r_51n : Nat) (r_51c : Nat), v_49 = .slice r_51 r_51n r_51c ∧ (
newC h_50 [.slice r_51 r_51n r_51c] T_s_uint8 fun r_52 h_53 =>
appC h_53 T_s_uint8 1 24 [.slice none 0 0] x_22 (x_22n) (x_22c) (some ⟨r_52, 0, none⟩) (1) fun q_54 q_54n q_54c h_55 =>
bindI (IntKind.i64.wrap (x_24 + (1 : Int))) fun z_56 =>
∃ m_18, m_18 < n_19 ∧ J_17 m_18 [.slice q_54 q_54n q_54c, .slice q_46 q_46n q_46c, .int .i64 z_56] h_55)) (Kp)) <|
bindI (IntKind.i64.wrap (x_24 + (1 : Int))) fun z_57 =>
∃ m_18, m_18 < n_19 ∧ J_17 m_18 [.slice x_22 x_22n x_22c, .slice q_46 q_46n q_46c, .int .i64 z_57] h_47)) (Kp)) <|
K_14 [.slice x_22 x_22n x_22c, .slice x_23 x_23n x_23c] h_20) <|
K_14 [.slice x_22 x_22n x_22c, .slice x_23 x_23n x_23c] h_20)) ∧ ∀ (h_15 : Heap) (u_16 : Nat → Value) (x_58 : Option Addr) (x_58n : Nat) (x_58c : Nat) (x_59 : Option Addr) (x_59n : Nat) (x_59c : Nat), K_14 [.slice x_58 x_58n x_58c, .slice x_59 x_59n x_59c] h_15 → (
C F_arith_Coder_Flush #[.pointer r_12] h_15 (fun v_60 h_61 =>
∃ (r_62 : Option Addr) (r_62n : Nat) (r_62c : Nat), ∃ (r_63 : Int), v_60 = .tuple #[.slice r_62 r_62n r_62c, .int .i64 r_63] ∧ (
C F_arith_NewDecoder #[.slice r_62 r_62n r_62c, .int .i64 z_9] h_61 (fun v_64 h_65 =>
∃ (r_66 : Option Addr), ∃ (r_67 : Int), v_64 = .tuple #[.pointer r_66, .int .i64 r_67] ∧ (
bcase (r_63 != (0 : Int)) (
K (.bool false) h_65) <|
bcase (r_67 != (0 : Int)) (
K (.bool false) h_65) <|
bcase r_66.isNone (
K (.bool false) h_65) <|
∃ J_68 : Nat → List Value → Heap → Prop, (∃ n_70, J_68 n_70 [.int .i64 0] h_65) ∧ ∀ (n_70 : Nat) (h_71 : Heap) (u_72 : Nat → Value) (x_73 : Int), J_68 n_70 [.int .i64 x_73] h_71 → (
bcase (decide (x_73 < (r_62n : Int))) (
needs (0 ≤ x_73 ∧ x_73 < (r_62n : Int)) <|
ptr r_62 fun a_74 =>
ldI h_71 (a_74.add (x_73.toNat * 1)) .u8 fun x_75 =>
bcase (x_75 == (255 : Int)) (
bindI (IntKind.i64.wrap ((r_62n : Int) - (1 : Int))) fun z_76 =>
bcase (x_73 == z_76) (
K (.bool false) h_71) <|
bindI (IntKind.i64.wrap (x_73 + (1 : Int))) fun z_77 =>
needs (0 ≤ z_77 ∧ z_77 < (r_62n : Int)) <|
ptr r_62 fun a_78 =>
ldI h_71 (a_78.add (z_77.toNat * 1)) .u8 fun x_79 =>
bcase (decide (x_79 > (143 : Int))) (
K (.bool false) h_71) <|
bindI (IntKind.i64.wrap (x_73 + (1 : Int))) fun z_80 =>
∃ m_69, m_69 < n_70 ∧ J_68 m_69 [.int .i64 z_80] h_71) <|
bindI (IntKind.i64.wrap (x_73 + (1 : Int))) fun z_81 =>
∃ m_69, m_69 < n_70 ∧ J_68 m_69 [.int .i64 z_81] h_71) <|
∃ J_82 : Nat → List Value → Heap → Prop, (∃ n_84, J_82 n_84 [.int .i64 0] h_71) ∧ ∀ (n_84 : Nat) (h_85 : Heap) (u_86 : Nat → Value) (x_87 : Int), J_82 n_84 [.int .i64 x_87] h_85 → (
bcase (decide (x_87 < (x_59n : Int))) (
needs (0 ≤ x_87 ∧ x_87 < (x_59n : Int)) <|
ptr x_59 fun a_88 =>
ldI h_85 ((a_88.add (x_87.toNat * 2)).add 0) .i64 fun x_89 =>
C F_arith_Decoder_Get #[.pointer r_66, .int .i64 x_89] h_85 (fun v_90 h_91 =>
∃ (r_92 : Int), ∃ (r_93 : Int), v_90 = .tuple #[.int .i64 r_92, .int .i64 r_93] ∧ (
needs (0 ≤ x_87 ∧ x_87 < (x_59n : Int)) <|
ptr x_59 fun a_94 =>
ldI h_91 ((a_94.add (x_87.toNat * 2)).add 1) .i64 fun x_95 =>
bcase (r_92 != x_95) (
hext h_91 h_91 ∧ (
K (.bool false) h_91)) <|
bcase (r_93 != (0 : Int)) (
hext h_91 h_91 ∧ (
K (.bool false) h_91)) <|
bcase (decide (x_87 < (600 : Int))) (
ptr r_66 fun a_96 =>
needs (0 ≤ x_87 ∧ x_87 < (x_58n : Int)) <|
ptr x_58 fun a_97 =>
ldS h_91 (a_97.add (x_87.toNat * 1)) fun x_98 x_98n x_98c =>
C F_arith_table_States #[.pointer (some (a_96.add 0))] h_91 (fun v_99 h_100 =>
∃ (r_101 : Option Addr) (r_101n : Nat) (r_101c : Nat), v_99 = .slice r_101 r_101n r_101c ∧ (
hext h_91 h_100 ∧ (
C F_burinref0_Eq #[.slice r_101 r_101n r_101c, .slice x_98 x_98n x_98c] h_100 (fun v_102 h_103 =>
∃ (r_104 : Bool), v_102 = .bool r_104 ∧ (
bcase (!r_104) (
K (.bool false) h_103) <|
bindI (IntKind.i64.wrap (x_87 + (1 : Int))) fun z_105 =>
∃ m_83, m_83 < n_84 ∧ J_82 m_83 [.int .i64 z_105] h_103)) (Kp)))) (Kp)) <|
hext h_91 h_91 ∧ (
bindI (IntKind.i64.wrap (x_87 + (1 : Int))) fun z_106 =>
∃ m_83, m_83 < n_84 ∧ J_82 m_83 [.int .i64 z_106] h_91))) (Kp)) <|
ptr r_12 fun a_107 =>
ptr r_66 fun a_108 =>
C F_arith_table_States #[.pointer (some (a_107.add 0))] h_85 (fun v_109 h_110 =>
∃ (r_111 : Option Addr) (r_111n : Nat) (r_111c : Nat), v_109 = .slice r_111 r_111n r_111c ∧ (
C F_arith_table_States #[.pointer (some (a_108.add 0))] h_110 (fun v_112 h_113 =>
∃ (r_114 : Option Addr) (r_114n : Nat) (r_114c : Nat), v_112 = .slice r_114 r_114n r_114c ∧ (
C F_burinref0_Eq #[.slice r_111 r_111n r_111c, .slice r_114 r_114n r_114c] h_113 (fun v_115 h_116 =>
∃ (r_117 : Bool), v_115 = .bool r_117 ∧ (
bcase r_117 (
C F_burinlaw4_wakes #[] h_116 (fun v_118 h_119 =>
∃ (r_120 : Bool), v_118 = .bool r_120 ∧ (
K (.bool r_120) h_119)) (Kp)) <|
K (.bool false) h_116)) (Kp))) (Kp))) (Kp))))) (Kp))) (Kp)))) (Kp))) (Kp)

end Go.Den.Ytlmopdohgipbeaa
