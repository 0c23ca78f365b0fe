/- Written by gen.py: the conditions of the functions of law4ArithApart. -/
import Derived.Test.YtlmopdohgipbeaaNums
set_option linter.unusedVariables false
set_option linter.unusedSimpArgs false
namespace Go.Den.Ytlmopdohgipbeaa
open Go Go.Den

/- burin/burinlaw4.ArithApart -/
set_option maxRecDepth 100000 in
def burinlaw4_ArithApart (C : CallP) (a0_1 : Int) (a0_2 : Option Addr) (a0_2n : Nat) (a0_2c : Nat) (h : Heap) (K : Value → Heap → Prop) (Kp : List PanicEntry → Heap → Prop) : Prop :=
newC h [.int .i64 a0_1, .slice a0_2 a0_2n a0_2c] T_burinlaw4_Script fun r_3 h_4 =>
ldI h_4 ((⟨r_3, 0, none⟩ : Addr).add 0) .i64 fun x_5 =>
C F_burinkit_Within #[.int .i64 x_5, .int .i64 20] h_4 (fun v_6 h_7 =>
∃ (r_8 : Int), v_6 = .int .i64 r_8 ∧ (
bindI (IntKind.i64.wrap ((1 : Int) + r_8)) fun z_9 =>
C F_arith_New #[.int .i64 z_9] h_7 (fun v_10 h_11 =>
∃ (r_12 : Option Addr), ∃ (r_13 : Int), v_10 = .tuple #[.pointer r_12, .int .i64 r_13] ∧ (
bindI (IntKind.i64.wrap (z_9 + (3 : Int))) fun z_14 =>
C F_arith_New #[.int .i64 z_14] h_11 (fun v_15 h_16 =>
∃ (r_17 : Option Addr), ∃ (r_18 : Int), v_15 = .tuple #[.pointer r_17, .int .i64 r_18] ∧ (
C F_arith_New #[.int .i64 z_9] h_16 (fun v_19 h_20 =>
∃ (r_21 : Option Addr), ∃ (r_22 : Int), v_19 = .tuple #[.pointer r_21, .int .i64 r_22] ∧ (
bcase (r_13 != (0 : Int)) (
K (.bool false) h_20) <|
bcase (r_18 != (0 : Int)) (
K (.bool false) h_20) <|
bcase (r_22 != (0 : Int)) (
K (.bool false) h_20) <|
bcase r_12.isNone (
K (.bool false) h_20) <|
bcase r_17.isNone (
K (.bool false) h_20) <|
bcase r_21.isNone (
K (.bool false) h_20) <|
∃ K_23 : List Value → Heap → Prop, (
∃ J_26 : Nat → List Value → Heap → Prop, (∃ n_28, J_26 n_28 [.int .i64 0] h_20) ∧ ∀ (n_28 : Nat) (h_29 : Heap) (u_30 : Nat → Value) (x_31 : Int), J_26 n_28 [.int .i64 x_31] h_29 → (
ldS h_29 ((⟨r_3, 0, none⟩ : Addr).add 1) fun x_32 x_32n x_32c =>
bcase (decide (x_31 < (x_32n : Int))) (
bcase (decide (x_31 < (2000 : Int))) (
ldS h_29 ((⟨r_3, 0, none⟩ : Addr).add 1) fun x_33 x_33n x_33c =>
needs (0 ≤ x_31 ∧ x_31 < (x_33n : Int)) <|
ptr x_33 fun a_34 =>
ldI h_29 ((a_34.add (x_31.toNat * 2)).add 0) .i64 fun x_35 =>
C F_burinkit_Within #[.int .i64 x_35, .int .i64 z_9] h_29 (fun v_36 h_37 =>
∃ (r_38 : Int), v_36 = .int .i64 r_38 ∧ (
ldS h_37 ((⟨r_3, 0, none⟩ : Addr).add 1) fun x_39 x_39n x_39c =>
needs (0 ≤ x_31 ∧ x_31 < (x_39n : Int)) <|
ptr x_39 fun a_40 =>
ldI h_37 ((a_40.add (x_31.toNat * 2)).add 1) .i64 fun x_41 =>
bindI (bitI .and .i64 x_41 (1 : Int)) fun z_42 =>
C F_arith_Coder_Put #[.pointer r_12, .int .i64 r_38, .int .i64 z_42] h_37 (fun v_43 h_44 =>
∃ (r_45 : Int), v_43 = .int .i64 r_45 ∧ (
bcase (r_45 != (0 : Int)) (
K (.bool false) h_44) <|
bindI (IntKind.i64.wrap ((1 : Int) - z_42)) fun z_46 =>
C F_arith_Coder_Put #[.pointer r_17, .int .i64 r_38, .int .i64 z_46] h_44 (fun v_47 h_48 =>
∃ (r_49 : Int), v_47 = .int .i64 r_49 ∧ (
bcase (r_49 != (0 : Int)) (
K (.bool false) h_48) <|
ptr r_12 fun a_50 =>
C F_arith_table_States #[.pointer (some (a_50.add 0))] h_48 (fun v_51 h_52 =>
∃ (r_53 : Option Addr) (r_53n : Nat) (r_53c : Nat), v_51 = .slice r_53 r_53n r_53c ∧ (
bcase ((r_53n : Int) != z_9) (
K (.bool false) h_52) <|
ptr r_17 fun a_54 =>
C F_arith_table_States #[.pointer (some (a_54.add 0))] h_52 (fun v_55 h_56 =>
∃ (r_57 : Option Addr) (r_57n : Nat) (r_57c : Nat), v_55 = .slice r_57 r_57n r_57c ∧ (
bindI (IntKind.i64.wrap (z_9 + (3 : Int))) fun z_58 =>
bcase ((r_57n : Int) != z_58) (
K (.bool false) h_56) <|
bindI (IntKind.i64.wrap (x_31 + (1 : Int))) fun z_59 =>
∃ m_27, m_27 < n_28 ∧ J_26 m_27 [.int .i64 z_59] h_56)) (Kp))) (Kp))) (Kp))) (Kp))) (Kp)) <|
K_23 [] h_29) <|
K_23 [] h_29)) ∧ ∀ (h_24 : Heap) (u_25 : Nat → Value) , K_23 [] h_24 → (
∃ K_60 : List Value → Heap → Prop, (
∃ J_63 : Nat → List Value → Heap → Prop, (∃ n_65, J_63 n_65 [.int .i64 0] h_24) ∧ ∀ (n_65 : Nat) (h_66 : Heap) (u_67 : Nat → Value) (x_68 : Int), J_63 n_65 [.int .i64 x_68] h_66 → (
ldS h_66 ((⟨r_3, 0, none⟩ : Addr).add 1) fun x_69 x_69n x_69c =>
bcase (decide (x_68 < (x_69n : Int))) (
bcase (decide (x_68 < (2000 : Int))) (
ldS h_66 ((⟨r_3, 0, none⟩ : Addr).add 1) fun x_70 x_70n x_70c =>
needs (0 ≤ x_68 ∧ x_68 < (x_70n : Int)) <|
ptr x_70 fun a_71 =>
ldI h_66 ((a_71.add (x_68.toNat * 2)).add 0) .i64 fun x_72 =>
ldS h_66 ((⟨r_3, 0, none⟩ : Addr).add 1) fun x_73 x_73n x_73c =>
needs (0 ≤ x_68 ∧ x_68 < (x_73n : Int)) <|
ptr x_73 fun a_74 =>
ldI h_66 ((a_74.add (x_68.toNat * 2)).add 1) .i64 fun x_75 =>
bindI (bitI .and .i64 x_75 (1 : Int)) fun z_76 =>
C F_burinkit_Within #[.int .i64 x_72, .int .i64 z_9] h_66 (fun v_77 h_78 =>
∃ (r_79 : Int), v_77 = .int .i64 r_79 ∧ (
hext h_66 h_78 ∧ (
C F_arith_Coder_Put #[.pointer r_21, .int .i64 r_79, .int .i64 z_76] h_78 (fun v_80 h_81 =>
∃ (r_82 : Int), v_80 = .int .i64 r_82 ∧ (
bindI (IntKind.i64.wrap (x_68 + (1 : Int))) fun z_83 =>
∃ m_64, m_64 < n_65 ∧ J_63 m_64 [.int .i64 z_83] h_81)) (Kp)))) (Kp)) <|
K_60 [] h_66) <|
K_60 [] h_66)) ∧ ∀ (h_61 : Heap) (u_62 : Nat → Value) , K_60 [] h_61 → (
C F_arith_Coder_Flush #[.pointer r_12] h_61 (fun v_84 h_85 =>
∃ (r_86 : Option Addr) (r_86n : Nat) (r_86c : Nat), ∃ (r_87 : Int), v_84 = .tuple #[.slice r_86 r_86n r_86c, .int .i64 r_87] ∧ (
C F_arith_Coder_Flush #[.pointer r_21] h_85 (fun v_88 h_89 =>
∃ (r_90 : Option Addr) (r_90n : Nat) (r_90c : Nat), ∃ (r_91 : Int), v_88 = .tuple #[.slice r_90 r_90n r_90c, .int .i64 r_91] ∧ (
bcase (r_87 == (0 : Int)) (
bcase (r_91 == (0 : Int)) (
C F_burinref0_Eq #[.slice r_86 r_86n r_86c, .slice r_90 r_90n r_90c] h_89 (fun v_92 h_93 =>
∃ (r_94 : Bool), v_92 = .bool r_94 ∧ (
bcase r_94 (
ptr r_17 fun a_95 =>
C F_arith_table_Contexts #[.pointer (some (a_95.add 0))] h_93 (fun v_96 h_97 =>
∃ (r_98 : Int), v_96 = .int .i64 r_98 ∧ (
bindI (IntKind.i64.wrap (z_9 + (3 : Int))) fun z_99 =>
bcase (r_98 == z_99) (
C F_burinlaw4_wakes #[] h_97 (fun v_100 h_101 =>
∃ (r_102 : Bool), v_100 = .bool r_102 ∧ (
K (.bool r_102) h_101)) (Kp)) <|
K (.bool false) h_97)) (Kp)) <|
K (.bool false) h_93)) (Kp)) <|
K (.bool false) h_89) <|
K (.bool false) h_89)) (Kp))) (Kp))))) (Kp))) (Kp))) (Kp))) (Kp)

end Go.Den.Ytlmopdohgipbeaa
