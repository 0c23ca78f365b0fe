/- Written by gen.py: the conditions of the functions of law15PageStripes. -/
import Derived.Test.YtlmopdohgipbeaaNums
set_option linter.unusedVariables false
set_option linter.unusedSimpArgs false
namespace Go.Den.Ytlmopdohgipbeaa
open Go Go.Den

/- burin/burinlaw15.PageStripes -/
set_option maxRecDepth 100000 in
def burinlaw15_PageStripes (C : CallP) (a0_1 : Int) (a0_2 : Int) (a0_3 : Int) (a0_4 : Int) (a0_5 : Option Addr) (a0_5n : Nat) (a0_5c : Nat) (a0_6 : Option Addr) (a0_6n : Nat) (a0_6c : Nat) (h : Heap) (K : Value → Heap → Prop) (Kp : List PanicEntry → Heap → Prop) : Prop :=
newC h [.int .i64 a0_1, .int .i64 a0_2, .int .i64 a0_3, .int .i64 a0_4, .slice a0_5 a0_5n a0_5c, .slice a0_6 a0_6n a0_6c] T_burinlaw15_Script fun r_7 h_8 =>
∃ J_9 : Nat → List Value → Heap → Prop, (∃ n_11, J_9 n_11 [.int .i64 0] h_8) ∧ ∀ (n_11 : Nat) (h_12 : Heap) (u_13 : Nat → Value) (x_14 : Int), J_9 n_11 [.int .i64 x_14] h_12 → (
ldS h_12 ((⟨r_7, 0, none⟩ : Addr).add 4) fun x_15 x_15n x_15c =>
bcase (decide (x_14 < (x_15n : Int))) (
bcase (decide (x_14 < (4 : Int))) (
ldS h_12 ((⟨r_7, 0, none⟩ : Addr).add 4) fun x_16 x_16n x_16c =>
needs (0 ≤ x_14 ∧ x_14 < (x_16n : Int)) <|
ptr x_16 fun a_17 =>
ldI h_12 (((a_17.add (x_14.toNat * 7)).add 4).add 0) .i64 fun x_18 =>
ldI h_12 (((a_17.add (x_14.toNat * 7)).add 4).add 1) .i64 fun x_19 =>
ldS h_12 (((a_17.add (x_14.toNat * 7)).add 4).add 2) fun x_20 x_20n x_20c =>
newC h_12 [.int .i64 0, .int .i64 0, .slice none 0 0] T_api_Bitmap fun r_21 h_22 =>
stV h_22 ((⟨r_21, 0, none⟩ : Addr).add 0) (.int .i64 x_18) fun h_23 =>
stV h_23 ((⟨r_21, 0, none⟩ : Addr).add 1) (.int .i64 x_19) fun h_24 =>
stV h_24 ((⟨r_21, 0, none⟩ : Addr).add 2) (.slice x_20 x_20n x_20c) fun h_25 =>
ldI h_25 ((⟨r_21, 0, none⟩ : Addr).add 0) .i64 fun x_26 =>
ldI h_25 ((⟨r_21, 0, none⟩ : Addr).add 1) .i64 fun x_27 =>
ldS h_25 ((⟨r_21, 0, none⟩ : Addr).add 2) fun x_28 x_28n x_28c =>
C F_burinref0_May #[.agg #[.int .i64 x_26, .int .i64 x_27, .slice x_28 x_28n x_28c]] h_25 (fun v_29 h_30 =>
∃ (r_31 : Bool), v_29 = .bool r_31 ∧ (
bcase (!r_31) (
bindI (IntKind.i64.wrap (x_14 + (1 : Int))) fun z_32 =>
∃ m_10, m_10 < n_11 ∧ J_9 m_10 [.int .i64 z_32] h_30) <|
ldI h_30 ((⟨r_21, 0, none⟩ : Addr).add 0) .i64 fun x_33 =>
ldI h_30 ((⟨r_21, 0, none⟩ : Addr).add 1) .i64 fun x_34 =>
bindI (IntKind.i64.wrap (x_33 * x_34)) fun z_35 =>
bcase (decide (z_35 > (2000 : Int))) (
bindI (IntKind.i64.wrap (x_14 + (1 : Int))) fun z_36 =>
∃ m_10, m_10 < n_11 ∧ J_9 m_10 [.int .i64 z_36] h_30) <|
ldI h_30 ((⟨r_21, 0, none⟩ : Addr).add 1) .i64 fun x_37 =>
bcase (decide (x_37 > (60 : Int))) (
bindI (IntKind.i64.wrap (x_14 + (1 : Int))) fun z_38 =>
∃ m_10, m_10 < n_11 ∧ J_9 m_10 [.int .i64 z_38] h_30) <|
ldS h_30 ((⟨r_7, 0, none⟩ : Addr).add 4) fun x_39 x_39n x_39c =>
needs (0 ≤ x_14 ∧ x_14 < (x_39n : Int)) <|
ptr x_39 fun a_40 =>
ldI h_30 ((a_40.add (x_14.toNat * 7)).add 2) .i64 fun x_41 =>
ldI h_30 ((⟨r_21, 0, none⟩ : Addr).add 1) .i64 fun x_42 =>
C F_burinkit_Within #[.int .i64 x_41, .int .i64 x_42] h_30 (fun v_43 h_44 =>
∃ (r_45 : Int), v_43 = .int .i64 r_45 ∧ (
bindI (IntKind.i64.wrap ((1 : Int) + r_45)) fun z_46 =>
ldI h_44 ((⟨r_21, 0, none⟩ : Addr).add 0) .i64 fun x_47 =>
ldI h_44 ((⟨r_21, 0, none⟩ : Addr).add 1) .i64 fun x_48 =>
C F_page_New #[.agg #[.int .i64 x_47, .int .i64 x_48, .int .i64 1, .int .i64 z_46]] h_44 (fun v_49 h_50 =>
∃ (r_51 : Option Addr), ∃ (r_52 : Int), v_49 = .tuple #[.pointer r_51, .int .i64 r_52] ∧ (
bcase (r_52 != (0 : Int)) (
K (.bool false) h_50) <|
bcase r_51.isNone (
K (.bool false) h_50) <|
∃ J_53 : Nat → List Value → Heap → Prop, (∃ n_55, J_53 n_55 [.int .i64 0] h_50) ∧ ∀ (n_55 : Nat) (h_56 : Heap) (u_57 : Nat → Value) (x_58 : Int), J_53 n_55 [.int .i64 x_58] h_56 → (
ldI h_56 ((⟨r_21, 0, none⟩ : Addr).add 1) .i64 fun x_59 =>
bcase (decide (x_58 < x_59)) (
∃ K_60 : List Value → Heap → Prop, (
ldI h_56 ((⟨r_21, 0, none⟩ : Addr).add 1) .i64 fun x_63 =>
bindI (IntKind.i64.wrap (x_63 - x_58)) fun z_64 =>
bcase (decide (z_46 > z_64)) (
ldI h_56 ((⟨r_21, 0, none⟩ : Addr).add 1) .i64 fun x_65 =>
bindI (IntKind.i64.wrap (x_65 - x_58)) fun z_66 =>
K_60 [.int .i64 z_66] h_56) <|
K_60 [.int .i64 z_46] h_56) ∧ ∀ (h_61 : Heap) (u_62 : Nat → Value) (x_67 : Int), K_60 [.int .i64 x_67] h_61 → (
ldI h_61 ((⟨r_21, 0, none⟩ : Addr).add 0) .i64 fun x_68 =>
C F_burinref0_White #[.int .i64 x_68, .int .i64 x_67] h_61 (fun v_69 h_70 =>
∃ (r_71 : Int) (r_72 : Int) (r_73 : Option Addr) (r_73n : Nat) (r_73c : Nat), v_69 = .agg #[.int .i64 r_71, .int .i64 r_72, .slice r_73 r_73n r_73c] ∧ (
newC h_70 [.int .i64 0, .int .i64 0, .slice none 0 0] T_api_Bitmap fun r_74 h_75 =>
stV h_75 ((⟨r_74, 0, none⟩ : Addr).add 0) (.int .i64 r_71) fun h_76 =>
stV h_76 ((⟨r_74, 0, none⟩ : Addr).add 1) (.int .i64 r_72) fun h_77 =>
stV h_77 ((⟨r_74, 0, none⟩ : Addr).add 2) (.slice r_73 r_73n r_73c) fun h_78 =>
ldI h_78 ((⟨r_74, 0, none⟩ : Addr).add 0) .i64 fun x_79 =>
ldI h_78 ((⟨r_74, 0, none⟩ : Addr).add 1) .i64 fun x_80 =>
ldS h_78 ((⟨r_74, 0, none⟩ : Addr).add 2) fun x_81 x_81n x_81c =>
bindI (IntKind.i64.wrap (0 - x_58)) fun z_82 =>
ldI h_78 ((⟨r_21, 0, none⟩ : Addr).add 0) .i64 fun x_83 =>
ldI h_78 ((⟨r_21, 0, none⟩ : Addr).add 1) .i64 fun x_84 =>
ldS h_78 ((⟨r_21, 0, none⟩ : Addr).add 2) fun x_85 x_85n x_85c =>
C F_burinref0_Lay #[.agg #[.int .i64 x_79, .int .i64 x_80, .slice x_81 x_81n x_81c], .int .i64 0, .int .i64 z_82, .int .i64 4, .agg #[.int .i64 x_83, .int .i64 x_84, .slice x_85 x_85n x_85c]] h_78 (fun v_86 h_87 =>
∃ K_88 : List Value → Heap → Prop, (
bcase (decide (x_58 > (0 : Int))) (
bindI (IntKind.i64.wrap (x_58 - (1 : Int))) fun z_91 =>
ldI h_87 ((⟨r_21, 0, none⟩ : Addr).add 0) .i64 fun x_92 =>
C F_burinref0_White #[.int .i64 x_92, .int .i64 1] h_87 (fun v_93 h_94 =>
∃ (r_95 : Int) (r_96 : Int) (r_97 : Option Addr) (r_97n : Nat) (r_97c : Nat), v_93 = .agg #[.int .i64 r_95, .int .i64 r_96, .slice r_97 r_97n r_97c] ∧ (
C F_page_Page_Add #[.pointer r_51, .int .i64 0, .int .i64 z_91, .int .i64 4, .agg #[.int .i64 r_95, .int .i64 r_96, .slice r_97 r_97n r_97c]] h_94 (fun v_98 h_99 =>
∃ (r_100 : Int), v_98 = .int .i64 r_100 ∧ (
bcase (r_100 != (151 : Int)) (
K (.bool false) h_99) <|
bindI (IntKind.i64.wrap (z_46 + (1 : Int))) fun z_101 =>
C F_burinref0_White #[.int .i64 1, .int .i64 z_101] h_99 (fun v_102 h_103 =>
∃ (r_104 : Int) (r_105 : Int) (r_106 : Option Addr) (r_106n : Nat) (r_106c : Nat), v_102 = .agg #[.int .i64 r_104, .int .i64 r_105, .slice r_106 r_106n r_106c] ∧ (
C F_page_Page_Add #[.pointer r_51, .int .i64 0, .int .i64 x_58, .int .i64 2, .agg #[.int .i64 r_104, .int .i64 r_105, .slice r_106 r_106n r_106c]] h_103 (fun v_107 h_108 =>
∃ (r_109 : Int), v_107 = .int .i64 r_109 ∧ (
bcase (r_109 != (151 : Int)) (
bcase (decide (z_46 < (1048576 : Int))) (
K (.bool false) h_108) <|
K_88 [] h_108) <|
K_88 [] h_108)) (Kp))) (Kp))) (Kp))) (Kp)) <|
bindI (IntKind.i64.wrap (z_46 + (1 : Int))) fun z_110 =>
C F_burinref0_White #[.int .i64 1, .int .i64 z_110] h_87 (fun v_111 h_112 =>
∃ (r_113 : Int) (r_114 : Int) (r_115 : Option Addr) (r_115n : Nat) (r_115c : Nat), v_111 = .agg #[.int .i64 r_113, .int .i64 r_114, .slice r_115 r_115n r_115c] ∧ (
C F_page_Page_Add #[.pointer r_51, .int .i64 0, .int .i64 x_58, .int .i64 2, .agg #[.int .i64 r_113, .int .i64 r_114, .slice r_115 r_115n r_115c]] h_112 (fun v_116 h_117 =>
∃ (r_118 : Int), v_116 = .int .i64 r_118 ∧ (
bcase (r_118 != (151 : Int)) (
bcase (decide (z_46 < (1048576 : Int))) (
K (.bool false) h_117) <|
K_88 [] h_117) <|
K_88 [] h_117)) (Kp))) (Kp)) ∧ ∀ (h_89 : Heap) (u_90 : Nat → Value) , K_88 [] h_89 → (
C F_page_Page_End #[.pointer r_51] h_89 (fun v_119 h_120 =>
∃ (r_121 : Int) (r_122 : Int) (r_123 : Option Addr) (r_123n : Nat) (r_123c : Nat), ∃ (r_124 : Int), v_119 = .tuple #[.agg #[.int .i64 r_121, .int .i64 r_122, .slice r_123 r_123n r_123c], .int .i64 r_124] ∧ (
newC h_120 [.int .i64 0, .int .i64 0, .slice none 0 0] T_api_Bitmap fun r_125 h_126 =>
stV h_126 ((⟨r_125, 0, none⟩ : Addr).add 0) (.int .i64 r_121) fun h_127 =>
stV h_127 ((⟨r_125, 0, none⟩ : Addr).add 1) (.int .i64 r_122) fun h_128 =>
stV h_128 ((⟨r_125, 0, none⟩ : Addr).add 2) (.slice r_123 r_123n r_123c) fun h_129 =>
bcase (r_124 != (151 : Int)) (
K (.bool false) h_129) <|
C F_page_Page_Next #[.pointer r_51] h_129 (fun v_130 h_131 =>
∃ (r_132 : Int), v_130 = .int .i64 r_132 ∧ (
bcase (r_132 != x_58) (
K (.bool false) h_131) <|
ldI h_131 ((⟨r_74, 0, none⟩ : Addr).add 0) .i64 fun x_133 =>
ldI h_131 ((⟨r_74, 0, none⟩ : Addr).add 1) .i64 fun x_134 =>
ldS h_131 ((⟨r_74, 0, none⟩ : Addr).add 2) fun x_135 x_135n x_135c =>
C F_page_Page_Add #[.pointer r_51, .int .i64 0, .int .i64 x_58, .int .i64 4, .agg #[.int .i64 x_133, .int .i64 x_134, .slice x_135 x_135n x_135c]] h_131 (fun v_136 h_137 =>
∃ (r_138 : Int), v_136 = .int .i64 r_138 ∧ (
bcase (r_138 != (0 : Int)) (
K (.bool false) h_137) <|
bindI (IntKind.i64.wrap (x_58 + x_67)) fun z_139 =>
C F_page_Page_Stripe #[.pointer r_51, .int .i64 z_139] h_137 (fun v_140 h_141 =>
∃ (r_142 : Int), v_140 = .int .i64 r_142 ∧ (
bcase (r_142 != (151 : Int)) (
K (.bool false) h_141) <|
bindI (IntKind.i64.wrap (x_58 + x_67)) fun z_143 =>
bindI (IntKind.i64.wrap (z_143 - (1 : Int))) fun z_144 =>
C F_page_Page_Stripe #[.pointer r_51, .int .i64 z_144] h_141 (fun v_145 h_146 =>
∃ (r_147 : Int), v_145 = .int .i64 r_147 ∧ (
bcase (r_147 != (0 : Int)) (
K (.bool false) h_146) <|
bindI (IntKind.i64.wrap (x_58 + z_46)) fun z_148 =>
∃ m_54, m_54 < n_55 ∧ J_53 m_54 [.int .i64 z_148] h_146)) (Kp))) (Kp))) (Kp))) (Kp))) (Kp))) (Kp))) (Kp))) <|
C F_page_Page_End #[.pointer r_51] h_56 (fun v_149 h_150 =>
∃ (r_151 : Int) (r_152 : Int) (r_153 : Option Addr) (r_153n : Nat) (r_153c : Nat), ∃ (r_154 : Int), v_149 = .tuple #[.agg #[.int .i64 r_151, .int .i64 r_152, .slice r_153 r_153n r_153c], .int .i64 r_154] ∧ (
newC h_150 [.int .i64 0, .int .i64 0, .slice none 0 0] T_api_Bitmap fun r_155 h_156 =>
stV h_156 ((⟨r_155, 0, none⟩ : Addr).add 0) (.int .i64 r_151) fun h_157 =>
stV h_157 ((⟨r_155, 0, none⟩ : Addr).add 1) (.int .i64 r_152) fun h_158 =>
stV h_158 ((⟨r_155, 0, none⟩ : Addr).add 2) (.slice r_153 r_153n r_153c) fun h_159 =>
bcase (r_154 != (0 : Int)) (
K (.bool false) h_159) <|
ldI h_159 ((⟨r_155, 0, none⟩ : Addr).add 0) .i64 fun x_160 =>
ldI h_159 ((⟨r_155, 0, none⟩ : Addr).add 1) .i64 fun x_161 =>
ldS h_159 ((⟨r_155, 0, none⟩ : Addr).add 2) fun x_162 x_162n x_162c =>
ldI h_159 ((⟨r_21, 0, none⟩ : Addr).add 0) .i64 fun x_163 =>
ldI h_159 ((⟨r_21, 0, none⟩ : Addr).add 1) .i64 fun x_164 =>
ldS h_159 ((⟨r_21, 0, none⟩ : Addr).add 2) fun x_165 x_165n x_165c =>
C F_burinref0_EqBitmap #[.agg #[.int .i64 x_160, .int .i64 x_161, .slice x_162 x_162n x_162c], .agg #[.int .i64 x_163, .int .i64 x_164, .slice x_165 x_165n x_165c]] h_159 (fun v_166 h_167 =>
∃ (r_168 : Bool), v_166 = .bool r_168 ∧ (
bcase (!r_168) (
K (.bool false) h_167) <|
ldI h_167 ((⟨r_21, 0, none⟩ : Addr).add 1) .i64 fun x_169 =>
C F_page_Page_Stripe #[.pointer r_51, .int .i64 x_169] h_167 (fun v_170 h_171 =>
∃ (r_172 : Int), v_170 = .int .i64 r_172 ∧ (
bcase (r_172 != (151 : Int)) (
K (.bool false) h_171) <|
bindI (IntKind.i64.wrap (x_14 + (1 : Int))) fun z_173 =>
∃ m_10, m_10 < n_11 ∧ J_9 m_10 [.int .i64 z_173] h_171)) (Kp))) (Kp))) (Kp)))) (Kp))) (Kp))) (Kp)) <|
C F_burinlaw15_wakes #[] h_12 (fun v_174 h_175 =>
∃ (r_176 : Bool), v_174 = .bool r_176 ∧ (
K (.bool r_176) h_175)) (Kp)) <|
C F_burinlaw15_wakes #[] h_12 (fun v_177 h_178 =>
∃ (r_179 : Bool), v_177 = .bool r_179 ∧ (
K (.bool r_179) h_178)) (Kp))

end Go.Den.Ytlmopdohgipbeaa
