/- Written by gen.py: the conditions of the functions of law15PageLaid. -/
import Derived.Test.YtlmopdohgipbeaaNums
set_option linter.unusedVariables false
set_option linter.unusedSimpArgs false
namespace Go.Den.Ytlmopdohgipbeaa
open Go Go.Den

/- burin/burinlaw15.PageLaid -/
set_option maxRecDepth 100000 in
def burinlaw15_PageLaid (C : CallP) (a0_1 : Int) (a0_2 : Int) (a0_3 : Int) (a0_4 : Int) (a0_5 : Option Addr) (a0_5n : Nat) (a0_5c : Nat) (a0_6 : Option Addr) (a0_6n : Nat) (a0_6c : Nat) (h : Heap) (K : Value → Heap → Prop) (Kp : List PanicEntry → Heap → Prop) : Prop :=
newC h [.int .i64 a0_1, .int .i64 a0_2, .int .i64 a0_3, .int .i64 a0_4, .slice a0_5 a0_5n a0_5c, .slice a0_6 a0_6n a0_6c] T_burinlaw15_Script fun r_7 h_8 =>
ldI h_8 (((⟨r_7, 0, none⟩ : Addr).add 0).add 0) .i64 fun x_9 =>
ldI h_8 (((⟨r_7, 0, none⟩ : Addr).add 0).add 1) .i64 fun x_10 =>
C F_burinref0_Size #[.int .i64 x_9, .int .i64 x_10] h_8 (fun v_11 h_12 =>
∃ (r_13 : Bool), v_11 = .bool r_13 ∧ (
bcase (!r_13) (
C F_burinlaw15_wakes #[] h_12 (fun v_14 h_15 =>
∃ (r_16 : Bool), v_14 = .bool r_16 ∧ (
K (.bool r_16) h_15)) (Kp)) <|
ldI h_12 (((⟨r_7, 0, none⟩ : Addr).add 0).add 0) .i64 fun x_17 =>
bindI (IntKind.i64.wrap (x_17 + (64 : Int))) fun z_18 =>
ldI h_12 (((⟨r_7, 0, none⟩ : Addr).add 0).add 1) .i64 fun x_19 =>
bindI (IntKind.i64.wrap (z_18 * x_19)) fun z_20 =>
bcase (decide (z_20 > (24000 : Int))) (
C F_burinlaw15_wakes #[] h_12 (fun v_21 h_22 =>
∃ (r_23 : Bool), v_21 = .bool r_23 ∧ (
K (.bool r_23) h_22)) (Kp)) <|
ldI h_12 (((⟨r_7, 0, none⟩ : Addr).add 0).add 0) .i64 fun x_24 =>
ldI h_12 (((⟨r_7, 0, none⟩ : Addr).add 0).add 1) .i64 fun x_25 =>
C F_page_New #[.agg #[.int .i64 x_24, .int .i64 x_25, .int .i64 0, .int .i64 0]] h_12 (fun v_26 h_27 =>
∃ (r_28 : Option Addr), ∃ (r_29 : Int), v_26 = .tuple #[.pointer r_28, .int .i64 r_29] ∧ (
ldI h_27 (((⟨r_7, 0, none⟩ : Addr).add 0).add 0) .i64 fun x_30 =>
ldI h_27 (((⟨r_7, 0, none⟩ : Addr).add 0).add 1) .i64 fun x_31 =>
C F_page_New #[.agg #[.int .i64 x_30, .int .i64 x_31, .int .i64 0, .int .i64 0]] h_27 (fun v_32 h_33 =>
∃ (r_34 : Option Addr), ∃ (r_35 : Int), v_32 = .tuple #[.pointer r_34, .int .i64 r_35] ∧ (
bcase (r_29 != (0 : Int)) (
K (.bool false) h_33) <|
bcase (r_35 != (0 : Int)) (
K (.bool false) h_33) <|
bcase r_28.isNone (
K (.bool false) h_33) <|
bcase r_34.isNone (
K (.bool false) h_33) <|
∃ K_36 : List Value → Heap → Prop, (
∃ J_39 : Nat → List Value → Heap → Prop, (∃ n_41, J_39 n_41 [.int .i64 0] h_33) ∧ ∀ (n_41 : Nat) (h_42 : Heap) (u_43 : Nat → Value) (x_44 : Int), J_39 n_41 [.int .i64 x_44] h_42 → (
ldS h_42 ((⟨r_7, 0, none⟩ : Addr).add 4) fun x_45 x_45n x_45c =>
bcase (decide (x_44 < (x_45n : Int))) (
bcase (decide (x_44 < (6 : Int))) (
ldS h_42 ((⟨r_7, 0, none⟩ : Addr).add 4) fun x_46 x_46n x_46c =>
needs (0 ≤ x_44 ∧ x_44 < (x_46n : Int)) <|
ptr x_46 fun a_47 =>
ldI h_42 ((a_47.add (x_44.toNat * 7)).add 0) .i64 fun x_48 =>
ldI h_42 ((a_47.add (x_44.toNat * 7)).add 1) .i64 fun x_49 =>
ldI h_42 ((a_47.add (x_44.toNat * 7)).add 2) .i64 fun x_50 =>
ldI h_42 ((a_47.add (x_44.toNat * 7)).add 3) .i64 fun x_51 =>
ldI h_42 ((a_47.add (x_44.toNat * 7)).add 4) .i64 fun x_52 =>
ldI h_42 ((a_47.add (x_44.toNat * 7)).add 5) .i64 fun x_53 =>
ldS h_42 ((a_47.add (x_44.toNat * 7)).add 6) fun x_54 x_54n x_54c =>
newC h_42 [.int .i64 0, .int .i64 0, .int .i64 0, .int .i64 0, .int .i64 0, .int .i64 0, .slice none 0 0] T_burinlaw15_Op fun r_55 h_56 =>
stV h_56 ((⟨r_55, 0, none⟩ : Addr).add 0) (.int .i64 x_48) fun h_57 =>
stV h_57 ((⟨r_55, 0, none⟩ : Addr).add 1) (.int .i64 x_49) fun h_58 =>
stV h_58 ((⟨r_55, 0, none⟩ : Addr).add 2) (.int .i64 x_50) fun h_59 =>
stV h_59 ((⟨r_55, 0, none⟩ : Addr).add 3) (.int .i64 x_51) fun h_60 =>
stV h_60 ((⟨r_55, 0, none⟩ : Addr).add 4) (.int .i64 x_52) fun h_61 =>
stV h_61 ((⟨r_55, 0, none⟩ : Addr).add 5) (.int .i64 x_53) fun h_62 =>
stV h_62 ((⟨r_55, 0, none⟩ : Addr).add 6) (.slice x_54 x_54n x_54c) fun h_63 =>
ldI h_63 ((⟨r_55, 0, none⟩ : Addr).add 1) .i64 fun x_64 =>
C F_burinkit_Within #[.int .i64 x_64, .int .i64 50] h_63 (fun v_65 h_66 =>
∃ (r_67 : Int), v_65 = .int .i64 r_67 ∧ (
bindI (IntKind.i64.wrap (r_67 - (10 : Int))) fun z_68 =>
ldI h_66 ((⟨r_55, 0, none⟩ : Addr).add 2) .i64 fun x_69 =>
C F_burinkit_Within #[.int .i64 x_69, .int .i64 50] h_66 (fun v_70 h_71 =>
∃ (r_72 : Int), v_70 = .int .i64 r_72 ∧ (
ldI h_71 (((⟨r_55, 0, none⟩ : Addr).add 4).add 0) .i64 fun x_73 =>
ldI h_71 (((⟨r_55, 0, none⟩ : Addr).add 4).add 1) .i64 fun x_74 =>
ldS h_71 (((⟨r_55, 0, none⟩ : Addr).add 4).add 2) fun x_75 x_75n x_75c =>
C F_burinref0_May #[.agg #[.int .i64 x_73, .int .i64 x_74, .slice x_75 x_75n x_75c]] h_71 (fun v_76 h_77 =>
∃ (r_78 : Bool), v_76 = .bool r_78 ∧ (
bcase (!r_78) (
bindI (IntKind.i64.wrap (x_44 + (1 : Int))) fun z_79 =>
∃ m_40, m_40 < n_41 ∧ J_39 m_40 [.int .i64 z_79] h_77) <|
ldI h_77 (((⟨r_55, 0, none⟩ : Addr).add 4).add 0) .i64 fun x_80 =>
ldI h_77 (((⟨r_55, 0, none⟩ : Addr).add 4).add 1) .i64 fun x_81 =>
bindI (IntKind.i64.wrap (x_80 * x_81)) fun z_82 =>
bcase (decide (z_82 > (600 : Int))) (
bindI (IntKind.i64.wrap (x_44 + (1 : Int))) fun z_83 =>
∃ m_40, m_40 < n_41 ∧ J_39 m_40 [.int .i64 z_83] h_77) <|
ldI h_77 (((⟨r_55, 0, none⟩ : Addr).add 4).add 1) .i64 fun x_84 =>
bcase (decide (x_84 > (60 : Int))) (
bindI (IntKind.i64.wrap (x_44 + (1 : Int))) fun z_85 =>
∃ m_40, m_40 < n_41 ∧ J_39 m_40 [.int .i64 z_85] h_77) <|
ldI h_77 (((⟨r_55, 0, none⟩ : Addr).add 4).add 0) .i64 fun x_86 =>
ldI h_77 (((⟨r_55, 0, none⟩ : Addr).add 4).add 1) .i64 fun x_87 =>
ldS h_77 (((⟨r_55, 0, none⟩ : Addr).add 4).add 2) fun x_88 x_88n x_88c =>
C F_page_Page_Add #[.pointer r_28, .int .i64 z_68, .int .i64 r_72, .int .i64 0, .agg #[.int .i64 x_86, .int .i64 x_87, .slice x_88 x_88n x_88c]] h_77 (fun v_89 h_90 =>
∃ (r_91 : Int), v_89 = .int .i64 r_91 ∧ (
bcase (r_91 != (0 : Int)) (
K (.bool false) h_90) <|
∃ J_92 : Nat → List Value → Heap → Prop, (∃ n_94, J_92 n_94 [.int .i64 0] h_90) ∧ ∀ (n_94 : Nat) (h_95 : Heap) (u_96 : Nat → Value) (x_97 : Int), J_92 n_94 [.int .i64 x_97] h_95 → (
ldI h_95 (((⟨r_55, 0, none⟩ : Addr).add 4).add 1) .i64 fun x_98 =>
bcase (decide (x_97 < x_98)) (
ldI h_95 (((⟨r_55, 0, none⟩ : Addr).add 4).add 0) .i64 fun x_99 =>
C F_burinref0_White #[.int .i64 x_99, .int .i64 1] h_95 (fun v_100 h_101 =>
∃ (r_102 : Int) (r_103 : Int) (r_104 : Option Addr) (r_104n : Nat) (r_104c : Nat), v_100 = .agg #[.int .i64 r_102, .int .i64 r_103, .slice r_104 r_104n r_104c] ∧ (
newC h_101 [.int .i64 0, .int .i64 0, .slice none 0 0] T_api_Bitmap fun r_105 h_106 =>
stV h_106 ((⟨r_105, 0, none⟩ : Addr).add 0) (.int .i64 r_102) fun h_107 =>
stV h_107 ((⟨r_105, 0, none⟩ : Addr).add 1) (.int .i64 r_103) fun h_108 =>
stV h_108 ((⟨r_105, 0, none⟩ : Addr).add 2) (.slice r_104 r_104n r_104c) fun h_109 =>
ldI h_109 ((⟨r_105, 0, none⟩ : Addr).add 0) .i64 fun x_110 =>
ldI h_109 ((⟨r_105, 0, none⟩ : Addr).add 1) .i64 fun x_111 =>
ldS h_109 ((⟨r_105, 0, none⟩ : Addr).add 2) fun x_112 x_112n x_112c =>
bindI (IntKind.i64.wrap (0 - x_97)) fun z_113 =>
ldI h_109 (((⟨r_55, 0, none⟩ : Addr).add 4).add 0) .i64 fun x_114 =>
ldI h_109 (((⟨r_55, 0, none⟩ : Addr).add 4).add 1) .i64 fun x_115 =>
ldS h_109 (((⟨r_55, 0, none⟩ : Addr).add 4).add 2) fun x_116 x_116n x_116c =>
C F_burinref0_Lay #[.agg #[.int .i64 x_110, .int .i64 x_111, .slice x_112 x_112n x_112c], .int .i64 0, .int .i64 z_113, .int .i64 0, .agg #[.int .i64 x_114, .int .i64 x_115, .slice x_116 x_116n x_116c]] h_109 (fun v_117 h_118 =>
bindI (IntKind.i64.wrap (r_72 + x_97)) fun z_119 =>
ldI h_118 ((⟨r_105, 0, none⟩ : Addr).add 0) .i64 fun x_120 =>
ldI h_118 ((⟨r_105, 0, none⟩ : Addr).add 1) .i64 fun x_121 =>
ldS h_118 ((⟨r_105, 0, none⟩ : Addr).add 2) fun x_122 x_122n x_122c =>
C F_page_Page_Add #[.pointer r_34, .int .i64 z_68, .int .i64 z_119, .int .i64 0, .agg #[.int .i64 x_120, .int .i64 x_121, .slice x_122 x_122n x_122c]] h_118 (fun v_123 h_124 =>
∃ (r_125 : Int), v_123 = .int .i64 r_125 ∧ (
bcase (r_125 != (0 : Int)) (
K (.bool false) h_124) <|
bindI (IntKind.i64.wrap (x_97 + (1 : Int))) fun z_126 =>
∃ m_93, m_93 < n_94 ∧ J_92 m_93 [.int .i64 z_126] h_124)) (Kp)) (Kp))) (Kp)) <|
bindI (IntKind.i64.wrap (x_44 + (1 : Int))) fun z_127 =>
∃ m_40, m_40 < n_41 ∧ J_39 m_40 [.int .i64 z_127] h_95))) (Kp))) (Kp))) (Kp))) (Kp)) <|
K_36 [] h_42) <|
K_36 [] h_42)) ∧ ∀ (h_37 : Heap) (u_38 : Nat → Value) , K_36 [] h_37 → (
C F_page_Page_End #[.pointer r_28] h_37 (fun v_128 h_129 =>
∃ (r_130 : Int) (r_131 : Int) (r_132 : Option Addr) (r_132n : Nat) (r_132c : Nat), ∃ (r_133 : Int), v_128 = .tuple #[.agg #[.int .i64 r_130, .int .i64 r_131, .slice r_132 r_132n r_132c], .int .i64 r_133] ∧ (
newC h_129 [.int .i64 0, .int .i64 0, .slice none 0 0] T_api_Bitmap fun r_134 h_135 =>
stV h_135 ((⟨r_134, 0, none⟩ : Addr).add 0) (.int .i64 r_130) fun h_136 =>
stV h_136 ((⟨r_134, 0, none⟩ : Addr).add 1) (.int .i64 r_131) fun h_137 =>
stV h_137 ((⟨r_134, 0, none⟩ : Addr).add 2) (.slice r_132 r_132n r_132c) fun h_138 =>
C F_page_Page_End #[.pointer r_34] h_138 (fun v_139 h_140 =>
∃ (r_141 : Int) (r_142 : Int) (r_143 : Option Addr) (r_143n : Nat) (r_143c : Nat), ∃ (r_144 : Int), v_139 = .tuple #[.agg #[.int .i64 r_141, .int .i64 r_142, .slice r_143 r_143n r_143c], .int .i64 r_144] ∧ (
newC h_140 [.int .i64 0, .int .i64 0, .slice none 0 0] T_api_Bitmap fun r_145 h_146 =>
stV h_146 ((⟨r_145, 0, none⟩ : Addr).add 0) (.int .i64 r_141) fun h_147 =>
stV h_147 ((⟨r_145, 0, none⟩ : Addr).add 1) (.int .i64 r_142) fun h_148 =>
stV h_148 ((⟨r_145, 0, none⟩ : Addr).add 2) (.slice r_143 r_143n r_143c) fun h_149 =>
C F_page_Page_End #[.pointer r_28] h_149 (fun v_150 h_151 =>
∃ (r_152 : Int) (r_153 : Int) (r_154 : Option Addr) (r_154n : Nat) (r_154c : Nat), ∃ (r_155 : Int), v_150 = .tuple #[.agg #[.int .i64 r_152, .int .i64 r_153, .slice r_154 r_154n r_154c], .int .i64 r_155] ∧ (
newC h_151 [.int .i64 0, .int .i64 0, .slice none 0 0] T_api_Bitmap fun r_156 h_157 =>
stV h_157 ((⟨r_156, 0, none⟩ : Addr).add 0) (.int .i64 r_152) fun h_158 =>
stV h_158 ((⟨r_156, 0, none⟩ : Addr).add 1) (.int .i64 r_153) fun h_159 =>
stV h_159 ((⟨r_156, 0, none⟩ : Addr).add 2) (.slice r_154 r_154n r_154c) fun h_160 =>
bcase (r_133 == (0 : Int)) (
bcase (r_144 == (0 : Int)) (
ldI h_160 ((⟨r_134, 0, none⟩ : Addr).add 0) .i64 fun x_161 =>
ldI h_160 ((⟨r_134, 0, none⟩ : Addr).add 1) .i64 fun x_162 =>
ldS h_160 ((⟨r_134, 0, none⟩ : Addr).add 2) fun x_163 x_163n x_163c =>
ldI h_160 ((⟨r_145, 0, none⟩ : Addr).add 0) .i64 fun x_164 =>
ldI h_160 ((⟨r_145, 0, none⟩ : Addr).add 1) .i64 fun x_165 =>
ldS h_160 ((⟨r_145, 0, none⟩ : Addr).add 2) fun x_166 x_166n x_166c =>
C F_burinref0_EqBitmap #[.agg #[.int .i64 x_161, .int .i64 x_162, .slice x_163 x_163n x_163c], .agg #[.int .i64 x_164, .int .i64 x_165, .slice x_166 x_166n x_166c]] h_160 (fun v_167 h_168 =>
∃ (r_169 : Bool), v_167 = .bool r_169 ∧ (
bcase r_169 (
bcase (r_155 == (151 : Int)) (
ldI h_168 (((⟨r_7, 0, none⟩ : Addr).add 0).add 1) .i64 fun x_170 =>
C F_burinref0_White #[.int .i64 1, .int .i64 1] h_168 (fun v_171 h_172 =>
∃ (r_173 : Int) (r_174 : Int) (r_175 : Option Addr) (r_175n : Nat) (r_175c : Nat), v_171 = .agg #[.int .i64 r_173, .int .i64 r_174, .slice r_175 r_175n r_175c] ∧ (
hext h_168 h_172 ∧ (
C F_page_Page_Add #[.pointer r_28, .int .i64 0, .int .i64 x_170, .int .i64 0, .agg #[.int .i64 r_173, .int .i64 r_174, .slice r_175 r_175n r_175c]] h_172 (fun v_176 h_177 =>
∃ (r_178 : Int), v_176 = .int .i64 r_178 ∧ (
bcase (r_178 == (151 : Int)) (
ldI h_177 (((⟨r_7, 0, none⟩ : Addr).add 0).add 1) .i64 fun x_179 =>
C F_page_Page_Next #[.pointer r_28] h_177 (fun v_180 h_181 =>
∃ (r_182 : Int), v_180 = .int .i64 r_182 ∧ (
hext h_177 h_181 ∧ (
bcase (r_182 == x_179) (
C F_burinlaw15_wakes #[] h_181 (fun v_183 h_184 =>
∃ (r_185 : Bool), v_183 = .bool r_185 ∧ (
K (.bool r_185) h_184)) (Kp)) <|
K (.bool false) h_181))) (Kp)) <|
hext h_177 h_177 ∧ (
K (.bool false) h_177))) (Kp)))) (Kp)) <|
hext h_168 h_168 ∧ (
hext h_168 h_168 ∧ (
K (.bool false) h_168))) <|
hext h_168 h_168 ∧ (
hext h_168 h_168 ∧ (
K (.bool false) h_168)))) (Kp)) <|
hext h_160 h_160 ∧ (
hext h_160 h_160 ∧ (
K (.bool false) h_160))) <|
hext h_160 h_160 ∧ (
hext h_160 h_160 ∧ (
K (.bool false) h_160)))) (Kp))) (Kp))) (Kp)))) (Kp))) (Kp))) (Kp)

end Go.Den.Ytlmopdohgipbeaa
