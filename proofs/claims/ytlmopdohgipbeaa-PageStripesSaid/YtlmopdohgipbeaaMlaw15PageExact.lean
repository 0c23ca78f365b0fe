/- Written by gen.py: the conditions of the functions of law15PageExact. -/
import Derived.Test.YtlmopdohgipbeaaNums
set_option linter.unusedVariables false
set_option linter.unusedSimpArgs false
namespace Go.Den.Ytlmopdohgipbeaa
open Go Go.Den

/- burin/burinlaw15.PageExact -/
set_option maxRecDepth 100000 in
def burinlaw15_PageExact (C : CallP) (a0_1 : Int) (a0_2 : Int) (a0_3 : Int) (a0_4 : Int) (a0_5 : Option Addr) (a0_5n : Nat) (a0_5c : Nat) (a0_6 : Option Addr) (a0_6n : Nat) (a0_6c : Nat) (h : Heap) (K : Value → Heap → Prop) (Kp : List PanicEntry → Heap → Prop) : Prop :=
newC h [.int .i64 a0_1, .int .i64 a0_2, .int .i64 a0_3, .int .i64 a0_4, .slice a0_5 a0_5n a0_5c, .slice a0_6 a0_6n a0_6c] T_burinlaw15_Script fun r_7 h_8 =>
ldI h_8 (((⟨r_7, 0, none⟩ : Addr).add 0).add 0) .i64 fun x_9 =>
ldI h_8 (((⟨r_7, 0, none⟩ : Addr).add 0).add 1) .i64 fun x_10 =>
ldI h_8 (((⟨r_7, 0, none⟩ : Addr).add 0).add 2) .i64 fun x_11 =>
ldI h_8 (((⟨r_7, 0, none⟩ : Addr).add 0).add 3) .i64 fun x_12 =>
C F_page_New #[.agg #[.int .i64 x_9, .int .i64 x_10, .int .i64 x_11, .int .i64 x_12]] h_8 (fun v_13 h_14 =>
∃ (r_15 : Option Addr), ∃ (r_16 : Int), v_13 = .tuple #[.pointer r_15, .int .i64 r_16] ∧ (
ldI h_14 (((⟨r_7, 0, none⟩ : Addr).add 0).add 0) .i64 fun x_17 =>
ldI h_14 (((⟨r_7, 0, none⟩ : Addr).add 0).add 1) .i64 fun x_18 =>
ldI h_14 (((⟨r_7, 0, none⟩ : Addr).add 0).add 2) .i64 fun x_19 =>
ldI h_14 (((⟨r_7, 0, none⟩ : Addr).add 0).add 3) .i64 fun x_20 =>
C F_burinref15_MaySheet #[.agg #[.int .i64 x_17, .int .i64 x_18, .int .i64 x_19, .int .i64 x_20]] h_14 (fun v_21 h_22 =>
∃ (r_23 : Bool), v_21 = .bool r_23 ∧ (
bcase (!r_23) (
bcase r_15.isNone (
bcase (r_16 == (150 : Int)) (
C F_burinlaw15_wakes #[] h_22 (fun v_24 h_25 =>
∃ (r_26 : Bool), v_24 = .bool r_26 ∧ (
K (.bool r_26) h_25)) (Kp)) <|
K (.bool false) h_22) <|
K (.bool false) h_22) <|
bcase r_15.isNone (
K (.bool false) h_22) <|
bcase (r_16 != (0 : Int)) (
K (.bool false) h_22) <|
ldI h_22 (((⟨r_7, 0, none⟩ : Addr).add 0).add 0) .i64 fun x_27 =>
bindI (IntKind.i64.wrap (x_27 + (64 : Int))) fun z_28 =>
ldI h_22 (((⟨r_7, 0, none⟩ : Addr).add 0).add 1) .i64 fun x_29 =>
bindI (IntKind.i64.wrap (z_28 * x_29)) fun z_30 =>
bcase (decide (z_30 > (60000 : Int))) (
C F_burinlaw15_wakes #[] h_22 (fun v_31 h_32 =>
∃ (r_33 : Bool), v_31 = .bool r_33 ∧ (
K (.bool r_33) h_32)) (Kp)) <|
ldI h_22 (((⟨r_7, 0, none⟩ : Addr).add 0).add 0) .i64 fun x_34 =>
ldI h_22 (((⟨r_7, 0, none⟩ : Addr).add 0).add 1) .i64 fun x_35 =>
ldI h_22 (((⟨r_7, 0, none⟩ : Addr).add 0).add 2) .i64 fun x_36 =>
ldI h_22 (((⟨r_7, 0, none⟩ : Addr).add 0).add 3) .i64 fun x_37 =>
C F_burinref15_New #[.agg #[.int .i64 x_34, .int .i64 x_35, .int .i64 x_36, .int .i64 x_37]] h_22 (fun v_38 h_39 =>
∃ (r_40 : Option Addr), v_38 = .pointer r_40 ∧ (
∃ K_41 : List Value → Heap → Prop, (
∃ J_44 : Nat → List Value → Heap → Prop, (∃ n_46, J_44 n_46 [.int .i64 0] h_39) ∧ ∀ (n_46 : Nat) (h_47 : Heap) (u_48 : Nat → Value) (x_49 : Int), J_44 n_46 [.int .i64 x_49] h_47 → (
ldS h_47 ((⟨r_7, 0, none⟩ : Addr).add 4) fun x_50 x_50n x_50c =>
bcase (decide (x_49 < (x_50n : Int))) (
bcase (decide (x_49 < (30 : Int))) (
ldS h_47 ((⟨r_7, 0, none⟩ : Addr).add 4) fun x_51 x_51n x_51c =>
needs (0 ≤ x_49 ∧ x_49 < (x_51n : Int)) <|
ptr x_51 fun a_52 =>
ldI h_47 ((a_52.add (x_49.toNat * 7)).add 0) .i64 fun x_53 =>
ldI h_47 ((a_52.add (x_49.toNat * 7)).add 1) .i64 fun x_54 =>
ldI h_47 ((a_52.add (x_49.toNat * 7)).add 2) .i64 fun x_55 =>
ldI h_47 ((a_52.add (x_49.toNat * 7)).add 3) .i64 fun x_56 =>
ldI h_47 ((a_52.add (x_49.toNat * 7)).add 4) .i64 fun x_57 =>
ldI h_47 ((a_52.add (x_49.toNat * 7)).add 5) .i64 fun x_58 =>
ldS h_47 ((a_52.add (x_49.toNat * 7)).add 6) fun x_59 x_59n x_59c =>
newC h_47 [.int .i64 0, .int .i64 0, .int .i64 0, .int .i64 0, .int .i64 0, .int .i64 0, .slice none 0 0] T_burinlaw15_Op fun r_60 h_61 =>
stV h_61 ((⟨r_60, 0, none⟩ : Addr).add 0) (.int .i64 x_53) fun h_62 =>
stV h_62 ((⟨r_60, 0, none⟩ : Addr).add 1) (.int .i64 x_54) fun h_63 =>
stV h_63 ((⟨r_60, 0, none⟩ : Addr).add 2) (.int .i64 x_55) fun h_64 =>
stV h_64 ((⟨r_60, 0, none⟩ : Addr).add 3) (.int .i64 x_56) fun h_65 =>
stV h_65 ((⟨r_60, 0, none⟩ : Addr).add 4) (.int .i64 x_57) fun h_66 =>
stV h_66 ((⟨r_60, 0, none⟩ : Addr).add 5) (.int .i64 x_58) fun h_67 =>
stV h_67 ((⟨r_60, 0, none⟩ : Addr).add 6) (.slice x_59 x_59n x_59c) fun h_68 =>
ldS h_68 (((⟨r_60, 0, none⟩ : Addr).add 4).add 2) fun x_69 x_69n x_69c =>
bcase (decide ((x_69n : Int) > (375 : Int))) (
bindI (IntKind.i64.wrap (x_49 + (1 : Int))) fun z_70 =>
∃ m_45, m_45 < n_46 ∧ J_44 m_45 [.int .i64 z_70] h_68) <|
∃ K_71 : List Value → Heap → Prop, (
ldI h_68 ((⟨r_60, 0, none⟩ : Addr).add 0) .i64 fun x_74 =>
bcase (x_74 == (0 : Int)) (
ldI h_68 ((⟨r_60, 0, none⟩ : Addr).add 2) .i64 fun x_75 =>
∃ K_76 : List Value → Heap → Prop, (
ldS h_68 ((⟨r_7, 0, none⟩ : Addr).add 5) fun x_79 x_79n x_79c =>
bcase (decide (x_49 < (x_79n : Int))) (
ldS h_68 ((⟨r_7, 0, none⟩ : Addr).add 5) fun x_80 x_80n x_80c =>
needs (0 ≤ x_49 ∧ x_49 < (x_80n : Int)) <|
ptr x_80 fun a_81 =>
ldB h_68 (a_81.add (x_49.toNat * 1)) fun x_82 =>
bcase x_82 (
ptr r_40 fun a_83 =>
ldI h_68 (a_83.add 7) .i64 fun x_84 =>
K_76 [.int .i64 x_84] h_68) <|
K_76 [.int .i64 x_75] h_68) <|
K_76 [.int .i64 x_75] h_68) ∧ ∀ (h_77 : Heap) (u_78 : Nat → Value) (x_85 : Int), K_76 [.int .i64 x_85] h_77 → (
ldI h_77 (((⟨r_60, 0, none⟩ : Addr).add 4).add 0) .i64 fun x_86 =>
ldI h_77 (((⟨r_60, 0, none⟩ : Addr).add 4).add 1) .i64 fun x_87 =>
ldS h_77 (((⟨r_60, 0, none⟩ : Addr).add 4).add 2) fun x_88 x_88n x_88c =>
C F_burinkit_LendBitmap #[.agg #[.int .i64 x_86, .int .i64 x_87, .slice x_88 x_88n x_88c]] h_77 (fun v_89 h_90 =>
∃ (r_91 : Int) (r_92 : Int) (r_93 : Option Addr) (r_93n : Nat) (r_93c : Nat), v_89 = .agg #[.int .i64 r_91, .int .i64 r_92, .slice r_93 r_93n r_93c] ∧ (
newC h_90 [.int .i64 0, .int .i64 0, .slice none 0 0] T_api_Bitmap fun r_94 h_95 =>
stV h_95 ((⟨r_94, 0, none⟩ : Addr).add 0) (.int .i64 r_91) fun h_96 =>
stV h_96 ((⟨r_94, 0, none⟩ : Addr).add 1) (.int .i64 r_92) fun h_97 =>
stV h_97 ((⟨r_94, 0, none⟩ : Addr).add 2) (.slice r_93 r_93n r_93c) fun h_98 =>
ldI h_98 ((⟨r_60, 0, none⟩ : Addr).add 1) .i64 fun x_99 =>
ldI h_98 ((⟨r_60, 0, none⟩ : Addr).add 3) .i64 fun x_100 =>
ldI h_98 ((⟨r_94, 0, none⟩ : Addr).add 0) .i64 fun x_101 =>
ldI h_98 ((⟨r_94, 0, none⟩ : Addr).add 1) .i64 fun x_102 =>
ldS h_98 ((⟨r_94, 0, none⟩ : Addr).add 2) fun x_103 x_103n x_103c =>
C F_page_Page_Add #[.pointer r_15, .int .i64 x_99, .int .i64 x_85, .int .i64 x_100, .agg #[.int .i64 x_101, .int .i64 x_102, .slice x_103 x_103n x_103c]] h_98 (fun v_104 h_105 =>
∃ (r_106 : Int), v_104 = .int .i64 r_106 ∧ (
ldI h_105 ((⟨r_94, 0, none⟩ : Addr).add 0) .i64 fun x_107 =>
ldI h_105 ((⟨r_94, 0, none⟩ : Addr).add 1) .i64 fun x_108 =>
ldS h_105 ((⟨r_94, 0, none⟩ : Addr).add 2) fun x_109 x_109n x_109c =>
ldI h_105 (((⟨r_60, 0, none⟩ : Addr).add 4).add 0) .i64 fun x_110 =>
ldI h_105 (((⟨r_60, 0, none⟩ : Addr).add 4).add 1) .i64 fun x_111 =>
ldS h_105 (((⟨r_60, 0, none⟩ : Addr).add 4).add 2) fun x_112 x_112n x_112c =>
C F_burinkit_BackBitmap #[.agg #[.int .i64 x_107, .int .i64 x_108, .slice x_109 x_109n x_109c], .agg #[.int .i64 x_110, .int .i64 x_111, .slice x_112 x_112n x_112c]] h_105 (fun v_113 h_114 =>
∃ (r_115 : Bool), v_113 = .bool r_115 ∧ (
bcase (!r_115) (
K (.bool false) h_114) <|
ldI h_114 ((⟨r_60, 0, none⟩ : Addr).add 1) .i64 fun x_116 =>
ldI h_114 ((⟨r_60, 0, none⟩ : Addr).add 3) .i64 fun x_117 =>
ldI h_114 (((⟨r_60, 0, none⟩ : Addr).add 4).add 0) .i64 fun x_118 =>
ldI h_114 (((⟨r_60, 0, none⟩ : Addr).add 4).add 1) .i64 fun x_119 =>
ldS h_114 (((⟨r_60, 0, none⟩ : Addr).add 4).add 2) fun x_120 x_120n x_120c =>
C F_burinref15_Page_Add #[.pointer r_40, .int .i64 x_116, .int .i64 x_85, .int .i64 x_117, .agg #[.int .i64 x_118, .int .i64 x_119, .slice x_120 x_120n x_120c]] h_114 (fun v_121 h_122 =>
∃ (r_123 : Int), v_121 = .int .i64 r_123 ∧ (
bcase (r_106 != r_123) (
K (.bool false) h_122) <|
K_71 [] h_122)) (Kp))) (Kp))) (Kp))) (Kp))) <|
bcase (x_74 == (1 : Int)) (
ldI h_68 ((⟨r_60, 0, none⟩ : Addr).add 2) .i64 fun x_124 =>
∃ K_125 : List Value → Heap → Prop, (
ldS h_68 ((⟨r_7, 0, none⟩ : Addr).add 5) fun x_128 x_128n x_128c =>
bcase (decide (x_49 < (x_128n : Int))) (
ldS h_68 ((⟨r_7, 0, none⟩ : Addr).add 5) fun x_129 x_129n x_129c =>
needs (0 ≤ x_49 ∧ x_49 < (x_129n : Int)) <|
ptr x_129 fun a_130 =>
ldB h_68 (a_130.add (x_49.toNat * 1)) fun x_131 =>
K_125 [.bool x_131] h_68) <|
K_125 [.bool false] h_68) ∧ ∀ (h_126 : Heap) (u_127 : Nat → Value) (x_132 : Bool), K_125 [.bool x_132] h_126 → (
bcase x_132 (
ptr r_40 fun a_133 =>
ldI h_126 (a_133.add 7) .i64 fun x_134 =>
ldI h_126 (((⟨r_7, 0, none⟩ : Addr).add 0).add 3) .i64 fun x_135 =>
bindI (IntKind.i64.wrap (x_134 + x_135)) fun z_136 =>
bindI (IntKind.i64.wrap (z_136 - (1 : Int))) fun z_137 =>
ldI h_126 (((⟨r_7, 0, none⟩ : Addr).add 0).add 1) .i64 fun x_138 =>
bindI (IntKind.i64.wrap (x_138 - (1 : Int))) fun z_139 =>
bcase (decide (z_137 > z_139)) (
ldI h_126 (((⟨r_7, 0, none⟩ : Addr).add 0).add 1) .i64 fun x_140 =>
bindI (IntKind.i64.wrap (x_140 - (1 : Int))) fun z_141 =>
C F_page_Page_Stripe #[.pointer r_15, .int .i64 z_141] h_126 (fun v_142 h_143 =>
∃ (r_144 : Int), v_142 = .int .i64 r_144 ∧ (
C F_burinref15_Page_Stripe #[.pointer r_40, .int .i64 z_141] h_143 (fun v_145 h_146 =>
∃ (r_147 : Int), v_145 = .int .i64 r_147 ∧ (
bcase (r_144 != r_147) (
K (.bool false) h_146) <|
K_71 [] h_146)) (Kp))) (Kp)) <|
C F_page_Page_Stripe #[.pointer r_15, .int .i64 z_137] h_126 (fun v_148 h_149 =>
∃ (r_150 : Int), v_148 = .int .i64 r_150 ∧ (
C F_burinref15_Page_Stripe #[.pointer r_40, .int .i64 z_137] h_149 (fun v_151 h_152 =>
∃ (r_153 : Int), v_151 = .int .i64 r_153 ∧ (
bcase (r_150 != r_153) (
K (.bool false) h_152) <|
K_71 [] h_152)) (Kp))) (Kp)) <|
C F_page_Page_Stripe #[.pointer r_15, .int .i64 x_124] h_126 (fun v_154 h_155 =>
∃ (r_156 : Int), v_154 = .int .i64 r_156 ∧ (
C F_burinref15_Page_Stripe #[.pointer r_40, .int .i64 x_124] h_155 (fun v_157 h_158 =>
∃ (r_159 : Int), v_157 = .int .i64 r_159 ∧ (
bcase (r_156 != r_159) (
K (.bool false) h_158) <|
K_71 [] h_158)) (Kp))) (Kp))) <|
C F_page_Page_End #[.pointer r_15] h_68 (fun v_160 h_161 =>
∃ (r_162 : Int) (r_163 : Int) (r_164 : Option Addr) (r_164n : Nat) (r_164c : Nat), ∃ (r_165 : Int), v_160 = .tuple #[.agg #[.int .i64 r_162, .int .i64 r_163, .slice r_164 r_164n r_164c], .int .i64 r_165] ∧ (
newC h_161 [.int .i64 0, .int .i64 0, .slice none 0 0] T_api_Bitmap fun r_166 h_167 =>
stV h_167 ((⟨r_166, 0, none⟩ : Addr).add 0) (.int .i64 r_162) fun h_168 =>
stV h_168 ((⟨r_166, 0, none⟩ : Addr).add 1) (.int .i64 r_163) fun h_169 =>
stV h_169 ((⟨r_166, 0, none⟩ : Addr).add 2) (.slice r_164 r_164n r_164c) fun h_170 =>
C F_burinref15_Page_End #[.pointer r_40] h_170 (fun v_171 h_172 =>
∃ (r_173 : Int) (r_174 : Int) (r_175 : Option Addr) (r_175n : Nat) (r_175c : Nat), ∃ (r_176 : Int), v_171 = .tuple #[.agg #[.int .i64 r_173, .int .i64 r_174, .slice r_175 r_175n r_175c], .int .i64 r_176] ∧ (
newC h_172 [.int .i64 0, .int .i64 0, .slice none 0 0] T_api_Bitmap fun r_177 h_178 =>
stV h_178 ((⟨r_177, 0, none⟩ : Addr).add 0) (.int .i64 r_173) fun h_179 =>
stV h_179 ((⟨r_177, 0, none⟩ : Addr).add 1) (.int .i64 r_174) fun h_180 =>
stV h_180 ((⟨r_177, 0, none⟩ : Addr).add 2) (.slice r_175 r_175n r_175c) fun h_181 =>
bcase (r_165 != r_176) (
K (.bool false) h_181) <|
ldI h_181 ((⟨r_166, 0, none⟩ : Addr).add 0) .i64 fun x_182 =>
ldI h_181 ((⟨r_166, 0, none⟩ : Addr).add 1) .i64 fun x_183 =>
ldS h_181 ((⟨r_166, 0, none⟩ : Addr).add 2) fun x_184 x_184n x_184c =>
ldI h_181 ((⟨r_177, 0, none⟩ : Addr).add 0) .i64 fun x_185 =>
ldI h_181 ((⟨r_177, 0, none⟩ : Addr).add 1) .i64 fun x_186 =>
ldS h_181 ((⟨r_177, 0, none⟩ : Addr).add 2) fun x_187 x_187n x_187c =>
C F_burinref0_EqBitmap #[.agg #[.int .i64 x_182, .int .i64 x_183, .slice x_184 x_184n x_184c], .agg #[.int .i64 x_185, .int .i64 x_186, .slice x_187 x_187n x_187c]] h_181 (fun v_188 h_189 =>
∃ (r_190 : Bool), v_188 = .bool r_190 ∧ (
bcase (!r_190) (
K (.bool false) h_189) <|
ldS h_189 ((⟨r_166, 0, none⟩ : Addr).add 2) fun x_191 x_191n x_191c =>
C F_burinkit_OverWords #[.slice x_191 x_191n x_191c] h_189 (fun v_192 h_193 =>
K_71 [] h_193) (Kp))) (Kp))) (Kp))) (Kp)) ∧ ∀ (h_72 : Heap) (u_73 : Nat → Value) , K_71 [] h_72 → (
ptr r_40 fun a_194 =>
ldI h_72 (a_194.add 7) .i64 fun x_195 =>
C F_page_Page_Next #[.pointer r_15] h_72 (fun v_196 h_197 =>
∃ (r_198 : Int), v_196 = .int .i64 r_198 ∧ (
hext h_72 h_197 ∧ (
bcase (r_198 != x_195) (
K (.bool false) h_197) <|
bindI (IntKind.i64.wrap (x_49 + (1 : Int))) fun z_199 =>
∃ m_45, m_45 < n_46 ∧ J_44 m_45 [.int .i64 z_199] h_197))) (Kp))) <|
K_41 [] h_47) <|
K_41 [] h_47)) ∧ ∀ (h_42 : Heap) (u_43 : Nat → Value) , K_41 [] h_42 → (
∃ K_200 : List Value → Heap → Prop, (
∃ J_203 : Nat → List Value → Heap → Prop, (∃ n_205, J_203 n_205 [] h_42) ∧ ∀ (n_205 : Nat) (h_206 : Heap) (u_207 : Nat → Value) , J_203 n_205 [] h_206 → (
ptr r_40 fun a_208 =>
ldI h_206 ((a_208.add 0).add 3) .i64 fun x_209 =>
bcase (decide (x_209 > (0 : Int))) (
ptr r_40 fun a_210 =>
ldB h_206 (a_210.add 8) fun x_211 =>
bcase (!x_211) (
ptr r_40 fun a_212 =>
ptr r_40 fun a_213 =>
ldI h_206 (a_212.add 7) .i64 fun x_214 =>
ldI h_206 ((a_213.add 0).add 1) .i64 fun x_215 =>
bcase (decide (x_214 < x_215)) (
ptr r_40 fun a_216 =>
ptr r_40 fun a_217 =>
ldI h_206 ((a_216.add 0).add 1) .i64 fun x_218 =>
ldI h_206 ((a_217.add 0).add 3) .i64 fun x_219 =>
needs (IntKind.i64 = IntKind.i64 ∧ x_219 ≠ 0) <|
bindI (IntKind.i64.wrap (x_218.tdiv x_219)) fun z_220 =>
bcase (decide (z_220 < (200 : Int))) (
ptr r_40 fun a_221 =>
ptr r_40 fun a_222 =>
ldI h_206 (a_221.add 7) .i64 fun x_223 =>
ldI h_206 ((a_222.add 0).add 3) .i64 fun x_224 =>
bindI (IntKind.i64.wrap (x_223 + x_224)) fun z_225 =>
bindI (IntKind.i64.wrap (z_225 - (1 : Int))) fun z_226 =>
∃ K_227 : List Value → Heap → Prop, (
ptr r_40 fun a_230 =>
ldI h_206 ((a_230.add 0).add 1) .i64 fun x_231 =>
bindI (IntKind.i64.wrap (x_231 - (1 : Int))) fun z_232 =>
bcase (decide (z_226 > z_232)) (
ptr r_40 fun a_233 =>
ldI h_206 ((a_233.add 0).add 1) .i64 fun x_234 =>
bindI (IntKind.i64.wrap (x_234 - (1 : Int))) fun z_235 =>
K_227 [.int .i64 z_235] h_206) <|
K_227 [.int .i64 z_226] h_206) ∧ ∀ (h_228 : Heap) (u_229 : Nat → Value) (x_236 : Int), K_227 [.int .i64 x_236] h_228 → (
C F_page_Page_Stripe #[.pointer r_15, .int .i64 x_236] h_228 (fun v_237 h_238 =>
∃ (r_239 : Int), v_237 = .int .i64 r_239 ∧ (
bcase (r_239 != (0 : Int)) (
K (.bool false) h_238) <|
C F_burinref15_Page_Stripe #[.pointer r_40, .int .i64 x_236] h_238 (fun v_240 h_241 =>
∃ (r_242 : Int), v_240 = .int .i64 r_242 ∧ (
bcase (r_242 != (0 : Int)) (
K (.bool false) h_241) <|
∃ m_204, m_204 < n_205 ∧ J_203 m_204 [] h_241)) (Kp))) (Kp))) <|
K_200 [] h_206) <|
K_200 [] h_206) <|
K_200 [] h_206) <|
K_200 [] h_206)) ∧ ∀ (h_201 : Heap) (u_202 : Nat → Value) , K_200 [] h_201 → (
C F_page_Page_End #[.pointer r_15] h_201 (fun v_243 h_244 =>
∃ (r_245 : Int) (r_246 : Int) (r_247 : Option Addr) (r_247n : Nat) (r_247c : Nat), ∃ (r_248 : Int), v_243 = .tuple #[.agg #[.int .i64 r_245, .int .i64 r_246, .slice r_247 r_247n r_247c], .int .i64 r_248] ∧ (
newC h_244 [.int .i64 0, .int .i64 0, .slice none 0 0] T_api_Bitmap fun r_249 h_250 =>
stV h_250 ((⟨r_249, 0, none⟩ : Addr).add 0) (.int .i64 r_245) fun h_251 =>
stV h_251 ((⟨r_249, 0, none⟩ : Addr).add 1) (.int .i64 r_246) fun h_252 =>
stV h_252 ((⟨r_249, 0, none⟩ : Addr).add 2) (.slice r_247 r_247n r_247c) fun h_253 =>
C F_burinref15_Page_End #[.pointer r_40] h_253 (fun v_254 h_255 =>
∃ (r_256 : Int) (r_257 : Int) (r_258 : Option Addr) (r_258n : Nat) (r_258c : Nat), ∃ (r_259 : Int), v_254 = .tuple #[.agg #[.int .i64 r_256, .int .i64 r_257, .slice r_258 r_258n r_258c], .int .i64 r_259] ∧ (
newC h_255 [.int .i64 0, .int .i64 0, .slice none 0 0] T_api_Bitmap fun r_260 h_261 =>
stV h_261 ((⟨r_260, 0, none⟩ : Addr).add 0) (.int .i64 r_256) fun h_262 =>
stV h_262 ((⟨r_260, 0, none⟩ : Addr).add 1) (.int .i64 r_257) fun h_263 =>
stV h_263 ((⟨r_260, 0, none⟩ : Addr).add 2) (.slice r_258 r_258n r_258c) fun h_264 =>
bcase (r_248 == r_259) (
ldI h_264 ((⟨r_249, 0, none⟩ : Addr).add 0) .i64 fun x_265 =>
ldI h_264 ((⟨r_249, 0, none⟩ : Addr).add 1) .i64 fun x_266 =>
ldS h_264 ((⟨r_249, 0, none⟩ : Addr).add 2) fun x_267 x_267n x_267c =>
ldI h_264 ((⟨r_260, 0, none⟩ : Addr).add 0) .i64 fun x_268 =>
ldI h_264 ((⟨r_260, 0, none⟩ : Addr).add 1) .i64 fun x_269 =>
ldS h_264 ((⟨r_260, 0, none⟩ : Addr).add 2) fun x_270 x_270n x_270c =>
C F_burinref0_EqBitmap #[.agg #[.int .i64 x_265, .int .i64 x_266, .slice x_267 x_267n x_267c], .agg #[.int .i64 x_268, .int .i64 x_269, .slice x_270 x_270n x_270c]] h_264 (fun v_271 h_272 =>
∃ (r_273 : Bool), v_271 = .bool r_273 ∧ (
bcase r_273 (
C F_burinlaw15_wakes #[] h_272 (fun v_274 h_275 =>
∃ (r_276 : Bool), v_274 = .bool r_276 ∧ (
K (.bool r_276) h_275)) (Kp)) <|
K (.bool false) h_272)) (Kp)) <|
K (.bool false) h_264)) (Kp))) (Kp))))) (Kp))) (Kp))) (Kp)

end Go.Den.Ytlmopdohgipbeaa
