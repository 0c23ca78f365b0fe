/- W3: put together by wip/tools/bundle.py: Mlaw14TextMoved Blaw14TextMoved. -/
import Derived.Test.YtbknfejmdekhpaaGreatW1
import Derived.Test.YtbknfejmdekhpaaGreatW2
import Derived.Test.YtbknfejmdekhpaaGreatProg
set_option linter.unusedVariables false
set_option linter.unusedSimpArgs false
set_option maxRecDepth 100000
namespace Go.Den.YtbknfejmdekhpaaGreat
open Go Go.Den
def burinlaw14_TextMoved (C:CallP) (p_1:Int) (p_2:Int) (p_3:Int) (p_4:Int) (p_5:Int) (p_6:Bool) (p_7:Int) (p_8:Int) (p_9:Option Addr) (p_9n:Nat) (p_9c:Nat) (p_10:Option Addr) (p_10n:Nat) (p_10c:Nat) (h:Heap) (K:VK) (Kp:PK):Prop :=
newC h [.int .i64 p_1, .int .i64 p_2, .int .i64 p_3, .int .i64 p_4, .int .i64 p_5, .bool p_6, .int .i64 p_7, .int .i64 p_8, .slice p_9 p_9n p_9c, .slice p_10 p_10n p_10c] T_burinlaw14_Ask fun r_11 h_12 =>
ldI h_12 ((⟨r_11,0,none⟩:Addr).add 0) .i64 fun x_13 =>
ldI h_12 ((⟨r_11,0,none⟩:Addr).add 1) .i64 fun x_14 =>
ldI h_12 ((⟨r_11,0,none⟩:Addr).add 2) .i64 fun x_15 =>
ldI h_12 ((⟨r_11,0,none⟩:Addr).add 3) .i64 fun x_16 =>
ldI h_12 ((⟨r_11,0,none⟩:Addr).add 4) .i64 fun x_17 =>
ldB h_12 ((⟨r_11,0,none⟩:Addr).add 5) fun x_18 =>
ldI h_12 ((⟨r_11,0,none⟩:Addr).add 6) .i64 fun x_19 =>
ldI h_12 ((⟨r_11,0,none⟩:Addr).add 7) .i64 fun x_20 =>
ldS h_12 ((⟨r_11,0,none⟩:Addr).add 8) fun x_21 x_21n x_21c =>
ldS h_12 ((⟨r_11,0,none⟩:Addr).add 9) fun x_22 x_22n x_22c =>
C F_burinlaw14_light #[.agg #[.int .i64 x_13, .int .i64 x_14, .int .i64 x_15, .int .i64 x_16, .int .i64 x_17, .bool x_18, .int .i64 x_19, .int .i64 x_20, .slice x_21 x_21n x_21c, .slice x_22 x_22n x_22c]] h_12 (fun v_23 h_24 =>
∃ (r_25:Bool),v_23 = .bool r_25/\(
bcase (!r_25) (
C F_burinlaw14_wakes #[] h_24 (fun v_26 h_27 =>
∃ (r_28:Bool),v_26 = .bool r_28/\(
K (.bool r_28) h_27)) (Kp)) <|
ldI h_24 (((⟨r_11,0,none⟩:Addr).add 0).add 0) .i64 fun x_29 =>
ldI h_24 (((⟨r_11,0,none⟩:Addr).add 0).add 1) .i64 fun x_30 =>
ldI h_24 (((⟨r_11,0,none⟩:Addr).add 0).add 2) .i64 fun x_31 =>
ldI h_24 (((⟨r_11,0,none⟩:Addr).add 0).add 3) .i64 fun x_32 =>
ldI h_24 (((⟨r_11,0,none⟩:Addr).add 0).add 4) .i64 fun x_33 =>
ldB h_24 (((⟨r_11,0,none⟩:Addr).add 0).add 5) fun x_34 =>
ldI h_24 (((⟨r_11,0,none⟩:Addr).add 0).add 6) .i64 fun x_35 =>
ldI h_24 (((⟨r_11,0,none⟩:Addr).add 0).add 7) .i64 fun x_36 =>
ldS h_24 (((⟨r_11,0,none⟩:Addr).add 0).add 8) fun x_37 x_37n x_37c =>
ldS h_24 ((⟨r_11,0,none⟩:Addr).add 9) fun x_38 x_38n x_38c =>
C F_burinref14_Bad #[.agg #[.int .i64 x_29, .int .i64 x_30, .int .i64 x_31, .int .i64 x_32, .int .i64 x_33, .bool x_34, .int .i64 x_35, .int .i64 x_36, .slice x_37 x_37n x_37c], .slice x_38 x_38n x_38c] h_24 (fun v_39 h_40 =>
∃ (r_41:Int),v_39 = .int .i64 r_41/\(
bcase (r_41 != (0:Int)) (
C F_burinlaw14_wakes #[] h_40 (fun v_42 h_43 =>
∃ (r_44:Bool),v_42 = .bool r_44/\(
K (.bool r_44) h_43)) (Kp)) <|
ldI h_40 (((⟨r_11,0,none⟩:Addr).add 0).add 2) .i64 fun x_45 =>
bindI (IntKind.i64.wrap (x_45+(100:Int))) fun z_46 =>
ldI h_40 (((⟨r_11,0,none⟩:Addr).add 0).add 3) .i64 fun x_47 =>
bindI (IntKind.i64.wrap (x_47+(20:Int))) fun z_48 =>
bindI (IntKind.i64.wrap (z_46*z_48)) fun z_49 =>
bcase (decide (z_49 > (30000:Int))) (
C F_burinlaw14_wakes #[] h_40 (fun v_50 h_51 =>
∃ (r_52:Bool),v_50 = .bool r_52/\(
K (.bool r_52) h_51)) (Kp)) <|
ldI h_40 (((⟨r_11,0,none⟩:Addr).add 0).add 0) .i64 fun x_53 =>
C F_burinkit_Within #[.int .i64 x_53, .int .i64 70] h_40 (fun v_54 h_55 =>
∃ (r_56:Int),v_54 = .int .i64 r_56/\(
ldI h_55 (((⟨r_11,0,none⟩:Addr).add 0).add 1) .i64 fun x_57 =>
C F_burinkit_Within #[.int .i64 x_57, .int .i64 3] h_55 (fun v_58 h_59 =>
∃ (r_60:Int),v_58 = .int .i64 r_60/\(
bindI (IntKind.i64.wrap ((8:Int)*r_60)) fun z_61 =>
ldI h_59 (((⟨r_11,0,none⟩:Addr).add 0).add 0) .i64 fun x_62 =>
ldI h_59 (((⟨r_11,0,none⟩:Addr).add 0).add 1) .i64 fun x_63 =>
ldI h_59 (((⟨r_11,0,none⟩:Addr).add 0).add 2) .i64 fun x_64 =>
ldI h_59 (((⟨r_11,0,none⟩:Addr).add 0).add 3) .i64 fun x_65 =>
ldI h_59 (((⟨r_11,0,none⟩:Addr).add 0).add 4) .i64 fun x_66 =>
ldB h_59 (((⟨r_11,0,none⟩:Addr).add 0).add 5) fun x_67 =>
ldI h_59 (((⟨r_11,0,none⟩:Addr).add 0).add 6) .i64 fun x_68 =>
ldI h_59 (((⟨r_11,0,none⟩:Addr).add 0).add 7) .i64 fun x_69 =>
ldS h_59 (((⟨r_11,0,none⟩:Addr).add 0).add 8) fun x_70 x_70n x_70c =>
C F_burinref0_CopyText #[.agg #[.int .i64 x_62, .int .i64 x_63, .int .i64 x_64, .int .i64 x_65, .int .i64 x_66, .bool x_67, .int .i64 x_68, .int .i64 x_69, .slice x_70 x_70n x_70c]] h_59 (fun v_71 h_72 =>
∃ (r_73:Int) (r_74:Int) (r_75:Int) (r_76:Int) (r_77:Int) (r_78:Bool) (r_79:Int) (r_80:Int) (r_81:Option Addr) (r_81n:Nat) (r_81c:Nat),v_71 = .agg #[.int .i64 r_73, .int .i64 r_74, .int .i64 r_75, .int .i64 r_76, .int .i64 r_77, .bool r_78, .int .i64 r_79, .int .i64 r_80, .slice r_81 r_81n r_81c]/\(
newC h_72 [.int .i64 0, .int .i64 0, .int .i64 0, .int .i64 0, .int .i64 0, .bool false, .int .i64 0, .int .i64 0, .slice none 0 0] T_api_Text fun r_82 h_83 =>
stVs h_83 (⟨r_82,0,none⟩:Addr) 0 [.int .i64 r_73, .int .i64 r_74, .int .i64 r_75, .int .i64 r_76, .int .i64 r_77, .bool r_78, .int .i64 r_79, .int .i64 r_80, .slice r_81 r_81n r_81c] fun h_84 =>
stV h_84 ((⟨r_82,0,none⟩:Addr).add 6) (.int .i64 0) fun h_85 =>
stV h_85 ((⟨r_82,0,none⟩:Addr).add 4) (.int .i64 2) fun h_86 =>
ldI h_86 ((⟨r_82,0,none⟩:Addr).add 0) .i64 fun x_87 =>
ldI h_86 ((⟨r_82,0,none⟩:Addr).add 1) .i64 fun x_88 =>
ldI h_86 ((⟨r_82,0,none⟩:Addr).add 2) .i64 fun x_89 =>
ldI h_86 ((⟨r_82,0,none⟩:Addr).add 3) .i64 fun x_90 =>
ldI h_86 ((⟨r_82,0,none⟩:Addr).add 4) .i64 fun x_91 =>
ldB h_86 ((⟨r_82,0,none⟩:Addr).add 5) fun x_92 =>
ldI h_86 ((⟨r_82,0,none⟩:Addr).add 6) .i64 fun x_93 =>
ldI h_86 ((⟨r_82,0,none⟩:Addr).add 7) .i64 fun x_94 =>
ldS h_86 ((⟨r_82,0,none⟩:Addr).add 8) fun x_95 x_95n x_95c =>
C F_burinref0_CopyText #[.agg #[.int .i64 x_87, .int .i64 x_88, .int .i64 x_89, .int .i64 x_90, .int .i64 x_91, .bool x_92, .int .i64 x_93, .int .i64 x_94, .slice x_95 x_95n x_95c]] h_86 (fun v_96 h_97 =>
∃ (r_98:Int) (r_99:Int) (r_100:Int) (r_101:Int) (r_102:Int) (r_103:Bool) (r_104:Int) (r_105:Int) (r_106:Option Addr) (r_106n:Nat) (r_106c:Nat),v_96 = .agg #[.int .i64 r_98, .int .i64 r_99, .int .i64 r_100, .int .i64 r_101, .int .i64 r_102, .bool r_103, .int .i64 r_104, .int .i64 r_105, .slice r_106 r_106n r_106c]/\(
newC h_97 [.int .i64 0, .int .i64 0, .int .i64 0, .int .i64 0, .int .i64 0, .bool false, .int .i64 0, .int .i64 0, .slice none 0 0] T_api_Text fun r_107 h_108 =>
stVs h_108 (⟨r_107,0,none⟩:Addr) 0 [.int .i64 r_98, .int .i64 r_99, .int .i64 r_100, .int .i64 r_101, .int .i64 r_102, .bool r_103, .int .i64 r_104, .int .i64 r_105, .slice r_106 r_106n r_106c] fun h_109 =>
ldI h_109 ((⟨r_107,0,none⟩:Addr).add 2) .i64 fun x_110 =>
bindI (IntKind.i64.wrap (x_110+r_56)) fun z_111 =>
stV h_109 ((⟨r_107,0,none⟩:Addr).add 2) (.int .i64 z_111) fun h_112 =>
ldI h_112 ((⟨r_107,0,none⟩:Addr).add 3) .i64 fun x_113 =>
bindI (IntKind.i64.wrap (x_113+z_61)) fun z_114 =>
stV h_112 ((⟨r_107,0,none⟩:Addr).add 3) (.int .i64 z_114) fun h_115 =>
∃ J_116:Nat->List Value->Heap->Prop,(∃ n_118,J_116 n_118 [.int .i64 0] h_115)/\∀ (n_118:Nat) (h_119:Heap) (u_120:Nat->Value) (i_121:Int),J_116 n_118 [.int .i64 i_121] h_119->(
ldS h_119 ((⟨r_107,0,none⟩:Addr).add 8) fun x_122 x_122n x_122c =>
bcase (decide (i_121<(x_122n:Int))) (
ldS h_119 ((⟨r_107,0,none⟩:Addr).add 8) fun x_123 x_123n x_123c =>
needs (0<=i_121/\i_121<(x_123n:Int)) <|
ptr x_123 fun a_124 =>
ldI h_119 ((a_124.add (i_121.toNat*7)).add 0) .i64 fun x_125 =>
bcase (decide (x_125 > (1048476:Int))) (
C F_burinlaw14_wakes #[] h_119 (fun v_126 h_127 =>
∃ (r_128:Bool),v_126 = .bool r_128/\(
K (.bool r_128) h_127)) (Kp)) <|
ldS h_119 ((⟨r_107,0,none⟩:Addr).add 8) fun x_129 x_129n x_129c =>
needs (0<=i_121/\i_121<(x_129n:Int)) <|
ptr x_129 fun a_130 =>
ldI h_119 ((a_130.add (i_121.toNat*7)).add 1) .i64 fun x_131 =>
bcase (decide (x_131 > (1048476:Int))) (
C F_burinlaw14_wakes #[] h_119 (fun v_132 h_133 =>
∃ (r_134:Bool),v_132 = .bool r_134/\(
K (.bool r_134) h_133)) (Kp)) <|
ldS h_119 ((⟨r_107,0,none⟩:Addr).add 8) fun x_135 x_135n x_135c =>
ldS h_119 ((⟨r_107,0,none⟩:Addr).add 8) fun x_136 x_136n x_136c =>
needs (0<=i_121/\i_121<(x_136n:Int)) <|
ptr x_136 fun a_137 =>
ldI h_119 ((a_137.add (i_121.toNat*7)).add 0) .i64 fun x_138 =>
bindI (IntKind.i64.wrap (x_138+r_56)) fun z_139 =>
needs (0<=i_121/\i_121<(x_135n:Int)) <|
ptr x_135 fun a_140 =>
stV h_119 ((a_140.add (i_121.toNat*7)).add 0) (.int .i64 z_139) fun h_141 =>
ldS h_141 ((⟨r_107,0,none⟩:Addr).add 8) fun x_142 x_142n x_142c =>
ldS h_141 ((⟨r_107,0,none⟩:Addr).add 8) fun x_143 x_143n x_143c =>
needs (0<=i_121/\i_121<(x_143n:Int)) <|
ptr x_143 fun a_144 =>
ldI h_141 ((a_144.add (i_121.toNat*7)).add 1) .i64 fun x_145 =>
bindI (IntKind.i64.wrap (x_145+z_61)) fun z_146 =>
needs (0<=i_121/\i_121<(x_142n:Int)) <|
ptr x_142 fun a_147 =>
stV h_141 ((a_147.add (i_121.toNat*7)).add 1) (.int .i64 z_146) fun h_148 =>
bindI (IntKind.i64.wrap (i_121+(1:Int))) fun z_149 =>
∃ m_117,m_117<n_118/\J_116 m_117 [.int .i64 z_149] h_148) <|
ldS h_119 ((⟨r_107,0,none⟩:Addr).add 8) fun x_150 x_150n x_150c =>
ldI h_119 ((⟨r_107,0,none⟩:Addr).add 2) .i64 fun x_151 =>
newC h_119 [.int .i64 x_151, .int .i64 0, .int .i64 0, .bool false, .int .i64 0, .int .i64 0, .slice none 0 0, .int .i64 0, .int .i64 (-1048576), .int .i64 0, .bool false, .int .i64 0, .int .i64 0, .slice none 0 0] T_api_Instance fun r_152 h_153 =>
appC h_153 T_api_Instance 7 72 [.int .i64 0, .int .i64 0, .int .i64 0, .bool false, .int .i64 0, .int .i64 0, .slice none 0 0] x_150 (x_150n) (x_150c) (some ⟨r_152,0,none⟩) (2) fun q_154 q_154n q_154c h_155 =>
stV h_155 ((⟨r_107,0,none⟩:Addr).add 8) (.slice q_154 q_154n q_154c) fun h_156 =>
∃ K_157:List Value->Heap->Prop,(
ldS h_156 ((⟨r_11,0,none⟩:Addr).add 9) fun x_160 x_160n x_160c =>
bcase ((x_160n:Int) == (0:Int)) (
ldS h_156 ((⟨r_107,0,none⟩:Addr).add 8) fun x_161 x_161n x_161c =>
ldS h_156 ((⟨r_107,0,none⟩:Addr).add 8) fun x_162 x_162n x_162c =>
bindI (IntKind.i64.wrap ((x_162n:Int)-(2:Int))) fun z_163 =>
needs (0<=z_163/\z_163<=((x_161c:Nat):Int)) <|
stV h_156 ((⟨r_107,0,none⟩:Addr).add 8) (.slice (subA x_161 (x_161c) (0) 7) (z_163.toNat-0) (x_161c-0)) fun h_164 =>
K_157 [] h_164) <|
ldS h_156 ((⟨r_11,0,none⟩:Addr).add 9) fun x_165 x_165n x_165c =>
needs (0<=(0:Int)/\(0:Int)<(x_165n:Int)) <|
ptr x_165 fun a_166 =>
ldI h_156 ((a_166.add ((0:Int).toNat*3)).add 1) .i64 fun x_167 =>
bcase (decide (x_167≥(1048576:Int))) (
C F_burinlaw14_wakes #[] h_156 (fun v_168 h_169 =>
∃ (r_170:Bool),v_168 = .bool r_170/\(
K (.bool r_170) h_169)) (Kp)) <|
K_157 [] h_156)/\∀ (h_158:Heap) (u_159:Nat->Value) ,K_157 [] h_158->(
ldI h_158 ((⟨r_82,0,none⟩:Addr).add 0) .i64 fun x_171 =>
ldI h_158 ((⟨r_82,0,none⟩:Addr).add 1) .i64 fun x_172 =>
ldI h_158 ((⟨r_82,0,none⟩:Addr).add 2) .i64 fun x_173 =>
ldI h_158 ((⟨r_82,0,none⟩:Addr).add 3) .i64 fun x_174 =>
ldI h_158 ((⟨r_82,0,none⟩:Addr).add 4) .i64 fun x_175 =>
ldB h_158 ((⟨r_82,0,none⟩:Addr).add 5) fun x_176 =>
ldI h_158 ((⟨r_82,0,none⟩:Addr).add 6) .i64 fun x_177 =>
ldI h_158 ((⟨r_82,0,none⟩:Addr).add 7) .i64 fun x_178 =>
ldS h_158 ((⟨r_82,0,none⟩:Addr).add 8) fun x_179 x_179n x_179c =>
ldS h_158 ((⟨r_11,0,none⟩:Addr).add 9) fun x_180 x_180n x_180c =>
C F_text_Draw #[.agg #[.int .i64 x_171, .int .i64 x_172, .int .i64 x_173, .int .i64 x_174, .int .i64 x_175, .bool x_176, .int .i64 x_177, .int .i64 x_178, .slice x_179 x_179n x_179c], .slice x_180 x_180n x_180c] h_158 (fun v_181 h_182 =>
∃ (r_183:Int) (r_184:Int) (r_185:Option Addr) (r_185n:Nat) (r_185c:Nat),∃ (r_186:Int),v_181 = .tuple #[.agg #[.int .i64 r_183, .int .i64 r_184, .slice r_185 r_185n r_185c], .int .i64 r_186]/\(
newC h_182 [.int .i64 0, .int .i64 0, .slice none 0 0] T_api_Bitmap fun r_187 h_188 =>
stV h_188 ((⟨r_187,0,none⟩:Addr).add 0) (.int .i64 r_183) fun h_189 =>
stV h_189 ((⟨r_187,0,none⟩:Addr).add 1) (.int .i64 r_184) fun h_190 =>
stV h_190 ((⟨r_187,0,none⟩:Addr).add 2) (.slice r_185 r_185n r_185c) fun h_191 =>
ldI h_191 ((⟨r_107,0,none⟩:Addr).add 0) .i64 fun x_192 =>
ldI h_191 ((⟨r_107,0,none⟩:Addr).add 1) .i64 fun x_193 =>
ldI h_191 ((⟨r_107,0,none⟩:Addr).add 2) .i64 fun x_194 =>
ldI h_191 ((⟨r_107,0,none⟩:Addr).add 3) .i64 fun x_195 =>
ldI h_191 ((⟨r_107,0,none⟩:Addr).add 4) .i64 fun x_196 =>
ldB h_191 ((⟨r_107,0,none⟩:Addr).add 5) fun x_197 =>
ldI h_191 ((⟨r_107,0,none⟩:Addr).add 6) .i64 fun x_198 =>
ldI h_191 ((⟨r_107,0,none⟩:Addr).add 7) .i64 fun x_199 =>
ldS h_191 ((⟨r_107,0,none⟩:Addr).add 8) fun x_200 x_200n x_200c =>
ldS h_191 ((⟨r_11,0,none⟩:Addr).add 9) fun x_201 x_201n x_201c =>
C F_text_Draw #[.agg #[.int .i64 x_192, .int .i64 x_193, .int .i64 x_194, .int .i64 x_195, .int .i64 x_196, .bool x_197, .int .i64 x_198, .int .i64 x_199, .slice x_200 x_200n x_200c], .slice x_201 x_201n x_201c] h_191 (fun v_202 h_203 =>
∃ (r_204:Int) (r_205:Int) (r_206:Option Addr) (r_206n:Nat) (r_206c:Nat),∃ (r_207:Int),v_202 = .tuple #[.agg #[.int .i64 r_204, .int .i64 r_205, .slice r_206 r_206n r_206c], .int .i64 r_207]/\(
newC h_203 [.int .i64 0, .int .i64 0, .slice none 0 0] T_api_Bitmap fun r_208 h_209 =>
stV h_209 ((⟨r_208,0,none⟩:Addr).add 0) (.int .i64 r_204) fun h_210 =>
stV h_210 ((⟨r_208,0,none⟩:Addr).add 1) (.int .i64 r_205) fun h_211 =>
stV h_211 ((⟨r_208,0,none⟩:Addr).add 2) (.slice r_206 r_206n r_206c) fun h_212 =>
bcase (r_186 != (0:Int)) (
K (.bool false) h_212) <|
bcase (r_207 != (0:Int)) (
K (.bool false) h_212) <|
ldI h_212 ((⟨r_187,0,none⟩:Addr).add 0) .i64 fun x_213 =>
ldI h_212 ((⟨r_187,0,none⟩:Addr).add 1) .i64 fun x_214 =>
ldS h_212 ((⟨r_187,0,none⟩:Addr).add 2) fun x_215 x_215n x_215c =>
C F_burinref0_May #[.agg #[.int .i64 x_213, .int .i64 x_214, .slice x_215 x_215n x_215c]] h_212 (fun v_216 h_217 =>
∃ (r_218:Bool),v_216 = .bool r_218/\(
bcase (!r_218) (
K (.bool false) h_217) <|
ldI h_217 ((⟨r_208,0,none⟩:Addr).add 0) .i64 fun x_219 =>
ldI h_217 ((⟨r_208,0,none⟩:Addr).add 1) .i64 fun x_220 =>
ldS h_217 ((⟨r_208,0,none⟩:Addr).add 2) fun x_221 x_221n x_221c =>
C F_burinref0_May #[.agg #[.int .i64 x_219, .int .i64 x_220, .slice x_221 x_221n x_221c]] h_217 (fun v_222 h_223 =>
∃ (r_224:Bool),v_222 = .bool r_224/\(
bcase (!r_224) (
K (.bool false) h_223) <|
ldI h_223 ((⟨r_187,0,none⟩:Addr).add 0) .i64 fun x_225 =>
ldI h_223 ((⟨r_82,0,none⟩:Addr).add 2) .i64 fun x_226 =>
bcase (x_225 != x_226) (
K (.bool false) h_223) <|
ldI h_223 ((⟨r_208,0,none⟩:Addr).add 0) .i64 fun x_227 =>
ldI h_223 ((⟨r_107,0,none⟩:Addr).add 2) .i64 fun x_228 =>
bcase (x_227 != x_228) (
K (.bool false) h_223) <|
ldI h_223 ((⟨r_187,0,none⟩:Addr).add 1) .i64 fun x_229 =>
ldI h_223 ((⟨r_82,0,none⟩:Addr).add 3) .i64 fun x_230 =>
bcase (x_229 != x_230) (
K (.bool false) h_223) <|
ldI h_223 ((⟨r_208,0,none⟩:Addr).add 1) .i64 fun x_231 =>
ldI h_223 ((⟨r_107,0,none⟩:Addr).add 3) .i64 fun x_232 =>
bcase (x_231 != x_232) (
K (.bool false) h_223) <|
∃ J_233:Nat->List Value->Heap->Prop,(∃ n_235,J_233 n_235 [.int .i64 0] h_223)/\∀ (n_235:Nat) (h_236:Heap) (u_237:Nat->Value) (j_238:Int),J_233 n_235 [.int .i64 j_238] h_236->(
ldI h_236 ((⟨r_82,0,none⟩:Addr).add 3) .i64 fun x_239 =>
bcase (decide (j_238<x_239)) (
∃ J_240:Nat->List Value->Heap->Prop,(∃ n_242,J_240 n_242 [.int .i64 0] h_236)/\∀ (n_242:Nat) (h_243:Heap) (u_244:Nat->Value) (i_245:Int),J_240 n_242 [.int .i64 i_245] h_243->(
ldI h_243 ((⟨r_82,0,none⟩:Addr).add 2) .i64 fun x_246 =>
bcase (decide (i_245<x_246)) (
bindI (IntKind.i64.wrap (i_245+r_56)) fun z_247 =>
bindI (IntKind.i64.wrap (j_238+z_61)) fun z_248 =>
ldI h_243 ((⟨r_187,0,none⟩:Addr).add 0) .i64 fun x_249 =>
ldI h_243 ((⟨r_187,0,none⟩:Addr).add 1) .i64 fun x_250 =>
ldS h_243 ((⟨r_187,0,none⟩:Addr).add 2) fun x_251 x_251n x_251c =>
ldI h_243 ((⟨r_208,0,none⟩:Addr).add 0) .i64 fun x_252 =>
ldI h_243 ((⟨r_208,0,none⟩:Addr).add 1) .i64 fun x_253 =>
ldS h_243 ((⟨r_208,0,none⟩:Addr).add 2) fun x_254 x_254n x_254c =>
C F_burinref0_Get #[.agg #[.int .i64 x_249, .int .i64 x_250, .slice x_251 x_251n x_251c], .int .i64 i_245, .int .i64 j_238] h_243 (fun v_255 h_256 =>
∃ (r_257:Int),v_255 = .int .i64 r_257/\(
hext h_243 h_256/\(
C F_burinref0_Get #[.agg #[.int .i64 x_252, .int .i64 x_253, .slice x_254 x_254n x_254c], .int .i64 z_247, .int .i64 z_248] h_256 (fun v_258 h_259 =>
∃ (r_260:Int),v_258 = .int .i64 r_260/\(
bcase (r_257 != r_260) (
K (.bool false) h_259) <|
bindI (IntKind.i64.wrap (i_245+(1:Int))) fun z_261 =>
∃ m_241,m_241<n_242/\J_240 m_241 [.int .i64 z_261] h_259)) (Kp)))) (Kp)) <|
bindI (IntKind.i64.wrap (j_238+(1:Int))) fun z_262 =>
∃ m_234,m_234<n_235/\J_233 m_234 [.int .i64 z_262] h_243)) <|
C F_burinlaw14_wakes #[] h_236 (fun v_263 h_264 =>
∃ (r_265:Bool),v_263 = .bool r_265/\(
K (.bool r_265) h_264)) (Kp)))) (Kp))) (Kp))) (Kp))) (Kp))))) (Kp))) (Kp))) (Kp))) (Kp))) (Kp))) (Kp)
end Go.Den.YtbknfejmdekhpaaGreat
namespace Go.Den.YtbknfejmdekhpaaGreat
open Go Go.Den
theorem call_burinlaw14_TextMoved {p_1:Int} {p_2:Int} {p_3:Int} {p_4:Int} {p_5:Int} {p_6:Bool} {p_7:Int} {p_8:Int} {p_9:Option Addr} {p_9n:Nat} {p_9c:Nat} {p_10:Option Addr} {p_10n:Nat} {p_10c:Nat} {h:Heap} {K:VK} {Kp:PK} (H:burinlaw14_TextMoved (CallsHP Go.Proofs.Tryz.prog) p_1 p_2 p_3 p_4 p_5 p_6 p_7 p_8 p_9 p_9n p_9c p_10 p_10n p_10c h K Kp):CallsHP Go.Proofs.Tryz.prog F_burinlaw14_TextMoved #[.agg #[.int .i64 p_1, .int .i64 p_2, .int .i64 p_3, .int .i64 p_4, .int .i64 p_5, .bool p_6, .int .i64 p_7, .int .i64 p_8, .slice p_9 p_9n p_9c, .slice p_10 p_10n p_10c]] h K Kp :=
 callsHP_ofE (Hints.mk (fun i=>bif Nat.beq i 16 then some ([13], .take 0 <| .take 2 <| .take 3 <| .take 5 <| .take 9 <| .take 1 <| .take 4 <| .take 6 <| .take 7 <| .take 8 <| .take 10 <| .take 11 <| .take 12 <| .bar 13 [] <| .done) else (bif Nat.beq i 17 then some ([13], .take 0 <| .take 2 <| .take 3 <| .take 5 <| .take 9 <| .take 1 <| .take 4 <| .take 6 <| .take 7 <| .take 8 <| .take 10 <| .take 11 <| .take 12 <| .bar 13 [] <| .done) else (bif Nat.beq i 33 then some ([11], .take 1 <| .take 2 <| .take 5 <| .take 6 <| .take 7 <| .take 8 <| .take 9 <| .take 10 <| .take 0 <| .take 4 <| .go 3 <| .bar 11 [] <| .take 12 <| .done) else (none)))) (fun i=>bif Nat.beq i 12 then some ([(7, .int .i64)],20769187434139292067377911607328900) else (bif Nat.beq i 28 then some ([(12, .int .i64)],53919891727363235330343754632077169006111686322878151179414385209348) else (bif Nat.beq i 31 then some ([(13, .int .i64)],53919790490266447013956395488465351512867727424089542863465761218564) else (none)))) (fun i=>bif Nat.beq i 23 then some ([],5575175665808689506056946337705608133738500) else (none)) []) (by kernel_rfl) Go.Proofs.Tryz.func9 (by kernel_rfl) (fun C=>burinlaw14_TextMoved C p_1 p_2 p_3 p_4 p_5 p_6 p_7 p_8 p_9 p_9n p_9c p_10 p_10n p_10c h K Kp) (fun C=>by kernel_rfl) H
end Go.Den.YtbknfejmdekhpaaGreat
