/- The given statement DictBackSaid is proved of the given program; there are no further conditions. W7: put together by wip/tools/bundle.py: Mlaw13DictBack Blaw13DictBack DcV ArLink2 DcBack. -/
import Derived.Test.YtfaclehehhgpcaaGreatW1
import Derived.Test.YtfaclehehhgpcaaGreatW2
import Derived.Test.YtfaclehehhgpcaaGreatW3
import Derived.Test.YtfaclehehhgpcaaGreatW4
import Derived.Test.YtfaclehehhgpcaaGreatW5
import Derived.Test.YtfaclehehhgpcaaGreatW6
import Derived.Test.YtfaclehehhgpcaaGreatProg
import Derived.WalkKit
import Derived.ProofKit
import Derived.OpenShut
import Derived.Carry
import Derived.Deep.SlicePairs
import Derived.Lib.SmallJoins
import Derived.Test.YtfaclehehhgpcaaGreatRows
set_option linter.unusedVariables false
set_option linter.unusedSimpArgs false
set_option maxRecDepth 100000
namespace Go.Den.YtfaclehehhgpcaaGreat
open Go Go.Den
def burinlaw13_DictBack (C:CallP) (a0_1:Int) (a0_2:Option Addr) (a0_2n:Nat) (a0_2c:Nat) (a0_3:Option Addr) (a0_3n:Nat) (a0_3c:Nat) (a0_4:Option Addr) (a0_4n:Nat) (a0_4c:Nat) (h:Heap) (K:VK) (Kp:PK):Prop :=
newC h [.int .i64 a0_1, .slice a0_2 a0_2n a0_2c, .slice a0_3 a0_3n a0_3c, .slice a0_4 a0_4n a0_4c] T_burinlaw13_Ask fun r_5 h_6 =>
ldS h_6 (((⟨r_5,0,none⟩:Addr).add 0).add 1) fun x_7 x_7n x_7c =>
C F_burinlaw13_light #[.slice x_7 x_7n x_7c] h_6 (fun v_8 h_9 =>
∃ (r_10:Bool),v_8 = .bool r_10/\(
bcase (!r_10) (
C F_burinlaw13_wakes #[] h_9 (fun v_11 h_12 =>
∃ (r_13:Bool),v_11 = .bool r_13/\(
K (.bool r_13) h_12)) (Kp)) <|
ldS h_9 ((⟨r_5,0,none⟩:Addr).add 3) fun x_14 x_14n x_14c =>
C F_burinlaw13_light #[.slice x_14 x_14n x_14c] h_9 (fun v_15 h_16 =>
∃ (r_17:Bool),v_15 = .bool r_17/\(
bcase (!r_17) (
C F_burinlaw13_wakes #[] h_16 (fun v_18 h_19 =>
∃ (r_20:Bool),v_18 = .bool r_20/\(
K (.bool r_20) h_19)) (Kp)) <|
ldI h_16 (((⟨r_5,0,none⟩:Addr).add 0).add 0) .i64 fun x_21 =>
ldS h_16 (((⟨r_5,0,none⟩:Addr).add 0).add 1) fun x_22 x_22n x_22c =>
ldS h_16 (((⟨r_5,0,none⟩:Addr).add 0).add 2) fun x_23 x_23n x_23c =>
ldS h_16 ((⟨r_5,0,none⟩:Addr).add 3) fun x_24 x_24n x_24c =>
C F_dict_Encode #[.agg #[.int .i64 x_21, .slice x_22 x_22n x_22c, .slice x_23 x_23n x_23c], .slice x_24 x_24n x_24c] h_16 (fun v_25 h_26 =>
∃ (r_27:Option Addr) (r_27n:Nat) (r_27c:Nat),∃ (r_28:Int),v_25 = .tuple #[.slice r_27 r_27n r_27c, .int .i64 r_28]/\(
bcase (r_28 != (0:Int)) (
bcase ((r_27n:Int) == (0:Int)) (
C F_burinlaw13_wakes #[] h_26 (fun v_29 h_30 =>
∃ (r_31:Bool),v_29 = .bool r_31/\(
K (.bool r_31) h_30)) (Kp)) <|
K (.bool false) h_26) <|
ldS h_26 ((⟨r_5,0,none⟩:Addr).add 3) fun x_32 x_32n x_32c =>
(
C F_burinref0_Copy #[.slice r_27 r_27n r_27c] h_26 (fun v_33 h_34 =>
∃ (r_35:Option Addr) (r_35n:Nat) (r_35c:Nat),v_33 = .slice r_35 r_35n r_35c/\(
hext h_26 h_34/\(
(
C F_dict_Decode #[.slice r_35 r_35n r_35c, .slice x_32 x_32n x_32c] h_34 (fun v_36 h_37 =>
∃ (r_38:Int) (r_39:Option Addr) (r_39n:Nat) (r_39c:Nat) (r_40:Option Addr) (r_40n:Nat) (r_40c:Nat),∃ (r_41:Int),v_36 = .tuple #[.agg #[.int .i64 r_38, .slice r_39 r_39n r_39c, .slice r_40 r_40n r_40c], .int .i64 r_41]/\(
hext h_34 h_37/\(
newC h_37 [.int .i64 0, .slice none 0 0, .slice none 0 0] T_api_Dict fun r_42 h_43 =>
stV h_43 ((⟨r_42,0,none⟩:Addr).add 0) (.int .i64 r_38) fun h_44 =>
stV h_44 ((⟨r_42,0,none⟩:Addr).add 1) (.slice r_39 r_39n r_39c) fun h_45 =>
stV h_45 ((⟨r_42,0,none⟩:Addr).add 2) (.slice r_40 r_40n r_40c) fun h_46 =>
ldI h_46 ((⟨r_42,0,none⟩:Addr).add 0) .i64 fun x_47 =>
ldS h_46 ((⟨r_42,0,none⟩:Addr).add 1) fun x_48 x_48n x_48c =>
ldS h_46 ((⟨r_42,0,none⟩:Addr).add 2) fun x_49 x_49n x_49c =>
ldS h_46 ((⟨r_5,0,none⟩:Addr).add 3) fun x_50 x_50n x_50c =>
C F_dict_Exported #[.agg #[.int .i64 x_47, .slice x_48 x_48n x_48c, .slice x_49 x_49n x_49c], .slice x_50 x_50n x_50c] h_46 (fun v_51 h_52 =>
∃ (r_53:Option Addr) (r_53n:Nat) (r_53c:Nat),∃ (r_54:Int),v_51 = .tuple #[.slice r_53 r_53n r_53c, .int .i64 r_54]/\(
bcase (r_41 != (0:Int)) (
K (.bool false) h_52) <|
bcase (r_54 != (0:Int)) (
K (.bool false) h_52) <|
ldI h_52 ((⟨r_42,0,none⟩:Addr).add 0) .i64 fun x_55 =>
ldS h_52 ((⟨r_42,0,none⟩:Addr).add 1) fun x_56 x_56n x_56c =>
ldS h_52 ((⟨r_42,0,none⟩:Addr).add 2) fun x_57 x_57n x_57c =>
ldI h_52 (((⟨r_5,0,none⟩:Addr).add 0).add 0) .i64 fun x_58 =>
ldS h_52 (((⟨r_5,0,none⟩:Addr).add 0).add 1) fun x_59 x_59n x_59c =>
ldS h_52 (((⟨r_5,0,none⟩:Addr).add 0).add 2) fun x_60 x_60n x_60c =>
C F_burinref0_EqDict #[.agg #[.int .i64 x_55, .slice x_56 x_56n x_56c, .slice x_57 x_57n x_57c], .agg #[.int .i64 x_58, .slice x_59 x_59n x_59c, .slice x_60 x_60n x_60c]] h_52 (fun v_61 h_62 =>
∃ (r_63:Bool),v_61 = .bool r_63/\(
bcase (!r_63) (
K (.bool false) h_62) <|
∃ J_64:Nat->List Value->Heap->Prop,(∃ n_66,J_64 n_66 [.int .i64 0, .int .i64 0] h_62)/\∀ (n_66:Nat) (h_67:Heap) (u_68:Nat->Value) (x_69:Int) (x_70:Int),J_64 n_66 [.int .i64 x_69, .int .i64 x_70] h_67->(
ldS h_67 (((⟨r_5,0,none⟩:Addr).add 0).add 2) fun x_71 x_71n x_71c =>
bcase (decide (x_70<(x_71n:Int))) (
ldS h_67 (((⟨r_5,0,none⟩:Addr).add 0).add 2) fun x_72 x_72n x_72c =>
needs (0<=x_70/\x_70<(x_72n:Int)) <|
ptr x_72 fun a_73 =>
ldB h_67 (a_73.add (x_70.toNat*1)) fun x_74 =>
bcase (!x_74) (
bindI (IntKind.i64.wrap (x_70+(1:Int))) fun z_75 =>
∃ m_65,m_65<n_66/\J_64 m_65 [.int .i64 x_69, .int .i64 z_75] h_67) <|
C F_burinref0_White #[.int .i64 1, .int .i64 1] h_67 (fun v_76 h_77 =>
∃ (r_78:Int) (r_79:Int) (r_80:Option Addr) (r_80n:Nat) (r_80c:Nat),v_76 = .agg #[.int .i64 r_78, .int .i64 r_79, .slice r_80 r_80n r_80c]/\(
newC h_77 [.int .i64 0, .int .i64 0, .slice none 0 0] T_api_Bitmap fun r_81 h_82 =>
stV h_82 ((⟨r_81,0,none⟩:Addr).add 0) (.int .i64 r_78) fun h_83 =>
stV h_83 ((⟨r_81,0,none⟩:Addr).add 1) (.int .i64 r_79) fun h_84 =>
stV h_84 ((⟨r_81,0,none⟩:Addr).add 2) (.slice r_80 r_80n r_80c) fun h_85 =>
∃ K_86:List Value->Heap->Prop,(
ldS h_85 ((⟨r_5,0,none⟩:Addr).add 3) fun x_89 x_89n x_89c =>
bcase (decide (x_70<(x_89n:Int))) (
ldS h_85 ((⟨r_5,0,none⟩:Addr).add 3) fun x_90 x_90n x_90c =>
needs (0<=x_70/\x_70<(x_90n:Int)) <|
ptr x_90 fun a_91 =>
ldI h_85 ((a_91.add (x_70.toNat*3)).add 0) .i64 fun x_92 =>
ldI h_85 ((a_91.add (x_70.toNat*3)).add 1) .i64 fun x_93 =>
ldS h_85 ((a_91.add (x_70.toNat*3)).add 2) fun x_94 x_94n x_94c =>
stV h_85 ((⟨r_81,0,none⟩:Addr).add 0) (.int .i64 x_92) fun h_95 =>
stV h_95 ((⟨r_81,0,none⟩:Addr).add 1) (.int .i64 x_93) fun h_96 =>
stV h_96 ((⟨r_81,0,none⟩:Addr).add 2) (.slice x_94 x_94n x_94c) fun h_97 =>
K_86 [] h_97) <|
ldS h_85 (((⟨r_5,0,none⟩:Addr).add 0).add 1) fun x_98 x_98n x_98c =>
ldS h_85 ((⟨r_5,0,none⟩:Addr).add 3) fun x_99 x_99n x_99c =>
bindI (IntKind.i64.wrap (x_70-(x_99n:Int))) fun z_100 =>
needs (0<=z_100/\z_100<(x_98n:Int)) <|
ptr x_98 fun a_101 =>
ldI h_85 ((a_101.add (z_100.toNat*3)).add 0) .i64 fun x_102 =>
ldI h_85 ((a_101.add (z_100.toNat*3)).add 1) .i64 fun x_103 =>
ldS h_85 ((a_101.add (z_100.toNat*3)).add 2) fun x_104 x_104n x_104c =>
stV h_85 ((⟨r_81,0,none⟩:Addr).add 0) (.int .i64 x_102) fun h_105 =>
stV h_105 ((⟨r_81,0,none⟩:Addr).add 1) (.int .i64 x_103) fun h_106 =>
stV h_106 ((⟨r_81,0,none⟩:Addr).add 2) (.slice x_104 x_104n x_104c) fun h_107 =>
K_86 [] h_107)/\∀ (h_87:Heap) (u_88:Nat->Value) ,K_86 [] h_87->(
bcase (decide (x_69≥(r_53n:Int))) (
K (.bool false) h_87) <|
needs (0<=x_69/\x_69<(r_53n:Int)) <|
ptr r_53 fun a_108 =>
ldI h_87 ((a_108.add (x_69.toNat*3)).add 0) .i64 fun x_109 =>
ldI h_87 ((a_108.add (x_69.toNat*3)).add 1) .i64 fun x_110 =>
ldS h_87 ((a_108.add (x_69.toNat*3)).add 2) fun x_111 x_111n x_111c =>
ldI h_87 ((⟨r_81,0,none⟩:Addr).add 0) .i64 fun x_112 =>
ldI h_87 ((⟨r_81,0,none⟩:Addr).add 1) .i64 fun x_113 =>
ldS h_87 ((⟨r_81,0,none⟩:Addr).add 2) fun x_114 x_114n x_114c =>
C F_burinref0_EqBitmap #[.agg #[.int .i64 x_109, .int .i64 x_110, .slice x_111 x_111n x_111c], .agg #[.int .i64 x_112, .int .i64 x_113, .slice x_114 x_114n x_114c]] h_87 (fun v_115 h_116 =>
∃ (r_117:Bool),v_115 = .bool r_117/\(
bcase (!r_117) (
K (.bool false) h_116) <|
bindI (IntKind.i64.wrap (x_69+(1:Int))) fun z_118 =>
bindI (IntKind.i64.wrap (x_70+(1:Int))) fun z_119 =>
∃ m_65,m_65<n_66/\J_64 m_65 [.int .i64 z_118, .int .i64 z_119] h_116)) (Kp)))) (Kp)) <|
bcase (x_69 == (r_53n:Int)) (
C F_burinlaw13_wakes #[] h_67 (fun v_120 h_121 =>
∃ (r_122:Bool),v_120 = .bool r_122/\(
K (.bool r_122) h_121)) (Kp)) <|
K (.bool false) h_67))) (Kp))) (Kp)))) (Kp))/\(
newC h_34 [.int .i64 0, .slice none 0 0, .slice none 0 0] T_api_Dict fun r_123 h_124 =>
C F_dict_Decode #[.slice r_35 r_35n r_35c, .slice x_32 x_32n x_32c] h_124 (fun v_125 h_126 =>
∃ (r_127:Int) (r_128:Option Addr) (r_128n:Nat) (r_128c:Nat) (r_129:Option Addr) (r_129n:Nat) (r_129c:Nat),∃ (r_130:Int),v_125 = .tuple #[.agg #[.int .i64 r_127, .slice r_128 r_128n r_128c, .slice r_129 r_129n r_129c], .int .i64 r_130]/\(
hext h_124 h_126/\(
stV h_126 ((⟨r_123,0,none⟩:Addr).add 0) (.int .i64 r_127) fun h_131 =>
stV h_131 ((⟨r_123,0,none⟩:Addr).add 1) (.slice r_128 r_128n r_128c) fun h_132 =>
stV h_132 ((⟨r_123,0,none⟩:Addr).add 2) (.slice r_129 r_129n r_129c) fun h_133 =>
ldI h_133 ((⟨r_123,0,none⟩:Addr).add 0) .i64 fun x_134 =>
ldS h_133 ((⟨r_123,0,none⟩:Addr).add 1) fun x_135 x_135n x_135c =>
ldS h_133 ((⟨r_123,0,none⟩:Addr).add 2) fun x_136 x_136n x_136c =>
ldS h_133 ((⟨r_5,0,none⟩:Addr).add 3) fun x_137 x_137n x_137c =>
C F_dict_Exported #[.agg #[.int .i64 x_134, .slice x_135 x_135n x_135c, .slice x_136 x_136n x_136c], .slice x_137 x_137n x_137c] h_133 (fun v_138 h_139 =>
∃ (r_140:Option Addr) (r_140n:Nat) (r_140c:Nat),∃ (r_141:Int),v_138 = .tuple #[.slice r_140 r_140n r_140c, .int .i64 r_141]/\(
bcase (r_130 != (0:Int)) (
K (.bool false) h_139) <|
bcase (r_141 != (0:Int)) (
K (.bool false) h_139) <|
ldI h_139 ((⟨r_123,0,none⟩:Addr).add 0) .i64 fun x_142 =>
ldS h_139 ((⟨r_123,0,none⟩:Addr).add 1) fun x_143 x_143n x_143c =>
ldS h_139 ((⟨r_123,0,none⟩:Addr).add 2) fun x_144 x_144n x_144c =>
ldI h_139 (((⟨r_5,0,none⟩:Addr).add 0).add 0) .i64 fun x_145 =>
ldS h_139 (((⟨r_5,0,none⟩:Addr).add 0).add 1) fun x_146 x_146n x_146c =>
ldS h_139 (((⟨r_5,0,none⟩:Addr).add 0).add 2) fun x_147 x_147n x_147c =>
C F_burinref0_EqDict #[.agg #[.int .i64 x_142, .slice x_143 x_143n x_143c, .slice x_144 x_144n x_144c], .agg #[.int .i64 x_145, .slice x_146 x_146n x_146c, .slice x_147 x_147n x_147c]] h_139 (fun v_148 h_149 =>
∃ (r_150:Bool),v_148 = .bool r_150/\(
bcase (!r_150) (
K (.bool false) h_149) <|
∃ J_151:Nat->List Value->Heap->Prop,(∃ n_153,J_151 n_153 [.int .i64 0, .int .i64 0] h_149)/\∀ (n_153:Nat) (h_154:Heap) (u_155:Nat->Value) (x_156:Int) (x_157:Int),J_151 n_153 [.int .i64 x_156, .int .i64 x_157] h_154->(
ldS h_154 (((⟨r_5,0,none⟩:Addr).add 0).add 2) fun x_158 x_158n x_158c =>
bcase (decide (x_157<(x_158n:Int))) (
ldS h_154 (((⟨r_5,0,none⟩:Addr).add 0).add 2) fun x_159 x_159n x_159c =>
needs (0<=x_157/\x_157<(x_159n:Int)) <|
ptr x_159 fun a_160 =>
ldB h_154 (a_160.add (x_157.toNat*1)) fun x_161 =>
bcase (!x_161) (
bindI (IntKind.i64.wrap (x_157+(1:Int))) fun z_162 =>
∃ m_152,m_152<n_153/\J_151 m_152 [.int .i64 x_156, .int .i64 z_162] h_154) <|
C F_burinref0_White #[.int .i64 1, .int .i64 1] h_154 (fun v_163 h_164 =>
∃ (r_165:Int) (r_166:Int) (r_167:Option Addr) (r_167n:Nat) (r_167c:Nat),v_163 = .agg #[.int .i64 r_165, .int .i64 r_166, .slice r_167 r_167n r_167c]/\(
newC h_164 [.int .i64 0, .int .i64 0, .slice none 0 0] T_api_Bitmap fun r_168 h_169 =>
stV h_169 ((⟨r_168,0,none⟩:Addr).add 0) (.int .i64 r_165) fun h_170 =>
stV h_170 ((⟨r_168,0,none⟩:Addr).add 1) (.int .i64 r_166) fun h_171 =>
stV h_171 ((⟨r_168,0,none⟩:Addr).add 2) (.slice r_167 r_167n r_167c) fun h_172 =>
∃ K_173:List Value->Heap->Prop,(
ldS h_172 ((⟨r_5,0,none⟩:Addr).add 3) fun x_176 x_176n x_176c =>
bcase (decide (x_157<(x_176n:Int))) (
ldS h_172 ((⟨r_5,0,none⟩:Addr).add 3) fun x_177 x_177n x_177c =>
needs (0<=x_157/\x_157<(x_177n:Int)) <|
ptr x_177 fun a_178 =>
ldI h_172 ((a_178.add (x_157.toNat*3)).add 0) .i64 fun x_179 =>
ldI h_172 ((a_178.add (x_157.toNat*3)).add 1) .i64 fun x_180 =>
ldS h_172 ((a_178.add (x_157.toNat*3)).add 2) fun x_181 x_181n x_181c =>
stV h_172 ((⟨r_168,0,none⟩:Addr).add 0) (.int .i64 x_179) fun h_182 =>
stV h_182 ((⟨r_168,0,none⟩:Addr).add 1) (.int .i64 x_180) fun h_183 =>
stV h_183 ((⟨r_168,0,none⟩:Addr).add 2) (.slice x_181 x_181n x_181c) fun h_184 =>
K_173 [] h_184) <|
ldS h_172 (((⟨r_5,0,none⟩:Addr).add 0).add 1) fun x_185 x_185n x_185c =>
ldS h_172 ((⟨r_5,0,none⟩:Addr).add 3) fun x_186 x_186n x_186c =>
bindI (IntKind.i64.wrap (x_157-(x_186n:Int))) fun z_187 =>
needs (0<=z_187/\z_187<(x_185n:Int)) <|
ptr x_185 fun a_188 =>
ldI h_172 ((a_188.add (z_187.toNat*3)).add 0) .i64 fun x_189 =>
ldI h_172 ((a_188.add (z_187.toNat*3)).add 1) .i64 fun x_190 =>
ldS h_172 ((a_188.add (z_187.toNat*3)).add 2) fun x_191 x_191n x_191c =>
stV h_172 ((⟨r_168,0,none⟩:Addr).add 0) (.int .i64 x_189) fun h_192 =>
stV h_192 ((⟨r_168,0,none⟩:Addr).add 1) (.int .i64 x_190) fun h_193 =>
stV h_193 ((⟨r_168,0,none⟩:Addr).add 2) (.slice x_191 x_191n x_191c) fun h_194 =>
K_173 [] h_194)/\∀ (h_174:Heap) (u_175:Nat->Value) ,K_173 [] h_174->(
bcase (decide (x_156≥(r_140n:Int))) (
K (.bool false) h_174) <|
needs (0<=x_156/\x_156<(r_140n:Int)) <|
ptr r_140 fun a_195 =>
ldI h_174 ((a_195.add (x_156.toNat*3)).add 0) .i64 fun x_196 =>
ldI h_174 ((a_195.add (x_156.toNat*3)).add 1) .i64 fun x_197 =>
ldS h_174 ((a_195.add (x_156.toNat*3)).add 2) fun x_198 x_198n x_198c =>
ldI h_174 ((⟨r_168,0,none⟩:Addr).add 0) .i64 fun x_199 =>
ldI h_174 ((⟨r_168,0,none⟩:Addr).add 1) .i64 fun x_200 =>
ldS h_174 ((⟨r_168,0,none⟩:Addr).add 2) fun x_201 x_201n x_201c =>
C F_burinref0_EqBitmap #[.agg #[.int .i64 x_196, .int .i64 x_197, .slice x_198 x_198n x_198c], .agg #[.int .i64 x_199, .int .i64 x_200, .slice x_201 x_201n x_201c]] h_174 (fun v_202 h_203 =>
∃ (r_204:Bool),v_202 = .bool r_204/\(
bcase (!r_204) (
K (.bool false) h_203) <|
bindI (IntKind.i64.wrap (x_156+(1:Int))) fun z_205 =>
bindI (IntKind.i64.wrap (x_157+(1:Int))) fun z_206 =>
∃ m_152,m_152<n_153/\J_151 m_152 [.int .i64 z_205, .int .i64 z_206] h_203)) (Kp)))) (Kp)) <|
bcase (x_156 == (r_140n:Int)) (
C F_burinlaw13_wakes #[] h_154 (fun v_207 h_208 =>
∃ (r_209:Bool),v_207 = .bool r_209/\(
K (.bool r_209) h_208)) (Kp)) <|
K (.bool false) h_154))) (Kp))) (Kp)))) (Kp))))) (Kp))/\(
newC h_26 [.int .i64 0, .slice none 0 0, .slice none 0 0] T_api_Dict fun r_210 h_211 =>
C F_burinref0_Copy #[.slice r_27 r_27n r_27c] h_211 (fun v_212 h_213 =>
∃ (r_214:Option Addr) (r_214n:Nat) (r_214c:Nat),v_212 = .slice r_214 r_214n r_214c/\(
hext h_211 h_213/\(
C F_dict_Decode #[.slice r_214 r_214n r_214c, .slice x_32 x_32n x_32c] h_213 (fun v_215 h_216 =>
∃ (r_217:Int) (r_218:Option Addr) (r_218n:Nat) (r_218c:Nat) (r_219:Option Addr) (r_219n:Nat) (r_219c:Nat),∃ (r_220:Int),v_215 = .tuple #[.agg #[.int .i64 r_217, .slice r_218 r_218n r_218c, .slice r_219 r_219n r_219c], .int .i64 r_220]/\(
hext h_213 h_216/\(
stV h_216 ((⟨r_210,0,none⟩:Addr).add 0) (.int .i64 r_217) fun h_221 =>
stV h_221 ((⟨r_210,0,none⟩:Addr).add 1) (.slice r_218 r_218n r_218c) fun h_222 =>
stV h_222 ((⟨r_210,0,none⟩:Addr).add 2) (.slice r_219 r_219n r_219c) fun h_223 =>
ldI h_223 ((⟨r_210,0,none⟩:Addr).add 0) .i64 fun x_224 =>
ldS h_223 ((⟨r_210,0,none⟩:Addr).add 1) fun x_225 x_225n x_225c =>
ldS h_223 ((⟨r_210,0,none⟩:Addr).add 2) fun x_226 x_226n x_226c =>
ldS h_223 ((⟨r_5,0,none⟩:Addr).add 3) fun x_227 x_227n x_227c =>
C F_dict_Exported #[.agg #[.int .i64 x_224, .slice x_225 x_225n x_225c, .slice x_226 x_226n x_226c], .slice x_227 x_227n x_227c] h_223 (fun v_228 h_229 =>
∃ (r_230:Option Addr) (r_230n:Nat) (r_230c:Nat),∃ (r_231:Int),v_228 = .tuple #[.slice r_230 r_230n r_230c, .int .i64 r_231]/\(
bcase (r_220 != (0:Int)) (
K (.bool false) h_229) <|
bcase (r_231 != (0:Int)) (
K (.bool false) h_229) <|
ldI h_229 ((⟨r_210,0,none⟩:Addr).add 0) .i64 fun x_232 =>
ldS h_229 ((⟨r_210,0,none⟩:Addr).add 1) fun x_233 x_233n x_233c =>
ldS h_229 ((⟨r_210,0,none⟩:Addr).add 2) fun x_234 x_234n x_234c =>
ldI h_229 (((⟨r_5,0,none⟩:Addr).add 0).add 0) .i64 fun x_235 =>
ldS h_229 (((⟨r_5,0,none⟩:Addr).add 0).add 1) fun x_236 x_236n x_236c =>
ldS h_229 (((⟨r_5,0,none⟩:Addr).add 0).add 2) fun x_237 x_237n x_237c =>
C F_burinref0_EqDict #[.agg #[.int .i64 x_232, .slice x_233 x_233n x_233c, .slice x_234 x_234n x_234c], .agg #[.int .i64 x_235, .slice x_236 x_236n x_236c, .slice x_237 x_237n x_237c]] h_229 (fun v_238 h_239 =>
∃ (r_240:Bool),v_238 = .bool r_240/\(
bcase (!r_240) (
K (.bool false) h_239) <|
∃ J_241:Nat->List Value->Heap->Prop,(∃ n_243,J_241 n_243 [.int .i64 0, .int .i64 0] h_239)/\∀ (n_243:Nat) (h_244:Heap) (u_245:Nat->Value) (x_246:Int) (x_247:Int),J_241 n_243 [.int .i64 x_246, .int .i64 x_247] h_244->(
ldS h_244 (((⟨r_5,0,none⟩:Addr).add 0).add 2) fun x_248 x_248n x_248c =>
bcase (decide (x_247<(x_248n:Int))) (
ldS h_244 (((⟨r_5,0,none⟩:Addr).add 0).add 2) fun x_249 x_249n x_249c =>
needs (0<=x_247/\x_247<(x_249n:Int)) <|
ptr x_249 fun a_250 =>
ldB h_244 (a_250.add (x_247.toNat*1)) fun x_251 =>
bcase (!x_251) (
bindI (IntKind.i64.wrap (x_247+(1:Int))) fun z_252 =>
∃ m_242,m_242<n_243/\J_241 m_242 [.int .i64 x_246, .int .i64 z_252] h_244) <|
C F_burinref0_White #[.int .i64 1, .int .i64 1] h_244 (fun v_253 h_254 =>
∃ (r_255:Int) (r_256:Int) (r_257:Option Addr) (r_257n:Nat) (r_257c:Nat),v_253 = .agg #[.int .i64 r_255, .int .i64 r_256, .slice r_257 r_257n r_257c]/\(
newC h_254 [.int .i64 0, .int .i64 0, .slice none 0 0] T_api_Bitmap fun r_258 h_259 =>
stV h_259 ((⟨r_258,0,none⟩:Addr).add 0) (.int .i64 r_255) fun h_260 =>
stV h_260 ((⟨r_258,0,none⟩:Addr).add 1) (.int .i64 r_256) fun h_261 =>
stV h_261 ((⟨r_258,0,none⟩:Addr).add 2) (.slice r_257 r_257n r_257c) fun h_262 =>
∃ K_263:List Value->Heap->Prop,(
ldS h_262 ((⟨r_5,0,none⟩:Addr).add 3) fun x_266 x_266n x_266c =>
bcase (decide (x_247<(x_266n:Int))) (
ldS h_262 ((⟨r_5,0,none⟩:Addr).add 3) fun x_267 x_267n x_267c =>
needs (0<=x_247/\x_247<(x_267n:Int)) <|
ptr x_267 fun a_268 =>
ldI h_262 ((a_268.add (x_247.toNat*3)).add 0) .i64 fun x_269 =>
ldI h_262 ((a_268.add (x_247.toNat*3)).add 1) .i64 fun x_270 =>
ldS h_262 ((a_268.add (x_247.toNat*3)).add 2) fun x_271 x_271n x_271c =>
stV h_262 ((⟨r_258,0,none⟩:Addr).add 0) (.int .i64 x_269) fun h_272 =>
stV h_272 ((⟨r_258,0,none⟩:Addr).add 1) (.int .i64 x_270) fun h_273 =>
stV h_273 ((⟨r_258,0,none⟩:Addr).add 2) (.slice x_271 x_271n x_271c) fun h_274 =>
K_263 [] h_274) <|
ldS h_262 (((⟨r_5,0,none⟩:Addr).add 0).add 1) fun x_275 x_275n x_275c =>
ldS h_262 ((⟨r_5,0,none⟩:Addr).add 3) fun x_276 x_276n x_276c =>
bindI (IntKind.i64.wrap (x_247-(x_276n:Int))) fun z_277 =>
needs (0<=z_277/\z_277<(x_275n:Int)) <|
ptr x_275 fun a_278 =>
ldI h_262 ((a_278.add (z_277.toNat*3)).add 0) .i64 fun x_279 =>
ldI h_262 ((a_278.add (z_277.toNat*3)).add 1) .i64 fun x_280 =>
ldS h_262 ((a_278.add (z_277.toNat*3)).add 2) fun x_281 x_281n x_281c =>
stV h_262 ((⟨r_258,0,none⟩:Addr).add 0) (.int .i64 x_279) fun h_282 =>
stV h_282 ((⟨r_258,0,none⟩:Addr).add 1) (.int .i64 x_280) fun h_283 =>
stV h_283 ((⟨r_258,0,none⟩:Addr).add 2) (.slice x_281 x_281n x_281c) fun h_284 =>
K_263 [] h_284)/\∀ (h_264:Heap) (u_265:Nat->Value) ,K_263 [] h_264->(
bcase (decide (x_246≥(r_230n:Int))) (
K (.bool false) h_264) <|
needs (0<=x_246/\x_246<(r_230n:Int)) <|
ptr r_230 fun a_285 =>
ldI h_264 ((a_285.add (x_246.toNat*3)).add 0) .i64 fun x_286 =>
ldI h_264 ((a_285.add (x_246.toNat*3)).add 1) .i64 fun x_287 =>
ldS h_264 ((a_285.add (x_246.toNat*3)).add 2) fun x_288 x_288n x_288c =>
ldI h_264 ((⟨r_258,0,none⟩:Addr).add 0) .i64 fun x_289 =>
ldI h_264 ((⟨r_258,0,none⟩:Addr).add 1) .i64 fun x_290 =>
ldS h_264 ((⟨r_258,0,none⟩:Addr).add 2) fun x_291 x_291n x_291c =>
C F_burinref0_EqBitmap #[.agg #[.int .i64 x_286, .int .i64 x_287, .slice x_288 x_288n x_288c], .agg #[.int .i64 x_289, .int .i64 x_290, .slice x_291 x_291n x_291c]] h_264 (fun v_292 h_293 =>
∃ (r_294:Bool),v_292 = .bool r_294/\(
bcase (!r_294) (
K (.bool false) h_293) <|
bindI (IntKind.i64.wrap (x_246+(1:Int))) fun z_295 =>
bindI (IntKind.i64.wrap (x_247+(1:Int))) fun z_296 =>
∃ m_242,m_242<n_243/\J_241 m_242 [.int .i64 z_295, .int .i64 z_296] h_293)) (Kp)))) (Kp)) <|
bcase (x_246 == (r_230n:Int)) (
C F_burinlaw13_wakes #[] h_244 (fun v_297 h_298 =>
∃ (r_299:Bool),v_297 = .bool r_299/\(
K (.bool r_299) h_298)) (Kp)) <|
K (.bool false) h_244))) (Kp))) (Kp)))) (Kp)))) (Kp)))) (Kp))) (Kp))) (Kp)
end Go.Den.YtfaclehehhgpcaaGreat
namespace Go.Den.YtfaclehehhgpcaaGreat
open Go Go.Den
theorem call_burinlaw13_DictBack {a0_1:Int} {a0_2:Option Addr} {a0_2n:Nat} {a0_2c:Nat} {a0_3:Option Addr} {a0_3n:Nat} {a0_3c:Nat} {a0_4:Option Addr} {a0_4n:Nat} {a0_4c:Nat} {h:Heap} {K:VK} {Kp:PK} (H:burinlaw13_DictBack (CallsHP Go.Proofs.Tryz.prog) a0_1 a0_2 a0_2n a0_2c a0_3 a0_3n a0_3c a0_4 a0_4n a0_4c h K Kp):CallsHP Go.Proofs.Tryz.prog F_burinlaw13_DictBack #[.agg #[.int .i64 a0_1, .slice a0_2 a0_2n a0_2c, .slice a0_3 a0_3n a0_3c, .slice a0_4 a0_4n a0_4c]] h K Kp :=
 callsHP_ofE (Hints.mk (fun i=>bif Nat.beq i 6 then some ([9], .take 0 <| .take 2 <| .take 3 <| .alt 1 (.alt 4 (.take 5 <| .take 6 <| .take 7 <| .go 8 <| .bar 9 [] <| .take 10 <| .done) <| .go 8 <| .go 4 <| .take 5 <| .take 6 <| .take 7 <| .bar 9 [] <| .take 10 <| .done) <| .go 8 <| .go 1 <| .go 4 <| .take 5 <| .take 6 <| .take 7 <| .bar 9 [] <| .take 10 <| .done) else (bif Nat.beq i 19 then some ([10], .take 0 <| .take 1 <| .take 2 <| .take 3 <| .take 4 <| .take 5 <| .take 6 <| .take 7 <| .take 8 <| .take 9 <| .bar 10 [] <| .take 11 <| .take 12 <| .done) else (none))) (fun i=>bif Nat.beq i 12 then some ([(9, .int .i64),(10, .int .i64)],664613997892457641303998350787350020) else (none)) (fun i=>bif Nat.beq i 19 then some ([],20282390260838556589880455987200) else (none)) []) (by kernel_rfl) Go.Proofs.Tryz.func8 (by kernel_rfl) (fun C=>burinlaw13_DictBack C a0_1 a0_2 a0_2n a0_2c a0_3 a0_3n a0_3c a0_4 a0_4n a0_4c h K Kp) (fun C=>by kernel_rfl) H
end Go.Den.YtfaclehehhgpcaaGreat
namespace Go.Bm
open Go Go.Den Go.Den.YtfaclehehhgpcaaGreat
open Go.Ar (u8s)
theorem pickTo_at {l:List Bmp} {ex:List Bool} {i:Nat} (hf:ex.getD i false=true):∀ d,(pickTo l ex (i+1+d))[(pickTo l ex i).length]? = some (sy l i)
 | 0=>by
  show (pickTo l ex i++(if ex.getD i false=true then [sy l i] else []))[(pickTo l ex i).length]? = _
  rw [if_pos hf,List.getElem?_append_right (Nat.le_refl _),Nat.sub_self]
  rfl
 | d+1=>by
  have ih:=pickTo_at (l:=l) hf d
  have hl:=(List.getElem?_eq_some_iff.1 ih).1
  show (pickTo l ex (i+1+d)++_)[(pickTo l ex i).length]? = _
  rw [List.getElem?_append_left hl]
  exact ih
theorem sy_app {a b:List Bmp} {i:Nat}:sy (a++b) i=if i<a.length then sy a i else sy b (i-a.length):=by
 unfold sy
 rw [List.getD_eq_getElem?_getD,List.getElem?_append]
 split
 ·rw [List.getD_eq_getElem?_getD]
 ·rw [List.getD_eq_getElem?_getD]
section
variable {hB h:Heap} {K:VK} {Kp:PK}
set_option maxHeartbeats 8000000 in
theorem dBack_tail {r5 r42:Nat} {t:Int} {new imp:List Bmp} {ex:List Bool} {q1 q2 q3 qn qe:Option Addr} {c1 c2 c3 cn ce:Nat} {J RN RE:List Ent} (hc:chkD t new ex.length imp=0) (hmay:imp.length<=200) (v1:BmsV hB q1 new) (v2:FlsV hB q2 ex) (v3:BmsV hB q3 imp) (hL:ListO RN qn cn new) (hs:Slot T_bool 1 RE qe ex.length ce (bls ex))
  (H:Hp hB [] h ([⟨r42,true,T_api_Dict,[.int .i64 0, .slice none 0 0, .slice none 0 0]⟩,⟨r5,true,T_burinlaw13_Ask,[.int .i64 t, .slice q1 new.length c1, .slice q2 ex.length c2, .slice q3 imp.length c3]⟩]++(J++(RN++RE)))) (hk:∀ h',hext hB h'->K (.bool true) h') :
   stV h ((⟨r42,0,none⟩:Addr).add 0) (.int .i64 t) fun h_221 =>
   stV h_221 ((⟨r42,0,none⟩:Addr).add 1) (.slice qn new.length cn) fun h_222 =>
   stV h_222 ((⟨r42,0,none⟩:Addr).add 2) (.slice qe ex.length ce) fun h_223 =>
   ldI h_223 ((⟨r42,0,none⟩:Addr).add 0) .i64 fun x_224 =>
   ldS h_223 ((⟨r42,0,none⟩:Addr).add 1) fun x_225 x_225n x_225c =>
   ldS h_223 ((⟨r42,0,none⟩:Addr).add 2) fun x_226 x_226n x_226c =>
   ldS h_223 ((⟨r5,0,none⟩:Addr).add 3) fun x_227 x_227n x_227c =>
   CP F_dict_Exported #[.agg #[.int .i64 x_224, .slice x_225 x_225n x_225c, .slice x_226 x_226n x_226c], .slice x_227 x_227n x_227c] h_223 (fun v_228 h_229 =>
   ∃ (r_230:Option Addr) (r_230n:Nat) (r_230c:Nat),∃ (r_231:Int),v_228 = .tuple #[.slice r_230 r_230n r_230c, .int .i64 r_231]/\(
   bcase ((0:Int) != (0:Int)) (
   K (.bool false) h_229) <|
   bcase (r_231 != (0:Int)) (
   K (.bool false) h_229) <|
   ldI h_229 ((⟨r42,0,none⟩:Addr).add 0) .i64 fun x_232 =>
   ldS h_229 ((⟨r42,0,none⟩:Addr).add 1) fun x_233 x_233n x_233c =>
   ldS h_229 ((⟨r42,0,none⟩:Addr).add 2) fun x_234 x_234n x_234c =>
   ldI h_229 (((⟨r5,0,none⟩:Addr).add 0).add 0) .i64 fun x_235 =>
   ldS h_229 (((⟨r5,0,none⟩:Addr).add 0).add 1) fun x_236 x_236n x_236c =>
   ldS h_229 (((⟨r5,0,none⟩:Addr).add 0).add 2) fun x_237 x_237n x_237c =>
   CP F_burinref0_EqDict #[.agg #[.int .i64 x_232, .slice x_233 x_233n x_233c, .slice x_234 x_234n x_234c], .agg #[.int .i64 x_235, .slice x_236 x_236n x_236c, .slice x_237 x_237n x_237c]] h_229 (fun v_238 h_239 =>
   ∃ (r_240:Bool),v_238 = .bool r_240/\(
   bcase (!r_240) (
   K (.bool false) h_239) <|
   ∃ J_241:Nat->List Value->Heap->Prop,(∃ n_243,J_241 n_243 [.int .i64 0, .int .i64 0] h_239)/\∀ (n_243:Nat) (h_244:Heap) (u_245:Nat->Value) (x_246:Int) (x_247:Int),J_241 n_243 [.int .i64 x_246, .int .i64 x_247] h_244->(
   ldS h_244 (((⟨r5,0,none⟩:Addr).add 0).add 2) fun x_248 x_248n x_248c =>
   bcase (decide (x_247<(x_248n:Int))) (
   ldS h_244 (((⟨r5,0,none⟩:Addr).add 0).add 2) fun x_249 x_249n x_249c =>
   needs (0<=x_247/\x_247<(x_249n:Int)) <|
   ptr x_249 fun a_250 =>
   ldB h_244 (a_250.add (x_247.toNat*1)) fun x_251 =>
   bcase (!x_251) (
   bindI (IntKind.i64.wrap (x_247+(1:Int))) fun z_252 =>
   ∃ m_242,m_242<n_243/\J_241 m_242 [.int .i64 x_246, .int .i64 z_252] h_244) <|
   CP F_burinref0_White #[.int .i64 1, .int .i64 1] h_244 (fun v_253 h_254 =>
   ∃ (r_255:Int) (r_256:Int) (r_257:Option Addr) (r_257n:Nat) (r_257c:Nat),v_253 = .agg #[.int .i64 r_255, .int .i64 r_256, .slice r_257 r_257n r_257c]/\(
   newC h_254 [.int .i64 0, .int .i64 0, .slice none 0 0] T_api_Bitmap fun r_258 h_259 =>
   stV h_259 ((⟨r_258,0,none⟩:Addr).add 0) (.int .i64 r_255) fun h_260 =>
   stV h_260 ((⟨r_258,0,none⟩:Addr).add 1) (.int .i64 r_256) fun h_261 =>
   stV h_261 ((⟨r_258,0,none⟩:Addr).add 2) (.slice r_257 r_257n r_257c) fun h_262 =>
   ∃ K_263:List Value->Heap->Prop,(
   ldS h_262 ((⟨r5,0,none⟩:Addr).add 3) fun x_266 x_266n x_266c =>
   bcase (decide (x_247<(x_266n:Int))) (
   ldS h_262 ((⟨r5,0,none⟩:Addr).add 3) fun x_267 x_267n x_267c =>
   needs (0<=x_247/\x_247<(x_267n:Int)) <|
   ptr x_267 fun a_268 =>
   ldI h_262 ((a_268.add (x_247.toNat*3)).add 0) .i64 fun x_269 =>
   ldI h_262 ((a_268.add (x_247.toNat*3)).add 1) .i64 fun x_270 =>
   ldS h_262 ((a_268.add (x_247.toNat*3)).add 2) fun x_271 x_271n x_271c =>
   stV h_262 ((⟨r_258,0,none⟩:Addr).add 0) (.int .i64 x_269) fun h_272 =>
   stV h_272 ((⟨r_258,0,none⟩:Addr).add 1) (.int .i64 x_270) fun h_273 =>
   stV h_273 ((⟨r_258,0,none⟩:Addr).add 2) (.slice x_271 x_271n x_271c) fun h_274 =>
   K_263 [] h_274) <|
   ldS h_262 (((⟨r5,0,none⟩:Addr).add 0).add 1) fun x_275 x_275n x_275c =>
   ldS h_262 ((⟨r5,0,none⟩:Addr).add 3) fun x_276 x_276n x_276c =>
   bindI (IntKind.i64.wrap (x_247-(x_276n:Int))) fun z_277 =>
   needs (0<=z_277/\z_277<(x_275n:Int)) <|
   ptr x_275 fun a_278 =>
   ldI h_262 ((a_278.add (z_277.toNat*3)).add 0) .i64 fun x_279 =>
   ldI h_262 ((a_278.add (z_277.toNat*3)).add 1) .i64 fun x_280 =>
   ldS h_262 ((a_278.add (z_277.toNat*3)).add 2) fun x_281 x_281n x_281c =>
   stV h_262 ((⟨r_258,0,none⟩:Addr).add 0) (.int .i64 x_279) fun h_282 =>
   stV h_282 ((⟨r_258,0,none⟩:Addr).add 1) (.int .i64 x_280) fun h_283 =>
   stV h_283 ((⟨r_258,0,none⟩:Addr).add 2) (.slice x_281 x_281n x_281c) fun h_284 =>
   K_263 [] h_284)/\∀ (h_264:Heap) (u_265:Nat->Value) ,K_263 [] h_264->(
   bcase (decide (x_246≥(r_230n:Int))) (
   K (.bool false) h_264) <|
   needs (0<=x_246/\x_246<(r_230n:Int)) <|
   ptr r_230 fun a_285 =>
   ldI h_264 ((a_285.add (x_246.toNat*3)).add 0) .i64 fun x_286 =>
   ldI h_264 ((a_285.add (x_246.toNat*3)).add 1) .i64 fun x_287 =>
   ldS h_264 ((a_285.add (x_246.toNat*3)).add 2) fun x_288 x_288n x_288c =>
   ldI h_264 ((⟨r_258,0,none⟩:Addr).add 0) .i64 fun x_289 =>
   ldI h_264 ((⟨r_258,0,none⟩:Addr).add 1) .i64 fun x_290 =>
   ldS h_264 ((⟨r_258,0,none⟩:Addr).add 2) fun x_291 x_291n x_291c =>
   CP F_burinref0_EqBitmap #[.agg #[.int .i64 x_286, .int .i64 x_287, .slice x_288 x_288n x_288c], .agg #[.int .i64 x_289, .int .i64 x_290, .slice x_291 x_291n x_291c]] h_264 (fun v_292 h_293 =>
   ∃ (r_294:Bool),v_292 = .bool r_294/\(
   bcase (!r_294) (
   K (.bool false) h_293) <|
   bindI (IntKind.i64.wrap (x_246+(1:Int))) fun z_295 =>
   bindI (IntKind.i64.wrap (x_247+(1:Int))) fun z_296 =>
   ∃ m_242,m_242<n_243/\J_241 m_242 [.int .i64 z_295, .int .i64 z_296] h_293)) (Kp)))) (Kp)) <|
   bcase (x_246 == (r_230n:Int)) (
   CP F_burinlaw13_wakes #[] h_244 (fun v_297 h_298 =>
   ∃ (r_299:Bool),v_297 = .bool r_299/\(
   K (.bool r_299) h_298)) (Kp)) <|
   K (.bool false) h_244))) (Kp))) (Kp):=by
 obtain ⟨⟨hf1,hf2,hf3,hf4,hf5⟩,hf6,hf7⟩:=chkD_zero hc
 refine stA H 0 rfl rfl rfl fun h H=>?_
 refine stA H 0 rfl rfl rfl fun h H=>?_
 refine stA H 0 rfl rfl rfl fun h H=>?_
 obtain ⟨A,hA⟩:∃ A:List Ent,A=[⟨r42,true,T_api_Dict,[.int .i64 t, .slice qn new.length cn, .slice qe ex.length ce]⟩,⟨r5,true,T_burinlaw13_Ask,[.int .i64 t, .slice q1 new.length c1, .slice q2 ex.length c2, .slice q3 imp.length c3]⟩]++(J++(RN++RE)):=⟨_,rfl⟩
 have ld42:∀ {h:Heap} {L:List Ent} {KK:Int->Option Addr->Nat->Nat->Option Addr->Nat->Nat->Prop},Hp hB [] h (A++L)->KK t qn new.length cn qe ex.length ce->ldI h ((⟨r42,0,none⟩:Addr).add 0) .i64 fun x=>ldS h ((⟨r42,0,none⟩:Addr).add 1) fun y yn yc=>ldS h ((⟨r42,0,none⟩:Addr).add 2) fun z zn zc=>KK x y yn yc z zn zc:=fun {h L KK} H hKK=>by
  rw [hA] at H
  exact ldI_of (hpA H 0 rfl rfl) (ldS_of (hpA H 0 rfl rfl) (ldS_of (hpA H 0 rfl rfl) hKK))
 have ld5:∀ {h:Heap} {L:List Ent} {KK:Option Addr->Nat->Nat->Prop},Hp hB [] h (A++L)->KK q3 imp.length c3->ldS h ((⟨r5,0,none⟩:Addr).add 3) fun y yn yc=>KK y yn yc:=fun {h L KK} H hKK=>by
  rw [hA] at H
  exact ldS_of (hpA H 1 rfl rfl) hKK
 have ld5n:∀ {h:Heap} {L:List Ent} {KK:Option Addr->Nat->Nat->Prop},Hp hB [] h (A++L)->KK q1 new.length c1->ldS h (((⟨r5,0,none⟩:Addr).add 0).add 1) fun y yn yc=>KK y yn yc:=fun {h L KK} H hKK=>by
  rw [hA] at H
  exact ldS_of (hpB H 1 rfl rfl) hKK
 have ld5f:∀ {h:Heap} {L:List Ent} {KK:Option Addr->Nat->Nat->Prop},Hp hB [] h (A++L)->KK q2 ex.length c2->ldS h (((⟨r5,0,none⟩:Addr).add 0).add 2) fun y yn yc=>KK y yn yc:=fun {h L KK} H hKK=>by
  rw [hA] at H
  exact ldS_of (hpB H 1 rfl rfl) hKK
 have ld5t:∀ {h:Heap} {L:List Ent} {KK:Int->Prop},Hp hB [] h (A++L)->KK t->ldI h (((⟨r5,0,none⟩:Addr).add 0).add 0) .i64 fun y=>KK y:=fun {h L KK} H hKK=>by
  rw [hA] at H
  exact ldI_of (hpB H 1 rfl rfl) hKK
 have w1:∀ {h:Heap} {L:List Ent},Hp hB [] h (A++L)->BmsV h qn new/\FlsV h qe ex:=fun {h L} H=>by
  rw [hA] at H
  exact ⟨hL.view H fun e he=>by simp [he],Slot.rdO' hs H fun e he=>by simp [he]⟩
 have H:Hp hB [] h (A++[]):=by rw [List.append_nil,hA]; exact H
 obtain ⟨d1,d2⟩:=w1 H
 refine ld42 H (ld5 H ?_)
 refine dExp_ok d1 (v3.ext H.hext) d2 (by omega) (by omega) fun R q9 c9 h' hL9 H'=>?_
 have hxp:expD t new ex imp=pickD (imp++new) ex:=by unfold expD; rw [if_pos hc]
 rw [hxp] at hL9
 rw [hc,hxp]
 replace H:=H.join H' hL9.w
 clear H'
 have H:Hp hB [] h' (A++R):=H.as (by rw [List.append_nil])
 refine ⟨_,_,_,_,rfl,?_⟩
 refine bcase_ne (fun hh=>absurd rfl hh) fun _=>?_
 refine bcase_ne (fun hh=>absurd rfl hh) fun _=>?_
 refine ld42 H (ld5t H (ld5n H (ld5f H ?_)))
 obtain ⟨d1,d2⟩:=w1 H
 refine eqDict_ok d1 (v1.ext H.hext) d2 (v2.ext H.hext) (by omega) (by omega) fun h2 e=>?_
 have H:=H.ext e
 clear e
 refine ⟨_,rfl,?_⟩
 refine bcase_not (fun hh=>by cases hh) fun _=>?_
 obtain ⟨l,hl⟩:∃ l:List Bmp,l=imp++new:=⟨_,rfl⟩
 have hll:l.length=ex.length:=by rw [hl,List.length_append]; omega
 rw [<- hl] at hL9 ⊢
 refine ⟨fun m vs h'=>∃ i:Nat,i+m=ex.length/\vs=[.int .i64 ((pickTo l ex i).length:Nat), .int .i64 (i:Nat)]/\Hp hB [] h' (A++R),⟨ex.length,0,by omega,rfl,H⟩,?_⟩
 clear H
 rintro m h u xn xi ⟨i,him,hxx,H⟩
 injection hxx with hx1 hxx
 injection hxx with hx2 hxx
 injection hx1 with _ hx1
 injection hx2 with _ hx2
 subst xn xi
 have hpl:=pickTo_len l ex i
 refine ld5f H ?_
 refine bcase_dec (fun h3=>?_) fun h3=>?_
 rotate_left
 ·obtain rfl:i=ex.length:=by omega
  have hpd:pickD l ex=pickTo l ex ex.length:=by unfold pickD; rw [hll]
  rw [hpd]
  refine bcase_eq (fun _=>?_) fun hh=>absurd rfl hh
  exact wakes13_ok fun h' e=>⟨_,rfl,hk _ (H.hext.trans e)⟩
 have h3:i<ex.length:=by omega
 refine ld5f H (needs_of (by omega) ?_)
 obtain ⟨a,hqa,hAf⟩:=rdO_cell (FlsV.ext v2 H.hext) (i:=i) (fl_at h3)
 refine ptr_at hqa ?_
 rw [Int.toNat_natCast,Nat.mul_one]
 refine ldB_of hAf ?_
 have hstep:pickTo l ex (i+1)=pickTo l ex i++(if ex.getD i false=true then [sy l i] else []):=rfl
 generalize hfl:ex.getD i false=fl at hstep ⊢
 refine bcase_not (fun h4=>?_) fun h4=>?_
 ·refine bindI_of (((i+1:Nat):Int)) (by exact i64_at _ _ (by omega) (by omega) (by omega)) ?_
  rw [if_neg (by rw [h4]; decide),List.append_nil] at hstep
  exact ⟨m-1,by omega,i+1,by omega,by rw [hstep],H⟩
 rw [h4] at hfl hstep
 rw [if_pos rfl] at hstep
 have hs11:SizeP ((1:Nat):Int) ((1:Nat):Int):=by unfold SizeP; omega
 refine white_ok (W:=1) (X:=1) hs11 fun q8 h' H'=>?_
 replace H:=H.join H' rfl
 clear H'
 refine ⟨_,_,_,_,_,rfl,?_⟩
 refine newC_hp H fun r81 h H=>?_
 have H:=H.rot
 refine stA H 0 rfl rfl rfl fun h H=>?_
 refine stA H 0 rfl rfl rfl fun h H=>?_
 refine stA H 0 rfl rfl rfl fun h H=>?_
 have H:Hp hB [] h ([⟨r81,true,T_api_Bitmap,[.int .i64 1, .int .i64 1, .slice (at0 q8) 1 1]⟩]++((A++R)++[⟨q8,true,T_uint64,u64s (List.replicate (1*wds 1) 0)⟩])):=H
 have HA:Hp hB [] h (A++R):=Hp.pre (Hp.suf H)
 have hb:=sy_app (a:=imp) (b:=new) (i:=i)
 rw [<- hl] at hb
 refine ⟨fun _ h'=>∃ q7 c7 J7,Hp hB [] h' (⟨r81,true,T_api_Bitmap,[.int .i64 (sy l i).w, .int .i64 (sy l i).h, .slice q7 (sy l i).ws.length c7]⟩::((A++R)++J7))/\rdO hB q7 ((sy l i).ws.length*1) (u64s (sy l i).ws),?_,?_⟩
 ·refine ld5 HA ?_
  refine bcase_dec (fun h5=>?_) fun h5=>?_
  ·refine ld5 HA (needs_of (by omega) ?_)
   obtain ⟨a7,q7,c7,hq7,hA7⟩:=sy_c v3 (i:=i) (by omega)
   have hA8:=hA7.ext H.hext
   refine ptr_at hq7 ?_
   rw [if_pos (by omega)] at hb
   rw [hb]
   refine ldI_of hA8.c0 (ldI_of hA8.c1 (ldS_of hA8.c2 ?_))
   refine stA H 0 rfl rfl rfl fun h H=>?_
   refine stA H 0 rfl rfl rfl fun h H=>?_
   refine stA H 0 rfl rfl rfl fun h H=>?_
   exact ⟨q7,c7,_,H,hA7.r1⟩
  ·refine ld5n HA (ld5 HA ?_)
   refine bindI_of (((i-imp.length:Nat):Int)) (by exact i64_at _ _ (by omega) (by omega) (by omega)) ?_
   refine needs_of (by omega) ?_
   obtain ⟨a7,q7,c7,hq7,hA7⟩:=sy_c v1 (i:=i-imp.length) (by omega)
   have hA8:=hA7.ext H.hext
   refine ptr_at hq7 ?_
   rw [Int.toNat_natCast]
   rw [if_neg (by omega)] at hb
   rw [hb]
   refine ldI_of hA8.c0 (ldI_of hA8.c1 (ldS_of hA8.c2 ?_))
   refine stA H 0 rfl rfl rfl fun h H=>?_
   refine stA H 0 rfl rfl rfl fun h H=>?_
   refine stA H 0 rfl rfl rfl fun h H=>?_
   exact ⟨q7,c7,_,H,hA7.r1⟩
 clear H HA
 rintro h9 u ⟨q7,c7,J7,H,hr7⟩
 have HA:Hp hB [] h9 (A++R):=Hp.pre (Hp.suf (X:=[⟨r81,true,T_api_Bitmap,[.int .i64 (sy l i).w, .int .i64 (sy l i).h, .slice q7 (sy l i).ws.length c7]⟩]) H)
 have hat:=pickTo_at (l:=l) hfl (l.length-i-1)
 rw [show i+1+(l.length-i-1)=l.length by omega] at hat
 have hat:(pickD l ex)[(pickTo l ex i).length]? = some (sy l i):=hat
 have hlt:=(List.getElem?_eq_some_iff.1 hat).1
 refine bcase_dec (fun hh=>absurd hh (by omega)) fun _=>?_
 refine needs_of (by omega) ?_
 obtain ⟨a9,p9,k9,hq9,hA9⟩:=hL9.view HA (fun e he=>List.mem_append_right _ he) _ _ hat
 refine ptr_at hq9 ?_
 rw [Int.toNat_natCast]
 refine ldI_of hA9.c0 (ldI_of hA9.c1 (ldS_of hA9.c2 ?_))
 refine ldI_of (hpA H 0 rfl rfl) (ldI_of (hpA H 0 rfl rfl) (ldS_of (hpA H 0 rfl rfl) ?_))
 refine eqB_ok hA9.r1 (rdO_ext H.hext hr7) hA9.l1 fun h' e'=>?_
 refine ⟨_,rfl,?_⟩
 rw [decide_eq_true ⟨rfl,rfl,rfl⟩]
 refine bcase_false (by rfl) ?_
 refine bindI_of ((((pickTo l ex i).length+1:Nat):Int)) (by exact i64_at _ _ (by omega) (by omega) (by omega)) ?_
 refine bindI_of (((i+1:Nat):Int)) (by exact i64_at _ _ (by omega) (by omega) (by omega)) ?_
 exact ⟨m-1,by omega,i+1,by omega,by rw [hstep,List.length_append]; rfl,HA.ext e'⟩
end
section
variable {hB:Heap} {K:VK} {Kp:PK}
set_option maxHeartbeats 8000000 in
theorem dBack_law {t:Int} {new imp:List Bmp} {ex:List Bool} {q1 q2 q3:Option Addr} {c1 c2 c3:Nat} (v1:BmsV hB q1 new) (v2:FlsV hB q2 ex) (v3:BmsV hB q3 imp) (hl1:new.length<=4000000000000) (hl3:imp.length<=4000000000000) (hlc:new.length<=c1) (hk:∀ h',hext hB h'->K (.bool true) h') :
  CP F_burinlaw13_DictBack #[.agg #[.int .i64 t, .slice q1 new.length c1, .slice q2 ex.length c2, .slice q3 imp.length c3]] hB K Kp:=by
 refine call_burinlaw13_DictBack ?_
 unfold burinlaw13_DictBack
 have H:=Hp.nil hB []
 refine newC_hp H fun r5 h H=>?_
 have H:Hp hB [] h [⟨r5,true,T_burinlaw13_Ask,[.int .i64 t, .slice q1 new.length c1, .slice q2 ex.length c2, .slice q3 imp.length c3]⟩]:=H
 refine ldS_of (hpB H 0 rfl rfl) ?_
 refine light13_ok (v1.ext H.hext) hl1 fun bb h1 hbb e1=>?_
 have H:=H.ext e1
 refine ⟨_,rfl,?_⟩
 refine bcase_not (fun _=>wakes13_ok fun h' e=>⟨_,rfl,hk _ (H.hext.trans e)⟩) fun h5=>?_
 obtain ⟨n1,n2⟩:=hbb h5
 refine ldS_of (hpA H 0 rfl rfl) ?_
 refine light13_ok (v3.ext H.hext) hl3 fun bb h1 hbb e1=>?_
 have H:=H.ext e1
 refine ⟨_,rfl,?_⟩
 refine bcase_not (fun _=>wakes13_ok fun h' e=>⟨_,rfl,hk _ (H.hext.trans e)⟩) fun h5=>?_
 obtain ⟨m1,m2⟩:=hbb h5
 refine ldI_of (hpB H 0 rfl rfl) (ldS_of (hpB H 0 rfl rfl) (ldS_of (hpB H 0 rfl rfl) (ldS_of (hpA H 0 rfl rfl) ?_)))
 refine dEnc_ok (v1.ext H.hext) (v3.ext H.hext) (v2.ext H.hext) (by omega) (by omega) hlc fun D qo co h' hs H'=>?_
 have H:=H.join H' hs.w
 clear H'
 refine ⟨_,_,_,_,rfl,?_⟩
 refine bcase_ne (fun hc=>?_) fun hc=>?_
 ·have h0:encD t new ex imp=[]:=by unfold encD; rw [if_neg hc]
  rw [h0]
  exact bcase_eq (fun _=>wakes13_ok fun h' e=>⟨_,rfl,hk _ (H.hext.trans e)⟩) fun hh=>absurd rfl hh
 obtain ⟨T,rfl⟩:∃ T:Nat,t=(T:Int):=⟨t.toNat,by have:=(chkD_zero hc).1.2.2.1; omega⟩
 rw [encD_ok hc] at hs ⊢
 have hbL:=(dicB_lt hc).bl
 have hbS:=(dicB_len (t:=T) (ex:=ex) (chkD_zero hc).1.2.1 (by have:=(chkD_zero hc).2.1; omega) (by have:=(chkD_zero hc).1.2.2.2.1; have:=(chkD_zero hc).2.1; omega) (chkD_zero hc).2.2).1
 have hw:∀ b∈new,W64 b.ws:=fun b hb=>by
  obtain ⟨i,hi⟩:=List.getElem?_of_mem hb
  obtain ⟨_,_,_,_,hcc⟩:=v1 i b hi
  exact hcc.w1
 refine ldS_of (hpA H 0 rfl rfl) ?_
 have dec:∀ {h:Heap} {L D2:List Ent} {qd:Option Addr} {cd ci:Nat} {K1:VK} {Kp1:PK},Hp hB [] h (L++D2)->Slot T_uint8 1 D2 qd (dicB T new ex).length cd (u8s (dicB T new ex)) ->
   (∀ RN qn cn RE qe ce h',ListO RN qn cn new->Slot T_bool 1 RE qe ex.length ce (bls ex)->Hp h [] h' (RN++RE)->K1 (.tuple #[.agg #[.int .i64 (T:Nat), .slice qn new.length cn, .slice qe ex.length ce], .int .i64 0]) h') ->
   CP F_dict_Decode #[.slice qd (dicB T new ex).length cd, .slice q3 imp.length ci] h K1 Kp1:=fun {h L D2 qd cd ci K1 Kp1} H hs2 hk1=>by
  refine dDec_ok (dicB_lt hc) (Slot.rdO' hs2 H fun e he=>List.mem_append_right _ he) (Slot.cap hs2) (v3.ext H.hext) (by omega) (fun t2 new2 ex2 RN qn cn RE qe ce h2 hd hM hL hsE H'=>?_) fun er h2 hd _ _=>?_
  ·rw [dec_enc hc hw] at hd
   injection hd with hd
   injection hd with e1 hd
   injection hd with e2 e3
   subst e1 e2 e3
   exact hk1 RN qn cn RE qe ce h2 hL hsE H'
  ·rw [dec_enc hc hw] at hd; cases hd
 have hRw:∀ {RN RE:List Ent} {qn qe:Option Addr} {cn ce:Nat},ListO RN qn cn new->Slot T_bool 1 RE qe ex.length ce (bls ex)->(RN++RE).all Ent.w=true:=fun h1 h2=>by rw [List.all_append,h1.w,h2.w]; rfl
 have turn:∀ {h:Heap} {r42:Nat} {D2 RN RE:List Ent},Hp hB [] h ([⟨r42,true,T_api_Dict,[.int .i64 0, .slice none 0 0, .slice none 0 0]⟩]++(([⟨r5,true,T_burinlaw13_Ask,[.int .i64 (T:Nat), .slice q1 new.length c1, .slice q2 ex.length c2, .slice q3 imp.length c3]⟩]++D)++(D2++(RN++RE)))) ->
   Hp hB [] h ([⟨r42,true,T_api_Dict,[.int .i64 0, .slice none 0 0, .slice none 0 0]⟩,⟨r5,true,T_burinlaw13_Ask,[.int .i64 (T:Nat), .slice q1 new.length c1, .slice q2 ex.length c2, .slice q3 imp.length c3]⟩]++((D++D2)++(RN++RE))):=fun H=>H.as (by simp only [List.append_assoc,List.cons_append,List.nil_append])
 refine ⟨?_,?_⟩
 ·refine copy_ok (Slot.rdO' hs H fun e he=>List.mem_append_right _ he) (by omega) fun D2 q' c' h' hs2 H'=>?_
  have e9:=H'.hext
  have H:=H.join H' hs2.w
  clear H'
  refine ⟨_,_,_,rfl,e9,?_⟩
  refine ⟨?_,?_⟩
  ·refine dec H hs2 fun RN qn cn RE qe ce h' hL hsE H'=>?_
   have e9:=H'.hext
   have H:=H.join H' (hRw hL hsE)
   clear H'
   refine ⟨_,_,_,_,_,_,_,_,rfl,e9,?_⟩
   refine newC_hp H fun r42 h H=>?_
   exact dBack_tail (J:=D++D2) hc m1 v1 v2 v3 hL hsE (turn (H.rot.as (by simp only [List.append_assoc]))) hk
  ·refine newC_hp H fun r42 h H=>?_
   have H:=Hp.swap H
   refine dec H hs2 fun RN qn cn RE qe ce h' hL hsE H'=>?_
   have e9:=H'.hext
   have H:=H.join H' (hRw hL hsE)
   clear H'
   refine ⟨_,_,_,_,_,_,_,_,rfl,e9,?_⟩
   have H:Hp hB [] h' (([⟨r5,true,T_burinlaw13_Ask,[.int .i64 (T:Nat), .slice q1 new.length c1, .slice q2 ex.length c2, .slice q3 imp.length c3]⟩]++D)++[⟨r42,true,T_api_Dict,[.int .i64 0, .slice none 0 0, .slice none 0 0]⟩]++(D2++(RN++RE))):=H.as (by simp only [List.append_assoc])
   exact dBack_tail (J:=D++D2) hc m1 v1 v2 v3 hL hsE (turn (Hp.swap H).rot) hk
 ·refine newC_hp H fun r42 h H=>?_
  refine copy_ok (Slot.rdO' hs H fun e he=>List.mem_append_left _ (List.mem_append_right _ he)) (by omega) fun D2 q' c' h' hs2 H'=>?_
  have e9:=H'.hext
  have H:=H.join H' hs2.w
  clear H'
  refine ⟨_,_,_,rfl,e9,?_⟩
  refine dec H hs2 fun RN qn cn RE qe ce h' hL hsE H'=>?_
  have e9:=H'.hext
  have H:=H.join H' (hRw hL hsE)
  clear H'
  refine ⟨_,_,_,_,_,_,_,_,rfl,e9,?_⟩
  have H:Hp hB [] h' (([⟨r5,true,T_burinlaw13_Ask,[.int .i64 (T:Nat), .slice q1 new.length c1, .slice q2 ex.length c2, .slice q3 imp.length c3]⟩]++D)++[⟨r42,true,T_api_Dict,[.int .i64 0, .slice none 0 0, .slice none 0 0]⟩]++(D2++(RN++RE))):=H.as (by simp only [List.append_assoc])
  exact dBack_tail (J:=D++D2) hc m1 v1 v2 v3 hL hsE (turn (Hp.swap H).rot) hk
end
theorem dBack_arg {h:Heap} {cs:Array Value} (hsz:cs.size=TP.cellsOf T_burinlaw13_Ask) (hw:WDx TP h T_burinlaw13_Ask cs.toList) {K:VK} {Kp:PK} (hk:∀ h',hext h h'->K (.bool true) h') :
  CP F_burinlaw13_DictBack #[.agg cs] h K Kp:=by
 obtain ⟨t,q1,c1,q2,c2,q3,c3,new,ex,imp,e,g1,g2,g5,g3,g4,g6,i0,g7⟩:=wd_ask13 hw
 have hcs:cs=#[.int .i64 t, .slice q1 new.length c1, .slice q2 ex.length c2, .slice q3 imp.length c3]:=by rw [<- e]
 subst hcs
 exact dBack_law g1 g2 g5 g3 g6 g7 hk
end Go.Bm
namespace Go.Proofs.YtfaclehehhgpcaaGreat
open Go.ChangeShapes Go.WideShapes Go.ChangeAt Go.RowKit
theorem own:ownKnob Tryz.prog.godebug=none:=by kernel_rfl
theorem laidOut:laidOutB Tryz.prog=true:=by kernel_rfl
theorem below_of {W W':World} (hk:Go.Den.keeps W W') (h:Go.Den.hext W.heap W'.heap):Below W.heap.size W W' :=
 ⟨hk.1,hk.2.1,hk.2.2,h.1,fun k hlt=>h.2 k hlt⟩
theorem walk_of {f:FuncId} {args:Array Value} {W:World}
  (h:Calls Tryz.prog f args W fun e w'=>Go.Den.keeps W w'/\match e with
   | .returned v=>v = .bool true/\Go.Den.hext W.heap w'.heap
   | .panicked c=>False
   | .outgrown=>False):Calls Tryz.prog f args W fun e W'=>e = .returned (.bool true)/\Below W.heap.size W W':=by
 refine h.mono fun e W' he=>?_
 obtain ⟨hk,he⟩:=he
 cases e with
 | returned v=>exact ⟨by rw [he.1],below_of hk he.2⟩
 | panicked c=>exact he.elim
 | outgrown=>exact he.elim
end Go.Proofs.YtfaclehehhgpcaaGreat
namespace Go.Proofs.YtfaclehehhgpcaaGreat
open Go.ChangeShapes Go.WideShapes Go.ChangeAt Go.RowKit
theorem dictBack_walk (W:World) {cs:Array Value} (hsz:cs.size=Tryz.prog.cellsOf 59) (hw:Go.Den.WDx Tryz.prog W.heap 59 cs.toList):Calls Tryz.prog 8 #[.agg cs] W fun e W'=>e = .returned (.bool true)/\Below W.heap.size W W' :=
 walk_of ((Go.Bm.dBack_arg (h:=W.heap) (K:=fun v h'=>v = .bool true/\Go.Den.hext W.heap h') (Kp:=fun _ _=>False) hsz hw fun h' e=>⟨rfl,e⟩).2 W rfl)
theorem dictBack_lifted (os:Os) (started:os.Started) (H:Type) (enc:TypeId × Value->H) :
  ReturnsInHanded {} Tryz.checked os 8 .any (Rows.dictBackSpec.pre6 enc Tryz.prog Tryz.f8 Rows.dictBackRow.domain false) (Rows.dictBackSpec.post enc Tryz.prog Tryz.f8 false true false false):=by
 refine returnsInHanded_of_change_sized (C:=Tryz.checked) own started (by kernel_rfl) Tryz.func8
  (ChangeSpec.witness6 (enc:=enc) (C:=Tryz.checked) false ⟨#[],#[.agg #[.int .i64 0, .slice none 0 0, .slice none 0 0, .slice none 0 0]],[]⟩ 8 (by kernel_rfl) (by kernel_rfl) (by kernel_rfl) (by kernel_rfl)) ?_
 intro W base args ds gs before hval0 hW hcnd hz _
 have hval:∀ (j:Nat) t v,Tryz.f8.params[j]? = some t->args[j]? = some v->Value.okWide Tryz.prog W .any base t v:=hval0
 have hz:∀ n∈DataW.weightsEach Tryz.prog (Tryz.f8.params.toList++Rows.dictBackSpec.plain.varTypes Tryz.prog) (ds++gs),n<=reachBytes:=fun n hn=>by simpa using List.all_eq_true.1 hz n hn
 have hW':=hW
 obtain ⟨p,q,hA0,hV,rfl,hfz,hnd⟩:=hW
 have hA:DataW.TrodAll enc Tryz.prog W 0 (fun _=>true) true Tryz.f8.params.toList args.toList ds p:=hA0
 rw [Tryz.params8] at hA hval hz
 obtain ⟨v0,vs0,d0,ds0,p0,q0,hargs,rfl,rfl,h0,r0⟩:=trodAll_cons hA
 obtain ⟨rfl,rfl,rfl⟩:=trodAll_nil r0
 obtain rfl:args=#[v0]:=by cases args; simp_all
 obtain ⟨rfl,rfl⟩:=trodVars_none hV
 obtain ⟨cs,rfl,hsz⟩:=okWide_struct Tryz.underlying59 (hval 0 59 v0 rfl rfl)
 have hwd:Go.Den.WDx Tryz.prog W.heap 59 cs.toList:=by
  obtain ⟨f,hf⟩:=h0
  exact ⟨f,Go.Den.wd_of hf fun n hn=>hz n (DataW.weights_mem_each (j:=0) rfl rfl n hn)⟩
 clear hA0 hval0
 simp only [List.append_nil] at hW'
 refine (dictBack_walk W hsz hwd).mono fun e W' ⟨he,hb⟩=>?_
 subst he
 refine ⟨_,rfl,[d0],[],_,[],p0,[],hW',?_,?_,?_,hb.frame _,fun h=>Bool.noConfusion h⟩
 ·exact trodAll_cons_mk (shut_bool Go.Proofs.Tryz.underlying4 _) trodAll_mk0
 ·exact ⟨p0,[],Below.trod laidOut (by kernel_rfl) (of_decide_eq_true (by kernel_rfl)) h0 hb (fun x hx=>by simpa using hW'.lt x hx),rfl,(List.append_nil p0).symm⟩
 ·rfl
theorem dictBack_over:Rows.dictBackRow.holds Tryz.pinned (OpenSpec.ofChange Rows.dictBackSpec) :=
 OpenClaim.holds_of_wide 8 Tryz.f8 rfl rfl rfl rfl rfl rfl rfl ⟨rfl,rfl,rfl,rfl,rfl⟩ rfl rfl rfl rfl rfl (by kernel_rfl) Tryz.func8 (by kernel_rfl)
  (of_decide_eq_true (by kernel_rfl)) (by unfold Func.isWrapper; first | (rw [if_pos (by decide +kernel)]; kernel_rfl) | (rw [if_neg (by decide +kernel)]; exact ⟨rfl,rfl⟩))
  (fun os started H enc _=>dictBack_lifted os started H enc)
theorem dictBack_proved:Rows.DictBackSaid:=dictBack_over
#print axioms dictBack_proved
end Go.Proofs.YtfaclehehhgpcaaGreat
