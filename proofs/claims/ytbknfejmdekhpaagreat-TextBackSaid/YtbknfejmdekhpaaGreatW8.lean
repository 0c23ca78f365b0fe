/- The given statement TextBackSaid is proved of the given program; there are no further conditions. W8: put together by wip/tools/bundle.py: Mlaw14TextBack Blaw14TextBack TyI ArLink2 TyBack. -/
import Derived.Test.YtbknfejmdekhpaaGreatW1
import Derived.Test.YtbknfejmdekhpaaGreatW2
import Derived.Test.YtbknfejmdekhpaaGreatW3
import Derived.Test.YtbknfejmdekhpaaGreatW4
import Derived.Test.YtbknfejmdekhpaaGreatW5
import Derived.Test.YtbknfejmdekhpaaGreatW6
import Derived.Test.YtbknfejmdekhpaaGreatW7
import Derived.Test.YtbknfejmdekhpaaGreatProg
import Derived.WalkKit
import Derived.ProofKit
import Derived.OpenShut
import Derived.Carry
import Derived.Deep.SlicePairs
import Derived.Lib.SmallJoins
import Derived.Test.YtbknfejmdekhpaaGreatRows
set_option linter.unusedVariables false
set_option linter.unusedSimpArgs false
set_option maxRecDepth 100000
namespace Go.Den.YtbknfejmdekhpaaGreat
open Go Go.Den
def burinlaw14_TextBack (C:CallP) (p_1:Int) (p_2:Int) (p_3:Int) (p_4:Int) (p_5:Int) (p_6:Bool) (p_7:Int) (p_8:Int) (p_9:Option Addr) (p_9n:Nat) (p_9c:Nat) (p_10:Option Addr) (p_10n:Nat) (p_10c:Nat) (h:Heap) (K:VK) (Kp:PK):Prop :=
newC h [.int .i64 p_1, .int .i64 p_2, .int .i64 p_3, .int .i64 p_4, .int .i64 p_5, .bool p_6, .int .i64 p_7, .int .i64 p_8, .slice p_9 p_9n p_9c, .slice p_10 p_10n p_10c] T_burinlaw14_Ask fun r_11 h_12 =>
ldI h_12 ((⟨r_11,0,none⟩:Addr).add 0) .i64 fun x_13 =>
ldI h_12 ((⟨r_11,0,none⟩:Addr).add 1) .i64 fun x_14 =>
ldI h_12 ((⟨r_11,0,none⟩:Addr).add 2) .i64 fun x_15 =>
ldI h_12 ((⟨r_11,0,none⟩:Addr).add 3) .i64 fun x_16 =>
ldI h_12 ((⟨r_11,0,none⟩:Addr).add 4) .i64 fun x_17 =>
ldB h_12 ((⟨r_11,0,none⟩:Addr).add 5) fun x_18 =>
ldI h_12 ((⟨r_11,0,none⟩:Addr).add 6) .i64 fun x_19 =>
ldI h_12 ((⟨r_11,0,none⟩:Addr).add 7) .i64 fun x_20 =>
ldS h_12 ((⟨r_11,0,none⟩:Addr).add 8) fun x_21 x_21n x_21c =>
ldS h_12 ((⟨r_11,0,none⟩:Addr).add 9) fun x_22 x_22n x_22c =>
C F_burinlaw14_light #[.agg #[.int .i64 x_13, .int .i64 x_14, .int .i64 x_15, .int .i64 x_16, .int .i64 x_17, .bool x_18, .int .i64 x_19, .int .i64 x_20, .slice x_21 x_21n x_21c, .slice x_22 x_22n x_22c]] h_12 (fun v_23 h_24 =>
∃ (r_25:Bool),v_23 = .bool r_25/\(
bcase (!r_25) (
C F_burinlaw14_wakes #[] h_24 (fun v_26 h_27 =>
∃ (r_28:Bool),v_26 = .bool r_28/\(
K (.bool r_28) h_27)) (Kp)) <|
ldI h_24 (((⟨r_11,0,none⟩:Addr).add 0).add 0) .i64 fun x_29 =>
ldI h_24 (((⟨r_11,0,none⟩:Addr).add 0).add 1) .i64 fun x_30 =>
ldI h_24 (((⟨r_11,0,none⟩:Addr).add 0).add 2) .i64 fun x_31 =>
ldI h_24 (((⟨r_11,0,none⟩:Addr).add 0).add 3) .i64 fun x_32 =>
ldI h_24 (((⟨r_11,0,none⟩:Addr).add 0).add 4) .i64 fun x_33 =>
ldB h_24 (((⟨r_11,0,none⟩:Addr).add 0).add 5) fun x_34 =>
ldI h_24 (((⟨r_11,0,none⟩:Addr).add 0).add 6) .i64 fun x_35 =>
ldI h_24 (((⟨r_11,0,none⟩:Addr).add 0).add 7) .i64 fun x_36 =>
ldS h_24 (((⟨r_11,0,none⟩:Addr).add 0).add 8) fun x_37 x_37n x_37c =>
ldS h_24 ((⟨r_11,0,none⟩:Addr).add 9) fun x_38 x_38n x_38c =>
C F_text_Encode #[.agg #[.int .i64 x_29, .int .i64 x_30, .int .i64 x_31, .int .i64 x_32, .int .i64 x_33, .bool x_34, .int .i64 x_35, .int .i64 x_36, .slice x_37 x_37n x_37c], .slice x_38 x_38n x_38c] h_24 (fun v_39 h_40 =>
∃ (r_41:Option Addr) (r_41n:Nat) (r_41c:Nat),∃ (r_42:Int),v_39 = .tuple #[.slice r_41 r_41n r_41c, .int .i64 r_42]/\(
bcase (r_42 != (0:Int)) (
bcase ((r_41n:Int) == (0:Int)) (
C F_burinlaw14_wakes #[] h_40 (fun v_43 h_44 =>
∃ (r_45:Bool),v_43 = .bool r_45/\(
K (.bool r_45) h_44)) (Kp)) <|
K (.bool false) h_40) <|
ldS h_40 ((⟨r_11,0,none⟩:Addr).add 9) fun x_46 x_46n x_46c =>
(
C F_burinref0_Copy #[.slice r_41 r_41n r_41c] h_40 (fun v_47 h_48 =>
∃ (r_49:Option Addr) (r_49n:Nat) (r_49c:Nat),v_47 = .slice r_49 r_49n r_49c/\(
hext h_40 h_48/\(
(
C F_text_Decode #[.slice r_49 r_49n r_49c, .slice x_46 x_46n x_46c] h_48 (fun v_50 h_51 =>
∃ (r_52:Int) (r_53:Int) (r_54:Int) (r_55:Int) (r_56:Int) (r_57:Bool) (r_58:Int) (r_59:Int) (r_60:Option Addr) (r_60n:Nat) (r_60c:Nat),∃ (r_61:Int),v_50 = .tuple #[.agg #[.int .i64 r_52, .int .i64 r_53, .int .i64 r_54, .int .i64 r_55, .int .i64 r_56, .bool r_57, .int .i64 r_58, .int .i64 r_59, .slice r_60 r_60n r_60c], .int .i64 r_61]/\(
hext h_48 h_51/\(
newC h_51 [.int .i64 0, .int .i64 0, .int .i64 0, .int .i64 0, .int .i64 0, .bool false, .int .i64 0, .int .i64 0, .slice none 0 0] T_api_Text fun r_62 h_63 =>
stVs h_63 (⟨r_62,0,none⟩:Addr) 0 [.int .i64 r_52, .int .i64 r_53, .int .i64 r_54, .int .i64 r_55, .int .i64 r_56, .bool r_57, .int .i64 r_58, .int .i64 r_59, .slice r_60 r_60n r_60c] fun h_64 =>
ldI h_64 (((⟨r_11,0,none⟩:Addr).add 0).add 0) .i64 fun x_65 =>
ldI h_64 (((⟨r_11,0,none⟩:Addr).add 0).add 1) .i64 fun x_66 =>
ldI h_64 (((⟨r_11,0,none⟩:Addr).add 0).add 2) .i64 fun x_67 =>
ldI h_64 (((⟨r_11,0,none⟩:Addr).add 0).add 3) .i64 fun x_68 =>
ldI h_64 (((⟨r_11,0,none⟩:Addr).add 0).add 4) .i64 fun x_69 =>
ldB h_64 (((⟨r_11,0,none⟩:Addr).add 0).add 5) fun x_70 =>
ldI h_64 (((⟨r_11,0,none⟩:Addr).add 0).add 6) .i64 fun x_71 =>
ldI h_64 (((⟨r_11,0,none⟩:Addr).add 0).add 7) .i64 fun x_72 =>
ldS h_64 (((⟨r_11,0,none⟩:Addr).add 0).add 8) fun x_73 x_73n x_73c =>
C F_burinref0_CopyText #[.agg #[.int .i64 x_65, .int .i64 x_66, .int .i64 x_67, .int .i64 x_68, .int .i64 x_69, .bool x_70, .int .i64 x_71, .int .i64 x_72, .slice x_73 x_73n x_73c]] h_64 (fun v_74 h_75 =>
∃ (r_76:Int) (r_77:Int) (r_78:Int) (r_79:Int) (r_80:Int) (r_81:Bool) (r_82:Int) (r_83:Int) (r_84:Option Addr) (r_84n:Nat) (r_84c:Nat),v_74 = .agg #[.int .i64 r_76, .int .i64 r_77, .int .i64 r_78, .int .i64 r_79, .int .i64 r_80, .bool r_81, .int .i64 r_82, .int .i64 r_83, .slice r_84 r_84n r_84c]/\(
newC h_75 [.int .i64 0, .int .i64 0, .int .i64 0, .int .i64 0, .int .i64 0, .bool false, .int .i64 0, .int .i64 0, .slice none 0 0] T_api_Text fun r_85 h_86 =>
stVs h_86 (⟨r_85,0,none⟩:Addr) 0 [.int .i64 r_76, .int .i64 r_77, .int .i64 r_78, .int .i64 r_79, .int .i64 r_80, .bool r_81, .int .i64 r_82, .int .i64 r_83, .slice r_84 r_84n r_84c] fun h_87 =>
ldI h_87 (((⟨r_11,0,none⟩:Addr).add 0).add 0) .i64 fun x_88 =>
ldI h_87 (((⟨r_11,0,none⟩:Addr).add 0).add 1) .i64 fun x_89 =>
ldI h_87 (((⟨r_11,0,none⟩:Addr).add 0).add 2) .i64 fun x_90 =>
ldI h_87 (((⟨r_11,0,none⟩:Addr).add 0).add 3) .i64 fun x_91 =>
ldI h_87 (((⟨r_11,0,none⟩:Addr).add 0).add 4) .i64 fun x_92 =>
ldB h_87 (((⟨r_11,0,none⟩:Addr).add 0).add 5) fun x_93 =>
ldI h_87 (((⟨r_11,0,none⟩:Addr).add 0).add 6) .i64 fun x_94 =>
ldI h_87 (((⟨r_11,0,none⟩:Addr).add 0).add 7) .i64 fun x_95 =>
ldS h_87 (((⟨r_11,0,none⟩:Addr).add 0).add 8) fun x_96 x_96n x_96c =>
C F_text_Sorted #[.agg #[.int .i64 x_88, .int .i64 x_89, .int .i64 x_90, .int .i64 x_91, .int .i64 x_92, .bool x_93, .int .i64 x_94, .int .i64 x_95, .slice x_96 x_96n x_96c]] h_87 (fun v_97 h_98 =>
∃ (r_99:Option Addr) (r_99n:Nat) (r_99c:Nat),v_97 = .slice r_99 r_99n r_99c/\(
stV h_98 ((⟨r_85,0,none⟩:Addr).add 8) (.slice r_99 r_99n r_99c) fun h_100 =>
bcase (r_61 != (0:Int)) (
K (.bool false) h_100) <|
ldI h_100 ((⟨r_62,0,none⟩:Addr).add 0) .i64 fun x_101 =>
ldI h_100 ((⟨r_62,0,none⟩:Addr).add 1) .i64 fun x_102 =>
ldI h_100 ((⟨r_62,0,none⟩:Addr).add 2) .i64 fun x_103 =>
ldI h_100 ((⟨r_62,0,none⟩:Addr).add 3) .i64 fun x_104 =>
ldI h_100 ((⟨r_62,0,none⟩:Addr).add 4) .i64 fun x_105 =>
ldB h_100 ((⟨r_62,0,none⟩:Addr).add 5) fun x_106 =>
ldI h_100 ((⟨r_62,0,none⟩:Addr).add 6) .i64 fun x_107 =>
ldI h_100 ((⟨r_62,0,none⟩:Addr).add 7) .i64 fun x_108 =>
ldS h_100 ((⟨r_62,0,none⟩:Addr).add 8) fun x_109 x_109n x_109c =>
ldI h_100 ((⟨r_85,0,none⟩:Addr).add 0) .i64 fun x_110 =>
ldI h_100 ((⟨r_85,0,none⟩:Addr).add 1) .i64 fun x_111 =>
ldI h_100 ((⟨r_85,0,none⟩:Addr).add 2) .i64 fun x_112 =>
ldI h_100 ((⟨r_85,0,none⟩:Addr).add 3) .i64 fun x_113 =>
ldI h_100 ((⟨r_85,0,none⟩:Addr).add 4) .i64 fun x_114 =>
ldB h_100 ((⟨r_85,0,none⟩:Addr).add 5) fun x_115 =>
ldI h_100 ((⟨r_85,0,none⟩:Addr).add 6) .i64 fun x_116 =>
ldI h_100 ((⟨r_85,0,none⟩:Addr).add 7) .i64 fun x_117 =>
ldS h_100 ((⟨r_85,0,none⟩:Addr).add 8) fun x_118 x_118n x_118c =>
C F_burinref0_EqText #[.agg #[.int .i64 x_101, .int .i64 x_102, .int .i64 x_103, .int .i64 x_104, .int .i64 x_105, .bool x_106, .int .i64 x_107, .int .i64 x_108, .slice x_109 x_109n x_109c], .agg #[.int .i64 x_110, .int .i64 x_111, .int .i64 x_112, .int .i64 x_113, .int .i64 x_114, .bool x_115, .int .i64 x_116, .int .i64 x_117, .slice x_118 x_118n x_118c]] h_100 (fun v_119 h_120 =>
∃ (r_121:Bool),v_119 = .bool r_121/\(
bcase (!r_121) (
K (.bool false) h_120) <|
ldI h_120 (((⟨r_11,0,none⟩:Addr).add 0).add 0) .i64 fun x_122 =>
ldI h_120 (((⟨r_11,0,none⟩:Addr).add 0).add 1) .i64 fun x_123 =>
ldI h_120 (((⟨r_11,0,none⟩:Addr).add 0).add 2) .i64 fun x_124 =>
ldI h_120 (((⟨r_11,0,none⟩:Addr).add 0).add 3) .i64 fun x_125 =>
ldI h_120 (((⟨r_11,0,none⟩:Addr).add 0).add 4) .i64 fun x_126 =>
ldB h_120 (((⟨r_11,0,none⟩:Addr).add 0).add 5) fun x_127 =>
ldI h_120 (((⟨r_11,0,none⟩:Addr).add 0).add 6) .i64 fun x_128 =>
ldI h_120 (((⟨r_11,0,none⟩:Addr).add 0).add 7) .i64 fun x_129 =>
ldS h_120 (((⟨r_11,0,none⟩:Addr).add 0).add 8) fun x_130 x_130n x_130c =>
ldS h_120 ((⟨r_11,0,none⟩:Addr).add 9) fun x_131 x_131n x_131c =>
C F_text_Draw #[.agg #[.int .i64 x_122, .int .i64 x_123, .int .i64 x_124, .int .i64 x_125, .int .i64 x_126, .bool x_127, .int .i64 x_128, .int .i64 x_129, .slice x_130 x_130n x_130c], .slice x_131 x_131n x_131c] h_120 (fun v_132 h_133 =>
∃ (r_134:Int) (r_135:Int) (r_136:Option Addr) (r_136n:Nat) (r_136c:Nat),∃ (r_137:Int),v_132 = .tuple #[.agg #[.int .i64 r_134, .int .i64 r_135, .slice r_136 r_136n r_136c], .int .i64 r_137]/\(
newC h_133 [.int .i64 0, .int .i64 0, .slice none 0 0] T_api_Bitmap fun r_138 h_139 =>
stV h_139 ((⟨r_138,0,none⟩:Addr).add 0) (.int .i64 r_134) fun h_140 =>
stV h_140 ((⟨r_138,0,none⟩:Addr).add 1) (.int .i64 r_135) fun h_141 =>
stV h_141 ((⟨r_138,0,none⟩:Addr).add 2) (.slice r_136 r_136n r_136c) fun h_142 =>
ldI h_142 ((⟨r_62,0,none⟩:Addr).add 0) .i64 fun x_143 =>
ldI h_142 ((⟨r_62,0,none⟩:Addr).add 1) .i64 fun x_144 =>
ldI h_142 ((⟨r_62,0,none⟩:Addr).add 2) .i64 fun x_145 =>
ldI h_142 ((⟨r_62,0,none⟩:Addr).add 3) .i64 fun x_146 =>
ldI h_142 ((⟨r_62,0,none⟩:Addr).add 4) .i64 fun x_147 =>
ldB h_142 ((⟨r_62,0,none⟩:Addr).add 5) fun x_148 =>
ldI h_142 ((⟨r_62,0,none⟩:Addr).add 6) .i64 fun x_149 =>
ldI h_142 ((⟨r_62,0,none⟩:Addr).add 7) .i64 fun x_150 =>
ldS h_142 ((⟨r_62,0,none⟩:Addr).add 8) fun x_151 x_151n x_151c =>
ldS h_142 ((⟨r_11,0,none⟩:Addr).add 9) fun x_152 x_152n x_152c =>
C F_text_Draw #[.agg #[.int .i64 x_143, .int .i64 x_144, .int .i64 x_145, .int .i64 x_146, .int .i64 x_147, .bool x_148, .int .i64 x_149, .int .i64 x_150, .slice x_151 x_151n x_151c], .slice x_152 x_152n x_152c] h_142 (fun v_153 h_154 =>
∃ (r_155:Int) (r_156:Int) (r_157:Option Addr) (r_157n:Nat) (r_157c:Nat),∃ (r_158:Int),v_153 = .tuple #[.agg #[.int .i64 r_155, .int .i64 r_156, .slice r_157 r_157n r_157c], .int .i64 r_158]/\(
newC h_154 [.int .i64 0, .int .i64 0, .slice none 0 0] T_api_Bitmap fun r_159 h_160 =>
stV h_160 ((⟨r_159,0,none⟩:Addr).add 0) (.int .i64 r_155) fun h_161 =>
stV h_161 ((⟨r_159,0,none⟩:Addr).add 1) (.int .i64 r_156) fun h_162 =>
stV h_162 ((⟨r_159,0,none⟩:Addr).add 2) (.slice r_157 r_157n r_157c) fun h_163 =>
ldI h_163 ((⟨r_62,0,none⟩:Addr).add 0) .i64 fun x_164 =>
ldI h_163 ((⟨r_62,0,none⟩:Addr).add 1) .i64 fun x_165 =>
ldI h_163 ((⟨r_62,0,none⟩:Addr).add 2) .i64 fun x_166 =>
ldI h_163 ((⟨r_62,0,none⟩:Addr).add 3) .i64 fun x_167 =>
ldI h_163 ((⟨r_62,0,none⟩:Addr).add 4) .i64 fun x_168 =>
ldB h_163 ((⟨r_62,0,none⟩:Addr).add 5) fun x_169 =>
ldI h_163 ((⟨r_62,0,none⟩:Addr).add 6) .i64 fun x_170 =>
ldI h_163 ((⟨r_62,0,none⟩:Addr).add 7) .i64 fun x_171 =>
ldS h_163 ((⟨r_62,0,none⟩:Addr).add 8) fun x_172 x_172n x_172c =>
ldS h_163 ((⟨r_11,0,none⟩:Addr).add 9) fun x_173 x_173n x_173c =>
C F_text_Encode #[.agg #[.int .i64 x_164, .int .i64 x_165, .int .i64 x_166, .int .i64 x_167, .int .i64 x_168, .bool x_169, .int .i64 x_170, .int .i64 x_171, .slice x_172 x_172n x_172c], .slice x_173 x_173n x_173c] h_163 (fun v_174 h_175 =>
∃ (r_176:Option Addr) (r_176n:Nat) (r_176c:Nat),∃ (r_177:Int),v_174 = .tuple #[.slice r_176 r_176n r_176c, .int .i64 r_177]/\(
bcase (r_137 == (0:Int)) (
bcase (r_158 == (0:Int)) (
bcase (r_177 == (0:Int)) (
ldI h_175 ((⟨r_138,0,none⟩:Addr).add 0) .i64 fun x_178 =>
ldI h_175 ((⟨r_138,0,none⟩:Addr).add 1) .i64 fun x_179 =>
ldS h_175 ((⟨r_138,0,none⟩:Addr).add 2) fun x_180 x_180n x_180c =>
ldI h_175 ((⟨r_159,0,none⟩:Addr).add 0) .i64 fun x_181 =>
ldI h_175 ((⟨r_159,0,none⟩:Addr).add 1) .i64 fun x_182 =>
ldS h_175 ((⟨r_159,0,none⟩:Addr).add 2) fun x_183 x_183n x_183c =>
C F_burinref0_EqBitmap #[.agg #[.int .i64 x_178, .int .i64 x_179, .slice x_180 x_180n x_180c], .agg #[.int .i64 x_181, .int .i64 x_182, .slice x_183 x_183n x_183c]] h_175 (fun v_184 h_185 =>
∃ (r_186:Bool),v_184 = .bool r_186/\(
bcase r_186 (
C F_burinref0_Eq #[.slice r_41 r_41n r_41c, .slice r_176 r_176n r_176c] h_185 (fun v_187 h_188 =>
∃ (r_189:Bool),v_187 = .bool r_189/\(
bcase r_189 (
C F_burinlaw14_wakes #[] h_188 (fun v_190 h_191 =>
∃ (r_192:Bool),v_190 = .bool r_192/\(
K (.bool r_192) h_191)) (Kp)) <|
K (.bool false) h_188)) (Kp)) <|
K (.bool false) h_185)) (Kp)) <|
K (.bool false) h_175) <|
K (.bool false) h_175) <|
K (.bool false) h_175)) (Kp))) (Kp))) (Kp))) (Kp))) (Kp))) (Kp)))) (Kp))/\(
newC h_48 [.int .i64 0, .int .i64 0, .int .i64 0, .int .i64 0, .int .i64 0, .bool false, .int .i64 0, .int .i64 0, .slice none 0 0] T_api_Text fun r_193 h_194 =>
C F_text_Decode #[.slice r_49 r_49n r_49c, .slice x_46 x_46n x_46c] h_194 (fun v_195 h_196 =>
∃ (r_197:Int) (r_198:Int) (r_199:Int) (r_200:Int) (r_201:Int) (r_202:Bool) (r_203:Int) (r_204:Int) (r_205:Option Addr) (r_205n:Nat) (r_205c:Nat),∃ (r_206:Int),v_195 = .tuple #[.agg #[.int .i64 r_197, .int .i64 r_198, .int .i64 r_199, .int .i64 r_200, .int .i64 r_201, .bool r_202, .int .i64 r_203, .int .i64 r_204, .slice r_205 r_205n r_205c], .int .i64 r_206]/\(
hext h_194 h_196/\(
stVs h_196 (⟨r_193,0,none⟩:Addr) 0 [.int .i64 r_197, .int .i64 r_198, .int .i64 r_199, .int .i64 r_200, .int .i64 r_201, .bool r_202, .int .i64 r_203, .int .i64 r_204, .slice r_205 r_205n r_205c] fun h_207 =>
ldI h_207 (((⟨r_11,0,none⟩:Addr).add 0).add 0) .i64 fun x_208 =>
ldI h_207 (((⟨r_11,0,none⟩:Addr).add 0).add 1) .i64 fun x_209 =>
ldI h_207 (((⟨r_11,0,none⟩:Addr).add 0).add 2) .i64 fun x_210 =>
ldI h_207 (((⟨r_11,0,none⟩:Addr).add 0).add 3) .i64 fun x_211 =>
ldI h_207 (((⟨r_11,0,none⟩:Addr).add 0).add 4) .i64 fun x_212 =>
ldB h_207 (((⟨r_11,0,none⟩:Addr).add 0).add 5) fun x_213 =>
ldI h_207 (((⟨r_11,0,none⟩:Addr).add 0).add 6) .i64 fun x_214 =>
ldI h_207 (((⟨r_11,0,none⟩:Addr).add 0).add 7) .i64 fun x_215 =>
ldS h_207 (((⟨r_11,0,none⟩:Addr).add 0).add 8) fun x_216 x_216n x_216c =>
C F_burinref0_CopyText #[.agg #[.int .i64 x_208, .int .i64 x_209, .int .i64 x_210, .int .i64 x_211, .int .i64 x_212, .bool x_213, .int .i64 x_214, .int .i64 x_215, .slice x_216 x_216n x_216c]] h_207 (fun v_217 h_218 =>
∃ (r_219:Int) (r_220:Int) (r_221:Int) (r_222:Int) (r_223:Int) (r_224:Bool) (r_225:Int) (r_226:Int) (r_227:Option Addr) (r_227n:Nat) (r_227c:Nat),v_217 = .agg #[.int .i64 r_219, .int .i64 r_220, .int .i64 r_221, .int .i64 r_222, .int .i64 r_223, .bool r_224, .int .i64 r_225, .int .i64 r_226, .slice r_227 r_227n r_227c]/\(
newC h_218 [.int .i64 0, .int .i64 0, .int .i64 0, .int .i64 0, .int .i64 0, .bool false, .int .i64 0, .int .i64 0, .slice none 0 0] T_api_Text fun r_228 h_229 =>
stVs h_229 (⟨r_228,0,none⟩:Addr) 0 [.int .i64 r_219, .int .i64 r_220, .int .i64 r_221, .int .i64 r_222, .int .i64 r_223, .bool r_224, .int .i64 r_225, .int .i64 r_226, .slice r_227 r_227n r_227c] fun h_230 =>
ldI h_230 (((⟨r_11,0,none⟩:Addr).add 0).add 0) .i64 fun x_231 =>
ldI h_230 (((⟨r_11,0,none⟩:Addr).add 0).add 1) .i64 fun x_232 =>
ldI h_230 (((⟨r_11,0,none⟩:Addr).add 0).add 2) .i64 fun x_233 =>
ldI h_230 (((⟨r_11,0,none⟩:Addr).add 0).add 3) .i64 fun x_234 =>
ldI h_230 (((⟨r_11,0,none⟩:Addr).add 0).add 4) .i64 fun x_235 =>
ldB h_230 (((⟨r_11,0,none⟩:Addr).add 0).add 5) fun x_236 =>
ldI h_230 (((⟨r_11,0,none⟩:Addr).add 0).add 6) .i64 fun x_237 =>
ldI h_230 (((⟨r_11,0,none⟩:Addr).add 0).add 7) .i64 fun x_238 =>
ldS h_230 (((⟨r_11,0,none⟩:Addr).add 0).add 8) fun x_239 x_239n x_239c =>
C F_text_Sorted #[.agg #[.int .i64 x_231, .int .i64 x_232, .int .i64 x_233, .int .i64 x_234, .int .i64 x_235, .bool x_236, .int .i64 x_237, .int .i64 x_238, .slice x_239 x_239n x_239c]] h_230 (fun v_240 h_241 =>
∃ (r_242:Option Addr) (r_242n:Nat) (r_242c:Nat),v_240 = .slice r_242 r_242n r_242c/\(
stV h_241 ((⟨r_228,0,none⟩:Addr).add 8) (.slice r_242 r_242n r_242c) fun h_243 =>
bcase (r_206 != (0:Int)) (
K (.bool false) h_243) <|
ldI h_243 ((⟨r_193,0,none⟩:Addr).add 0) .i64 fun x_244 =>
ldI h_243 ((⟨r_193,0,none⟩:Addr).add 1) .i64 fun x_245 =>
ldI h_243 ((⟨r_193,0,none⟩:Addr).add 2) .i64 fun x_246 =>
ldI h_243 ((⟨r_193,0,none⟩:Addr).add 3) .i64 fun x_247 =>
ldI h_243 ((⟨r_193,0,none⟩:Addr).add 4) .i64 fun x_248 =>
ldB h_243 ((⟨r_193,0,none⟩:Addr).add 5) fun x_249 =>
ldI h_243 ((⟨r_193,0,none⟩:Addr).add 6) .i64 fun x_250 =>
ldI h_243 ((⟨r_193,0,none⟩:Addr).add 7) .i64 fun x_251 =>
ldS h_243 ((⟨r_193,0,none⟩:Addr).add 8) fun x_252 x_252n x_252c =>
ldI h_243 ((⟨r_228,0,none⟩:Addr).add 0) .i64 fun x_253 =>
ldI h_243 ((⟨r_228,0,none⟩:Addr).add 1) .i64 fun x_254 =>
ldI h_243 ((⟨r_228,0,none⟩:Addr).add 2) .i64 fun x_255 =>
ldI h_243 ((⟨r_228,0,none⟩:Addr).add 3) .i64 fun x_256 =>
ldI h_243 ((⟨r_228,0,none⟩:Addr).add 4) .i64 fun x_257 =>
ldB h_243 ((⟨r_228,0,none⟩:Addr).add 5) fun x_258 =>
ldI h_243 ((⟨r_228,0,none⟩:Addr).add 6) .i64 fun x_259 =>
ldI h_243 ((⟨r_228,0,none⟩:Addr).add 7) .i64 fun x_260 =>
ldS h_243 ((⟨r_228,0,none⟩:Addr).add 8) fun x_261 x_261n x_261c =>
C F_burinref0_EqText #[.agg #[.int .i64 x_244, .int .i64 x_245, .int .i64 x_246, .int .i64 x_247, .int .i64 x_248, .bool x_249, .int .i64 x_250, .int .i64 x_251, .slice x_252 x_252n x_252c], .agg #[.int .i64 x_253, .int .i64 x_254, .int .i64 x_255, .int .i64 x_256, .int .i64 x_257, .bool x_258, .int .i64 x_259, .int .i64 x_260, .slice x_261 x_261n x_261c]] h_243 (fun v_262 h_263 =>
∃ (r_264:Bool),v_262 = .bool r_264/\(
bcase (!r_264) (
K (.bool false) h_263) <|
ldI h_263 (((⟨r_11,0,none⟩:Addr).add 0).add 0) .i64 fun x_265 =>
ldI h_263 (((⟨r_11,0,none⟩:Addr).add 0).add 1) .i64 fun x_266 =>
ldI h_263 (((⟨r_11,0,none⟩:Addr).add 0).add 2) .i64 fun x_267 =>
ldI h_263 (((⟨r_11,0,none⟩:Addr).add 0).add 3) .i64 fun x_268 =>
ldI h_263 (((⟨r_11,0,none⟩:Addr).add 0).add 4) .i64 fun x_269 =>
ldB h_263 (((⟨r_11,0,none⟩:Addr).add 0).add 5) fun x_270 =>
ldI h_263 (((⟨r_11,0,none⟩:Addr).add 0).add 6) .i64 fun x_271 =>
ldI h_263 (((⟨r_11,0,none⟩:Addr).add 0).add 7) .i64 fun x_272 =>
ldS h_263 (((⟨r_11,0,none⟩:Addr).add 0).add 8) fun x_273 x_273n x_273c =>
ldS h_263 ((⟨r_11,0,none⟩:Addr).add 9) fun x_274 x_274n x_274c =>
C F_text_Draw #[.agg #[.int .i64 x_265, .int .i64 x_266, .int .i64 x_267, .int .i64 x_268, .int .i64 x_269, .bool x_270, .int .i64 x_271, .int .i64 x_272, .slice x_273 x_273n x_273c], .slice x_274 x_274n x_274c] h_263 (fun v_275 h_276 =>
∃ (r_277:Int) (r_278:Int) (r_279:Option Addr) (r_279n:Nat) (r_279c:Nat),∃ (r_280:Int),v_275 = .tuple #[.agg #[.int .i64 r_277, .int .i64 r_278, .slice r_279 r_279n r_279c], .int .i64 r_280]/\(
newC h_276 [.int .i64 0, .int .i64 0, .slice none 0 0] T_api_Bitmap fun r_281 h_282 =>
stV h_282 ((⟨r_281,0,none⟩:Addr).add 0) (.int .i64 r_277) fun h_283 =>
stV h_283 ((⟨r_281,0,none⟩:Addr).add 1) (.int .i64 r_278) fun h_284 =>
stV h_284 ((⟨r_281,0,none⟩:Addr).add 2) (.slice r_279 r_279n r_279c) fun h_285 =>
ldI h_285 ((⟨r_193,0,none⟩:Addr).add 0) .i64 fun x_286 =>
ldI h_285 ((⟨r_193,0,none⟩:Addr).add 1) .i64 fun x_287 =>
ldI h_285 ((⟨r_193,0,none⟩:Addr).add 2) .i64 fun x_288 =>
ldI h_285 ((⟨r_193,0,none⟩:Addr).add 3) .i64 fun x_289 =>
ldI h_285 ((⟨r_193,0,none⟩:Addr).add 4) .i64 fun x_290 =>
ldB h_285 ((⟨r_193,0,none⟩:Addr).add 5) fun x_291 =>
ldI h_285 ((⟨r_193,0,none⟩:Addr).add 6) .i64 fun x_292 =>
ldI h_285 ((⟨r_193,0,none⟩:Addr).add 7) .i64 fun x_293 =>
ldS h_285 ((⟨r_193,0,none⟩:Addr).add 8) fun x_294 x_294n x_294c =>
ldS h_285 ((⟨r_11,0,none⟩:Addr).add 9) fun x_295 x_295n x_295c =>
C F_text_Draw #[.agg #[.int .i64 x_286, .int .i64 x_287, .int .i64 x_288, .int .i64 x_289, .int .i64 x_290, .bool x_291, .int .i64 x_292, .int .i64 x_293, .slice x_294 x_294n x_294c], .slice x_295 x_295n x_295c] h_285 (fun v_296 h_297 =>
∃ (r_298:Int) (r_299:Int) (r_300:Option Addr) (r_300n:Nat) (r_300c:Nat),∃ (r_301:Int),v_296 = .tuple #[.agg #[.int .i64 r_298, .int .i64 r_299, .slice r_300 r_300n r_300c], .int .i64 r_301]/\(
newC h_297 [.int .i64 0, .int .i64 0, .slice none 0 0] T_api_Bitmap fun r_302 h_303 =>
stV h_303 ((⟨r_302,0,none⟩:Addr).add 0) (.int .i64 r_298) fun h_304 =>
stV h_304 ((⟨r_302,0,none⟩:Addr).add 1) (.int .i64 r_299) fun h_305 =>
stV h_305 ((⟨r_302,0,none⟩:Addr).add 2) (.slice r_300 r_300n r_300c) fun h_306 =>
ldI h_306 ((⟨r_193,0,none⟩:Addr).add 0) .i64 fun x_307 =>
ldI h_306 ((⟨r_193,0,none⟩:Addr).add 1) .i64 fun x_308 =>
ldI h_306 ((⟨r_193,0,none⟩:Addr).add 2) .i64 fun x_309 =>
ldI h_306 ((⟨r_193,0,none⟩:Addr).add 3) .i64 fun x_310 =>
ldI h_306 ((⟨r_193,0,none⟩:Addr).add 4) .i64 fun x_311 =>
ldB h_306 ((⟨r_193,0,none⟩:Addr).add 5) fun x_312 =>
ldI h_306 ((⟨r_193,0,none⟩:Addr).add 6) .i64 fun x_313 =>
ldI h_306 ((⟨r_193,0,none⟩:Addr).add 7) .i64 fun x_314 =>
ldS h_306 ((⟨r_193,0,none⟩:Addr).add 8) fun x_315 x_315n x_315c =>
ldS h_306 ((⟨r_11,0,none⟩:Addr).add 9) fun x_316 x_316n x_316c =>
C F_text_Encode #[.agg #[.int .i64 x_307, .int .i64 x_308, .int .i64 x_309, .int .i64 x_310, .int .i64 x_311, .bool x_312, .int .i64 x_313, .int .i64 x_314, .slice x_315 x_315n x_315c], .slice x_316 x_316n x_316c] h_306 (fun v_317 h_318 =>
∃ (r_319:Option Addr) (r_319n:Nat) (r_319c:Nat),∃ (r_320:Int),v_317 = .tuple #[.slice r_319 r_319n r_319c, .int .i64 r_320]/\(
bcase (r_280 == (0:Int)) (
bcase (r_301 == (0:Int)) (
bcase (r_320 == (0:Int)) (
ldI h_318 ((⟨r_281,0,none⟩:Addr).add 0) .i64 fun x_321 =>
ldI h_318 ((⟨r_281,0,none⟩:Addr).add 1) .i64 fun x_322 =>
ldS h_318 ((⟨r_281,0,none⟩:Addr).add 2) fun x_323 x_323n x_323c =>
ldI h_318 ((⟨r_302,0,none⟩:Addr).add 0) .i64 fun x_324 =>
ldI h_318 ((⟨r_302,0,none⟩:Addr).add 1) .i64 fun x_325 =>
ldS h_318 ((⟨r_302,0,none⟩:Addr).add 2) fun x_326 x_326n x_326c =>
C F_burinref0_EqBitmap #[.agg #[.int .i64 x_321, .int .i64 x_322, .slice x_323 x_323n x_323c], .agg #[.int .i64 x_324, .int .i64 x_325, .slice x_326 x_326n x_326c]] h_318 (fun v_327 h_328 =>
∃ (r_329:Bool),v_327 = .bool r_329/\(
bcase r_329 (
C F_burinref0_Eq #[.slice r_41 r_41n r_41c, .slice r_319 r_319n r_319c] h_328 (fun v_330 h_331 =>
∃ (r_332:Bool),v_330 = .bool r_332/\(
bcase r_332 (
C F_burinlaw14_wakes #[] h_331 (fun v_333 h_334 =>
∃ (r_335:Bool),v_333 = .bool r_335/\(
K (.bool r_335) h_334)) (Kp)) <|
K (.bool false) h_331)) (Kp)) <|
K (.bool false) h_328)) (Kp)) <|
K (.bool false) h_318) <|
K (.bool false) h_318) <|
K (.bool false) h_318)) (Kp))) (Kp))) (Kp))) (Kp))) (Kp))) (Kp)))) (Kp))))) (Kp))/\(
newC h_40 [.int .i64 0, .int .i64 0, .int .i64 0, .int .i64 0, .int .i64 0, .bool false, .int .i64 0, .int .i64 0, .slice none 0 0] T_api_Text fun r_336 h_337 =>
C F_burinref0_Copy #[.slice r_41 r_41n r_41c] h_337 (fun v_338 h_339 =>
∃ (r_340:Option Addr) (r_340n:Nat) (r_340c:Nat),v_338 = .slice r_340 r_340n r_340c/\(
hext h_337 h_339/\(
C F_text_Decode #[.slice r_340 r_340n r_340c, .slice x_46 x_46n x_46c] h_339 (fun v_341 h_342 =>
∃ (r_343:Int) (r_344:Int) (r_345:Int) (r_346:Int) (r_347:Int) (r_348:Bool) (r_349:Int) (r_350:Int) (r_351:Option Addr) (r_351n:Nat) (r_351c:Nat),∃ (r_352:Int),v_341 = .tuple #[.agg #[.int .i64 r_343, .int .i64 r_344, .int .i64 r_345, .int .i64 r_346, .int .i64 r_347, .bool r_348, .int .i64 r_349, .int .i64 r_350, .slice r_351 r_351n r_351c], .int .i64 r_352]/\(
hext h_339 h_342/\(
stVs h_342 (⟨r_336,0,none⟩:Addr) 0 [.int .i64 r_343, .int .i64 r_344, .int .i64 r_345, .int .i64 r_346, .int .i64 r_347, .bool r_348, .int .i64 r_349, .int .i64 r_350, .slice r_351 r_351n r_351c] fun h_353 =>
ldI h_353 (((⟨r_11,0,none⟩:Addr).add 0).add 0) .i64 fun x_354 =>
ldI h_353 (((⟨r_11,0,none⟩:Addr).add 0).add 1) .i64 fun x_355 =>
ldI h_353 (((⟨r_11,0,none⟩:Addr).add 0).add 2) .i64 fun x_356 =>
ldI h_353 (((⟨r_11,0,none⟩:Addr).add 0).add 3) .i64 fun x_357 =>
ldI h_353 (((⟨r_11,0,none⟩:Addr).add 0).add 4) .i64 fun x_358 =>
ldB h_353 (((⟨r_11,0,none⟩:Addr).add 0).add 5) fun x_359 =>
ldI h_353 (((⟨r_11,0,none⟩:Addr).add 0).add 6) .i64 fun x_360 =>
ldI h_353 (((⟨r_11,0,none⟩:Addr).add 0).add 7) .i64 fun x_361 =>
ldS h_353 (((⟨r_11,0,none⟩:Addr).add 0).add 8) fun x_362 x_362n x_362c =>
C F_burinref0_CopyText #[.agg #[.int .i64 x_354, .int .i64 x_355, .int .i64 x_356, .int .i64 x_357, .int .i64 x_358, .bool x_359, .int .i64 x_360, .int .i64 x_361, .slice x_362 x_362n x_362c]] h_353 (fun v_363 h_364 =>
∃ (r_365:Int) (r_366:Int) (r_367:Int) (r_368:Int) (r_369:Int) (r_370:Bool) (r_371:Int) (r_372:Int) (r_373:Option Addr) (r_373n:Nat) (r_373c:Nat),v_363 = .agg #[.int .i64 r_365, .int .i64 r_366, .int .i64 r_367, .int .i64 r_368, .int .i64 r_369, .bool r_370, .int .i64 r_371, .int .i64 r_372, .slice r_373 r_373n r_373c]/\(
newC h_364 [.int .i64 0, .int .i64 0, .int .i64 0, .int .i64 0, .int .i64 0, .bool false, .int .i64 0, .int .i64 0, .slice none 0 0] T_api_Text fun r_374 h_375 =>
stVs h_375 (⟨r_374,0,none⟩:Addr) 0 [.int .i64 r_365, .int .i64 r_366, .int .i64 r_367, .int .i64 r_368, .int .i64 r_369, .bool r_370, .int .i64 r_371, .int .i64 r_372, .slice r_373 r_373n r_373c] fun h_376 =>
ldI h_376 (((⟨r_11,0,none⟩:Addr).add 0).add 0) .i64 fun x_377 =>
ldI h_376 (((⟨r_11,0,none⟩:Addr).add 0).add 1) .i64 fun x_378 =>
ldI h_376 (((⟨r_11,0,none⟩:Addr).add 0).add 2) .i64 fun x_379 =>
ldI h_376 (((⟨r_11,0,none⟩:Addr).add 0).add 3) .i64 fun x_380 =>
ldI h_376 (((⟨r_11,0,none⟩:Addr).add 0).add 4) .i64 fun x_381 =>
ldB h_376 (((⟨r_11,0,none⟩:Addr).add 0).add 5) fun x_382 =>
ldI h_376 (((⟨r_11,0,none⟩:Addr).add 0).add 6) .i64 fun x_383 =>
ldI h_376 (((⟨r_11,0,none⟩:Addr).add 0).add 7) .i64 fun x_384 =>
ldS h_376 (((⟨r_11,0,none⟩:Addr).add 0).add 8) fun x_385 x_385n x_385c =>
C F_text_Sorted #[.agg #[.int .i64 x_377, .int .i64 x_378, .int .i64 x_379, .int .i64 x_380, .int .i64 x_381, .bool x_382, .int .i64 x_383, .int .i64 x_384, .slice x_385 x_385n x_385c]] h_376 (fun v_386 h_387 =>
∃ (r_388:Option Addr) (r_388n:Nat) (r_388c:Nat),v_386 = .slice r_388 r_388n r_388c/\(
stV h_387 ((⟨r_374,0,none⟩:Addr).add 8) (.slice r_388 r_388n r_388c) fun h_389 =>
bcase (r_352 != (0:Int)) (
K (.bool false) h_389) <|
ldI h_389 ((⟨r_336,0,none⟩:Addr).add 0) .i64 fun x_390 =>
ldI h_389 ((⟨r_336,0,none⟩:Addr).add 1) .i64 fun x_391 =>
ldI h_389 ((⟨r_336,0,none⟩:Addr).add 2) .i64 fun x_392 =>
ldI h_389 ((⟨r_336,0,none⟩:Addr).add 3) .i64 fun x_393 =>
ldI h_389 ((⟨r_336,0,none⟩:Addr).add 4) .i64 fun x_394 =>
ldB h_389 ((⟨r_336,0,none⟩:Addr).add 5) fun x_395 =>
ldI h_389 ((⟨r_336,0,none⟩:Addr).add 6) .i64 fun x_396 =>
ldI h_389 ((⟨r_336,0,none⟩:Addr).add 7) .i64 fun x_397 =>
ldS h_389 ((⟨r_336,0,none⟩:Addr).add 8) fun x_398 x_398n x_398c =>
ldI h_389 ((⟨r_374,0,none⟩:Addr).add 0) .i64 fun x_399 =>
ldI h_389 ((⟨r_374,0,none⟩:Addr).add 1) .i64 fun x_400 =>
ldI h_389 ((⟨r_374,0,none⟩:Addr).add 2) .i64 fun x_401 =>
ldI h_389 ((⟨r_374,0,none⟩:Addr).add 3) .i64 fun x_402 =>
ldI h_389 ((⟨r_374,0,none⟩:Addr).add 4) .i64 fun x_403 =>
ldB h_389 ((⟨r_374,0,none⟩:Addr).add 5) fun x_404 =>
ldI h_389 ((⟨r_374,0,none⟩:Addr).add 6) .i64 fun x_405 =>
ldI h_389 ((⟨r_374,0,none⟩:Addr).add 7) .i64 fun x_406 =>
ldS h_389 ((⟨r_374,0,none⟩:Addr).add 8) fun x_407 x_407n x_407c =>
C F_burinref0_EqText #[.agg #[.int .i64 x_390, .int .i64 x_391, .int .i64 x_392, .int .i64 x_393, .int .i64 x_394, .bool x_395, .int .i64 x_396, .int .i64 x_397, .slice x_398 x_398n x_398c], .agg #[.int .i64 x_399, .int .i64 x_400, .int .i64 x_401, .int .i64 x_402, .int .i64 x_403, .bool x_404, .int .i64 x_405, .int .i64 x_406, .slice x_407 x_407n x_407c]] h_389 (fun v_408 h_409 =>
∃ (r_410:Bool),v_408 = .bool r_410/\(
bcase (!r_410) (
K (.bool false) h_409) <|
ldI h_409 (((⟨r_11,0,none⟩:Addr).add 0).add 0) .i64 fun x_411 =>
ldI h_409 (((⟨r_11,0,none⟩:Addr).add 0).add 1) .i64 fun x_412 =>
ldI h_409 (((⟨r_11,0,none⟩:Addr).add 0).add 2) .i64 fun x_413 =>
ldI h_409 (((⟨r_11,0,none⟩:Addr).add 0).add 3) .i64 fun x_414 =>
ldI h_409 (((⟨r_11,0,none⟩:Addr).add 0).add 4) .i64 fun x_415 =>
ldB h_409 (((⟨r_11,0,none⟩:Addr).add 0).add 5) fun x_416 =>
ldI h_409 (((⟨r_11,0,none⟩:Addr).add 0).add 6) .i64 fun x_417 =>
ldI h_409 (((⟨r_11,0,none⟩:Addr).add 0).add 7) .i64 fun x_418 =>
ldS h_409 (((⟨r_11,0,none⟩:Addr).add 0).add 8) fun x_419 x_419n x_419c =>
ldS h_409 ((⟨r_11,0,none⟩:Addr).add 9) fun x_420 x_420n x_420c =>
C F_text_Draw #[.agg #[.int .i64 x_411, .int .i64 x_412, .int .i64 x_413, .int .i64 x_414, .int .i64 x_415, .bool x_416, .int .i64 x_417, .int .i64 x_418, .slice x_419 x_419n x_419c], .slice x_420 x_420n x_420c] h_409 (fun v_421 h_422 =>
∃ (r_423:Int) (r_424:Int) (r_425:Option Addr) (r_425n:Nat) (r_425c:Nat),∃ (r_426:Int),v_421 = .tuple #[.agg #[.int .i64 r_423, .int .i64 r_424, .slice r_425 r_425n r_425c], .int .i64 r_426]/\(
newC h_422 [.int .i64 0, .int .i64 0, .slice none 0 0] T_api_Bitmap fun r_427 h_428 =>
stV h_428 ((⟨r_427,0,none⟩:Addr).add 0) (.int .i64 r_423) fun h_429 =>
stV h_429 ((⟨r_427,0,none⟩:Addr).add 1) (.int .i64 r_424) fun h_430 =>
stV h_430 ((⟨r_427,0,none⟩:Addr).add 2) (.slice r_425 r_425n r_425c) fun h_431 =>
ldI h_431 ((⟨r_336,0,none⟩:Addr).add 0) .i64 fun x_432 =>
ldI h_431 ((⟨r_336,0,none⟩:Addr).add 1) .i64 fun x_433 =>
ldI h_431 ((⟨r_336,0,none⟩:Addr).add 2) .i64 fun x_434 =>
ldI h_431 ((⟨r_336,0,none⟩:Addr).add 3) .i64 fun x_435 =>
ldI h_431 ((⟨r_336,0,none⟩:Addr).add 4) .i64 fun x_436 =>
ldB h_431 ((⟨r_336,0,none⟩:Addr).add 5) fun x_437 =>
ldI h_431 ((⟨r_336,0,none⟩:Addr).add 6) .i64 fun x_438 =>
ldI h_431 ((⟨r_336,0,none⟩:Addr).add 7) .i64 fun x_439 =>
ldS h_431 ((⟨r_336,0,none⟩:Addr).add 8) fun x_440 x_440n x_440c =>
ldS h_431 ((⟨r_11,0,none⟩:Addr).add 9) fun x_441 x_441n x_441c =>
C F_text_Draw #[.agg #[.int .i64 x_432, .int .i64 x_433, .int .i64 x_434, .int .i64 x_435, .int .i64 x_436, .bool x_437, .int .i64 x_438, .int .i64 x_439, .slice x_440 x_440n x_440c], .slice x_441 x_441n x_441c] h_431 (fun v_442 h_443 =>
∃ (r_444:Int) (r_445:Int) (r_446:Option Addr) (r_446n:Nat) (r_446c:Nat),∃ (r_447:Int),v_442 = .tuple #[.agg #[.int .i64 r_444, .int .i64 r_445, .slice r_446 r_446n r_446c], .int .i64 r_447]/\(
newC h_443 [.int .i64 0, .int .i64 0, .slice none 0 0] T_api_Bitmap fun r_448 h_449 =>
stV h_449 ((⟨r_448,0,none⟩:Addr).add 0) (.int .i64 r_444) fun h_450 =>
stV h_450 ((⟨r_448,0,none⟩:Addr).add 1) (.int .i64 r_445) fun h_451 =>
stV h_451 ((⟨r_448,0,none⟩:Addr).add 2) (.slice r_446 r_446n r_446c) fun h_452 =>
ldI h_452 ((⟨r_336,0,none⟩:Addr).add 0) .i64 fun x_453 =>
ldI h_452 ((⟨r_336,0,none⟩:Addr).add 1) .i64 fun x_454 =>
ldI h_452 ((⟨r_336,0,none⟩:Addr).add 2) .i64 fun x_455 =>
ldI h_452 ((⟨r_336,0,none⟩:Addr).add 3) .i64 fun x_456 =>
ldI h_452 ((⟨r_336,0,none⟩:Addr).add 4) .i64 fun x_457 =>
ldB h_452 ((⟨r_336,0,none⟩:Addr).add 5) fun x_458 =>
ldI h_452 ((⟨r_336,0,none⟩:Addr).add 6) .i64 fun x_459 =>
ldI h_452 ((⟨r_336,0,none⟩:Addr).add 7) .i64 fun x_460 =>
ldS h_452 ((⟨r_336,0,none⟩:Addr).add 8) fun x_461 x_461n x_461c =>
ldS h_452 ((⟨r_11,0,none⟩:Addr).add 9) fun x_462 x_462n x_462c =>
C F_text_Encode #[.agg #[.int .i64 x_453, .int .i64 x_454, .int .i64 x_455, .int .i64 x_456, .int .i64 x_457, .bool x_458, .int .i64 x_459, .int .i64 x_460, .slice x_461 x_461n x_461c], .slice x_462 x_462n x_462c] h_452 (fun v_463 h_464 =>
∃ (r_465:Option Addr) (r_465n:Nat) (r_465c:Nat),∃ (r_466:Int),v_463 = .tuple #[.slice r_465 r_465n r_465c, .int .i64 r_466]/\(
bcase (r_426 == (0:Int)) (
bcase (r_447 == (0:Int)) (
bcase (r_466 == (0:Int)) (
ldI h_464 ((⟨r_427,0,none⟩:Addr).add 0) .i64 fun x_467 =>
ldI h_464 ((⟨r_427,0,none⟩:Addr).add 1) .i64 fun x_468 =>
ldS h_464 ((⟨r_427,0,none⟩:Addr).add 2) fun x_469 x_469n x_469c =>
ldI h_464 ((⟨r_448,0,none⟩:Addr).add 0) .i64 fun x_470 =>
ldI h_464 ((⟨r_448,0,none⟩:Addr).add 1) .i64 fun x_471 =>
ldS h_464 ((⟨r_448,0,none⟩:Addr).add 2) fun x_472 x_472n x_472c =>
C F_burinref0_EqBitmap #[.agg #[.int .i64 x_467, .int .i64 x_468, .slice x_469 x_469n x_469c], .agg #[.int .i64 x_470, .int .i64 x_471, .slice x_472 x_472n x_472c]] h_464 (fun v_473 h_474 =>
∃ (r_475:Bool),v_473 = .bool r_475/\(
bcase r_475 (
C F_burinref0_Eq #[.slice r_41 r_41n r_41c, .slice r_465 r_465n r_465c] h_474 (fun v_476 h_477 =>
∃ (r_478:Bool),v_476 = .bool r_478/\(
bcase r_478 (
C F_burinlaw14_wakes #[] h_477 (fun v_479 h_480 =>
∃ (r_481:Bool),v_479 = .bool r_481/\(
K (.bool r_481) h_480)) (Kp)) <|
K (.bool false) h_477)) (Kp)) <|
K (.bool false) h_474)) (Kp)) <|
K (.bool false) h_464) <|
K (.bool false) h_464) <|
K (.bool false) h_464)) (Kp))) (Kp))) (Kp))) (Kp))) (Kp))) (Kp)))) (Kp)))) (Kp)))) (Kp))) (Kp)
end Go.Den.YtbknfejmdekhpaaGreat
namespace Go.Den.YtbknfejmdekhpaaGreat
open Go Go.Den
theorem call_burinlaw14_TextBack {p_1:Int} {p_2:Int} {p_3:Int} {p_4:Int} {p_5:Int} {p_6:Bool} {p_7:Int} {p_8:Int} {p_9:Option Addr} {p_9n:Nat} {p_9c:Nat} {p_10:Option Addr} {p_10n:Nat} {p_10c:Nat} {h:Heap} {K:VK} {Kp:PK} (H:burinlaw14_TextBack (CallsHP Go.Proofs.Tryz.prog) p_1 p_2 p_3 p_4 p_5 p_6 p_7 p_8 p_9 p_9n p_9c p_10 p_10n p_10c h K Kp):CallsHP Go.Proofs.Tryz.prog F_burinlaw14_TextBack #[.agg #[.int .i64 p_1, .int .i64 p_2, .int .i64 p_3, .int .i64 p_4, .int .i64 p_5, .bool p_6, .int .i64 p_7, .int .i64 p_8, .slice p_9 p_9n p_9c, .slice p_10 p_10n p_10c]] h K Kp :=
 callsHP_ofE (Hints.mk (fun i=>bif Nat.beq i 6 then some ([9], .take 0 <| .take 2 <| .take 3 <| .alt 1 (.alt 4 (.take 5 <| .take 6 <| .take 7 <| .go 8 <| .bar 9 [] <| .take 10 <| .done) <| .go 8 <| .go 4 <| .take 5 <| .take 6 <| .take 7 <| .bar 9 [] <| .take 10 <| .done) <| .go 8 <| .go 1 <| .go 4 <| .take 5 <| .take 6 <| .take 7 <| .bar 9 [] <| .take 10 <| .done) else (none)) (fun i=>none) (fun i=>none) []) (by kernel_rfl) Go.Proofs.Tryz.func5 (by kernel_rfl) (fun C=>burinlaw14_TextBack C p_1 p_2 p_3 p_4 p_5 p_6 p_7 p_8 p_9 p_9n p_9c p_10 p_10n p_10c h K Kp) (fun C=>by kernel_rfl) H
end Go.Den.YtbknfejmdekhpaaGreat
namespace Go.Bm
open Go Go.Den Go.Den.YtbknfejmdekhpaaGreat
open Go.Ar (u8s)
section
variable {hB h:Heap} {K:VK} {Kp:PK}
set_option maxHeartbeats 8000000 in
theorem tBack_tail {rU r11:Nat} {t:Reg14} {q q2 q4 qf:Option Addr} {c c2 c4 cf:Nat} {l:List Ins} {sy:List Bmp} {DF R4 V:List Ent} (hv:InsV hB q l) (hs:BmsV hB q2 sy) (hlt:Light14 t sy l) (hck:chkT t sy l=0)
  (hsF:Slot T_uint8 1 DF qf (txtB t sy l).length cf (u8s (txtB t sy l))) (hDF:∀ e∈DF,e∈V) (hL4:ListI R4 q4 c4 (srtI t.st.toNat l)) (hR4:∀ e∈R4,e∈V)
  (H:Hp hB [] h (⟨rU,true,T_api_Text,zeroT⟩::⟨r11,true,T_burinlaw14_Ask,t.cs q l.length c++[Value.slice q2 sy.length c2]⟩::V)) (hk:∀ h',hext hB h'->K (.bool true) h') :
   stVs h (⟨rU,0,none⟩:Addr) 0 [.int .i64 t.x, .int .i64 t.y, .int .i64 t.w, .int .i64 t.h, .int .i64 t.op, .bool t.rf, .int .i64 t.df, .int .i64 t.st, .slice q4 l.length c4] fun h_353 =>
   ldI h_353 (((⟨r11,0,none⟩:Addr).add 0).add 0) .i64 fun x_354 =>
   ldI h_353 (((⟨r11,0,none⟩:Addr).add 0).add 1) .i64 fun x_355 =>
   ldI h_353 (((⟨r11,0,none⟩:Addr).add 0).add 2) .i64 fun x_356 =>
   ldI h_353 (((⟨r11,0,none⟩:Addr).add 0).add 3) .i64 fun x_357 =>
   ldI h_353 (((⟨r11,0,none⟩:Addr).add 0).add 4) .i64 fun x_358 =>
   ldB h_353 (((⟨r11,0,none⟩:Addr).add 0).add 5) fun x_359 =>
   ldI h_353 (((⟨r11,0,none⟩:Addr).add 0).add 6) .i64 fun x_360 =>
   ldI h_353 (((⟨r11,0,none⟩:Addr).add 0).add 7) .i64 fun x_361 =>
   ldS h_353 (((⟨r11,0,none⟩:Addr).add 0).add 8) fun x_362 x_362n x_362c =>
   CP F_burinref0_CopyText #[.agg #[.int .i64 x_354, .int .i64 x_355, .int .i64 x_356, .int .i64 x_357, .int .i64 x_358, .bool x_359, .int .i64 x_360, .int .i64 x_361, .slice x_362 x_362n x_362c]] h_353 (fun v_363 h_364 =>
   ∃ (r_365:Int) (r_366:Int) (r_367:Int) (r_368:Int) (r_369:Int) (r_370:Bool) (r_371:Int) (r_372:Int) (r_373:Option Addr) (r_373n:Nat) (r_373c:Nat),v_363 = .agg #[.int .i64 r_365, .int .i64 r_366, .int .i64 r_367, .int .i64 r_368, .int .i64 r_369, .bool r_370, .int .i64 r_371, .int .i64 r_372, .slice r_373 r_373n r_373c]/\(
   newC h_364 [.int .i64 0, .int .i64 0, .int .i64 0, .int .i64 0, .int .i64 0, .bool false, .int .i64 0, .int .i64 0, .slice none 0 0] T_api_Text fun r_374 h_375 =>
   stVs h_375 (⟨r_374,0,none⟩:Addr) 0 [.int .i64 r_365, .int .i64 r_366, .int .i64 r_367, .int .i64 r_368, .int .i64 r_369, .bool r_370, .int .i64 r_371, .int .i64 r_372, .slice r_373 r_373n r_373c] fun h_376 =>
   ldI h_376 (((⟨r11,0,none⟩:Addr).add 0).add 0) .i64 fun x_377 =>
   ldI h_376 (((⟨r11,0,none⟩:Addr).add 0).add 1) .i64 fun x_378 =>
   ldI h_376 (((⟨r11,0,none⟩:Addr).add 0).add 2) .i64 fun x_379 =>
   ldI h_376 (((⟨r11,0,none⟩:Addr).add 0).add 3) .i64 fun x_380 =>
   ldI h_376 (((⟨r11,0,none⟩:Addr).add 0).add 4) .i64 fun x_381 =>
   ldB h_376 (((⟨r11,0,none⟩:Addr).add 0).add 5) fun x_382 =>
   ldI h_376 (((⟨r11,0,none⟩:Addr).add 0).add 6) .i64 fun x_383 =>
   ldI h_376 (((⟨r11,0,none⟩:Addr).add 0).add 7) .i64 fun x_384 =>
   ldS h_376 (((⟨r11,0,none⟩:Addr).add 0).add 8) fun x_385 x_385n x_385c =>
   CP F_text_Sorted #[.agg #[.int .i64 x_377, .int .i64 x_378, .int .i64 x_379, .int .i64 x_380, .int .i64 x_381, .bool x_382, .int .i64 x_383, .int .i64 x_384, .slice x_385 x_385n x_385c]] h_376 (fun v_386 h_387 =>
   ∃ (r_388:Option Addr) (r_388n:Nat) (r_388c:Nat),v_386 = .slice r_388 r_388n r_388c/\(
   stV h_387 ((⟨r_374,0,none⟩:Addr).add 8) (.slice r_388 r_388n r_388c) fun h_389 =>
   bcase ((0:Int) != (0:Int)) (
   K (.bool false) h_389) <|
   ldI h_389 ((⟨rU,0,none⟩:Addr).add 0) .i64 fun x_390 =>
   ldI h_389 ((⟨rU,0,none⟩:Addr).add 1) .i64 fun x_391 =>
   ldI h_389 ((⟨rU,0,none⟩:Addr).add 2) .i64 fun x_392 =>
   ldI h_389 ((⟨rU,0,none⟩:Addr).add 3) .i64 fun x_393 =>
   ldI h_389 ((⟨rU,0,none⟩:Addr).add 4) .i64 fun x_394 =>
   ldB h_389 ((⟨rU,0,none⟩:Addr).add 5) fun x_395 =>
   ldI h_389 ((⟨rU,0,none⟩:Addr).add 6) .i64 fun x_396 =>
   ldI h_389 ((⟨rU,0,none⟩:Addr).add 7) .i64 fun x_397 =>
   ldS h_389 ((⟨rU,0,none⟩:Addr).add 8) fun x_398 x_398n x_398c =>
   ldI h_389 ((⟨r_374,0,none⟩:Addr).add 0) .i64 fun x_399 =>
   ldI h_389 ((⟨r_374,0,none⟩:Addr).add 1) .i64 fun x_400 =>
   ldI h_389 ((⟨r_374,0,none⟩:Addr).add 2) .i64 fun x_401 =>
   ldI h_389 ((⟨r_374,0,none⟩:Addr).add 3) .i64 fun x_402 =>
   ldI h_389 ((⟨r_374,0,none⟩:Addr).add 4) .i64 fun x_403 =>
   ldB h_389 ((⟨r_374,0,none⟩:Addr).add 5) fun x_404 =>
   ldI h_389 ((⟨r_374,0,none⟩:Addr).add 6) .i64 fun x_405 =>
   ldI h_389 ((⟨r_374,0,none⟩:Addr).add 7) .i64 fun x_406 =>
   ldS h_389 ((⟨r_374,0,none⟩:Addr).add 8) fun x_407 x_407n x_407c =>
   CP F_burinref0_EqText #[.agg #[.int .i64 x_390, .int .i64 x_391, .int .i64 x_392, .int .i64 x_393, .int .i64 x_394, .bool x_395, .int .i64 x_396, .int .i64 x_397, .slice x_398 x_398n x_398c], .agg #[.int .i64 x_399, .int .i64 x_400, .int .i64 x_401, .int .i64 x_402, .int .i64 x_403, .bool x_404, .int .i64 x_405, .int .i64 x_406, .slice x_407 x_407n x_407c]] h_389 (fun v_408 h_409 =>
   ∃ (r_410:Bool),v_408 = .bool r_410/\(
   bcase (!r_410) (
   K (.bool false) h_409) <|
   ldI h_409 (((⟨r11,0,none⟩:Addr).add 0).add 0) .i64 fun x_411 =>
   ldI h_409 (((⟨r11,0,none⟩:Addr).add 0).add 1) .i64 fun x_412 =>
   ldI h_409 (((⟨r11,0,none⟩:Addr).add 0).add 2) .i64 fun x_413 =>
   ldI h_409 (((⟨r11,0,none⟩:Addr).add 0).add 3) .i64 fun x_414 =>
   ldI h_409 (((⟨r11,0,none⟩:Addr).add 0).add 4) .i64 fun x_415 =>
   ldB h_409 (((⟨r11,0,none⟩:Addr).add 0).add 5) fun x_416 =>
   ldI h_409 (((⟨r11,0,none⟩:Addr).add 0).add 6) .i64 fun x_417 =>
   ldI h_409 (((⟨r11,0,none⟩:Addr).add 0).add 7) .i64 fun x_418 =>
   ldS h_409 (((⟨r11,0,none⟩:Addr).add 0).add 8) fun x_419 x_419n x_419c =>
   ldS h_409 ((⟨r11,0,none⟩:Addr).add 9) fun x_420 x_420n x_420c =>
   CP F_text_Draw #[.agg #[.int .i64 x_411, .int .i64 x_412, .int .i64 x_413, .int .i64 x_414, .int .i64 x_415, .bool x_416, .int .i64 x_417, .int .i64 x_418, .slice x_419 x_419n x_419c], .slice x_420 x_420n x_420c] h_409 (fun v_421 h_422 =>
   ∃ (r_423:Int) (r_424:Int) (r_425:Option Addr) (r_425n:Nat) (r_425c:Nat),∃ (r_426:Int),v_421 = .tuple #[.agg #[.int .i64 r_423, .int .i64 r_424, .slice r_425 r_425n r_425c], .int .i64 r_426]/\(
   newC h_422 [.int .i64 0, .int .i64 0, .slice none 0 0] T_api_Bitmap fun r_427 h_428 =>
   stV h_428 ((⟨r_427,0,none⟩:Addr).add 0) (.int .i64 r_423) fun h_429 =>
   stV h_429 ((⟨r_427,0,none⟩:Addr).add 1) (.int .i64 r_424) fun h_430 =>
   stV h_430 ((⟨r_427,0,none⟩:Addr).add 2) (.slice r_425 r_425n r_425c) fun h_431 =>
   ldI h_431 ((⟨rU,0,none⟩:Addr).add 0) .i64 fun x_432 =>
   ldI h_431 ((⟨rU,0,none⟩:Addr).add 1) .i64 fun x_433 =>
   ldI h_431 ((⟨rU,0,none⟩:Addr).add 2) .i64 fun x_434 =>
   ldI h_431 ((⟨rU,0,none⟩:Addr).add 3) .i64 fun x_435 =>
   ldI h_431 ((⟨rU,0,none⟩:Addr).add 4) .i64 fun x_436 =>
   ldB h_431 ((⟨rU,0,none⟩:Addr).add 5) fun x_437 =>
   ldI h_431 ((⟨rU,0,none⟩:Addr).add 6) .i64 fun x_438 =>
   ldI h_431 ((⟨rU,0,none⟩:Addr).add 7) .i64 fun x_439 =>
   ldS h_431 ((⟨rU,0,none⟩:Addr).add 8) fun x_440 x_440n x_440c =>
   ldS h_431 ((⟨r11,0,none⟩:Addr).add 9) fun x_441 x_441n x_441c =>
   CP F_text_Draw #[.agg #[.int .i64 x_432, .int .i64 x_433, .int .i64 x_434, .int .i64 x_435, .int .i64 x_436, .bool x_437, .int .i64 x_438, .int .i64 x_439, .slice x_440 x_440n x_440c], .slice x_441 x_441n x_441c] h_431 (fun v_442 h_443 =>
   ∃ (r_444:Int) (r_445:Int) (r_446:Option Addr) (r_446n:Nat) (r_446c:Nat),∃ (r_447:Int),v_442 = .tuple #[.agg #[.int .i64 r_444, .int .i64 r_445, .slice r_446 r_446n r_446c], .int .i64 r_447]/\(
   newC h_443 [.int .i64 0, .int .i64 0, .slice none 0 0] T_api_Bitmap fun r_448 h_449 =>
   stV h_449 ((⟨r_448,0,none⟩:Addr).add 0) (.int .i64 r_444) fun h_450 =>
   stV h_450 ((⟨r_448,0,none⟩:Addr).add 1) (.int .i64 r_445) fun h_451 =>
   stV h_451 ((⟨r_448,0,none⟩:Addr).add 2) (.slice r_446 r_446n r_446c) fun h_452 =>
   ldI h_452 ((⟨rU,0,none⟩:Addr).add 0) .i64 fun x_453 =>
   ldI h_452 ((⟨rU,0,none⟩:Addr).add 1) .i64 fun x_454 =>
   ldI h_452 ((⟨rU,0,none⟩:Addr).add 2) .i64 fun x_455 =>
   ldI h_452 ((⟨rU,0,none⟩:Addr).add 3) .i64 fun x_456 =>
   ldI h_452 ((⟨rU,0,none⟩:Addr).add 4) .i64 fun x_457 =>
   ldB h_452 ((⟨rU,0,none⟩:Addr).add 5) fun x_458 =>
   ldI h_452 ((⟨rU,0,none⟩:Addr).add 6) .i64 fun x_459 =>
   ldI h_452 ((⟨rU,0,none⟩:Addr).add 7) .i64 fun x_460 =>
   ldS h_452 ((⟨rU,0,none⟩:Addr).add 8) fun x_461 x_461n x_461c =>
   ldS h_452 ((⟨r11,0,none⟩:Addr).add 9) fun x_462 x_462n x_462c =>
   CP F_text_Encode #[.agg #[.int .i64 x_453, .int .i64 x_454, .int .i64 x_455, .int .i64 x_456, .int .i64 x_457, .bool x_458, .int .i64 x_459, .int .i64 x_460, .slice x_461 x_461n x_461c], .slice x_462 x_462n x_462c] h_452 (fun v_463 h_464 =>
   ∃ (r_465:Option Addr) (r_465n:Nat) (r_465c:Nat),∃ (r_466:Int),v_463 = .tuple #[.slice r_465 r_465n r_465c, .int .i64 r_466]/\(
   bcase (r_426 == (0:Int)) (
   bcase (r_447 == (0:Int)) (
   bcase (r_466 == (0:Int)) (
   ldI h_464 ((⟨r_427,0,none⟩:Addr).add 0) .i64 fun x_467 =>
   ldI h_464 ((⟨r_427,0,none⟩:Addr).add 1) .i64 fun x_468 =>
   ldS h_464 ((⟨r_427,0,none⟩:Addr).add 2) fun x_469 x_469n x_469c =>
   ldI h_464 ((⟨r_448,0,none⟩:Addr).add 0) .i64 fun x_470 =>
   ldI h_464 ((⟨r_448,0,none⟩:Addr).add 1) .i64 fun x_471 =>
   ldS h_464 ((⟨r_448,0,none⟩:Addr).add 2) fun x_472 x_472n x_472c =>
   CP F_burinref0_EqBitmap #[.agg #[.int .i64 x_467, .int .i64 x_468, .slice x_469 x_469n x_469c], .agg #[.int .i64 x_470, .int .i64 x_471, .slice x_472 x_472n x_472c]] h_464 (fun v_473 h_474 =>
   ∃ (r_475:Bool),v_473 = .bool r_475/\(
   bcase r_475 (
   CP F_burinref0_Eq #[.slice qf (txtB t sy l).length cf, .slice r_465 r_465n r_465c] h_474 (fun v_476 h_477 =>
   ∃ (r_478:Bool),v_476 = .bool r_478/\(
   bcase r_478 (
   CP F_burinlaw14_wakes #[] h_477 (fun v_479 h_480 =>
   ∃ (r_481:Bool),v_479 = .bool r_481/\(
   K (.bool r_481) h_480)) (Kp)) <|
   K (.bool false) h_477)) (Kp)) <|
   K (.bool false) h_474)) (Kp)) <|
   K (.bool false) h_464) <|
   K (.bool false) h_464) <|
   K (.bool false) h_464)) (Kp))) (Kp))) (Kp))) (Kp))) (Kp))) (Kp):=by
 have hn1:=hlt.n1
 have hn2:=hlt.n2
 obtain ⟨hf,_,_,har⟩:=chkT_zero hck
 have hst:=hf.2.1.2.2.2.2.2
 have hpm:=srtI_perm t.st.toNat l
 have hws:∀ i∈l,i.b.ws.length<=1000000000000:=fun i hi=>Nat.le_trans (hlt.w1 i hi) (by decide)
 refine stVsA H 0 rfl rfl rfl fun h H=>?_
 have H:Hp hB [] h (⟨rU,true,T_api_Text,t.cs q4 l.length c4⟩::⟨r11,true,T_burinlaw14_Ask,t.cs q l.length c++[Value.slice q2 sy.length c2]⟩::V):=H
 repeat first | with_reducible refine ldI_of (by with_unfolding_all first | exact hpA H 1 rfl rfl | exact Hp.cell H 1 rfl rfl | exact hpB H 1 rfl rfl | exact hpC H 1 rfl rfl) ?_ | with_reducible refine ldS_of (by with_unfolding_all first | exact hpA H 1 rfl rfl | exact Hp.cell H 1 rfl rfl | exact hpB H 1 rfl rfl | exact hpC H 1 rfl rfl) ?_ | with_reducible refine ldP_of (by with_unfolding_all first | exact hpA H 1 rfl rfl | exact Hp.cell H 1 rfl rfl | exact hpB H 1 rfl rfl | exact hpC H 1 rfl rfl) ?_ | with_reducible refine ldB_of (by with_unfolding_all first | exact hpA H 1 rfl rfl | exact Hp.cell H 1 rfl rfl | exact hpB H 1 rfl rfl | exact hpC H 1 rfl rfl) ?_ | with_reducible refine ldT_of (by with_unfolding_all first | exact hpA H 1 rfl rfl | exact Hp.cell H 1 rfl rfl | exact hpB H 1 rfl rfl | exact hpC H 1 rfl rfl) ?_
 refine cpText_ok (t:=t) (hv.ext H.hext) (by omega) hws fun R q' c' h' hL H'=>?_
 have H:=H.join H' hL.w
 clear H'
 refine ⟨_,_,_,_,_,_,_,_,_,_,_,rfl,?_⟩
 refine newC_hp H fun r85 h H=>?_
 have H:=H.rot
 refine stVsA H 0 rfl rfl rfl fun h H=>?_
 have H:Hp hB [] h (⟨r85,true,T_api_Text,t.cs q' l.length c'⟩::⟨rU,true,T_api_Text,t.cs q4 l.length c4⟩::⟨r11,true,T_burinlaw14_Ask,t.cs q l.length c++[Value.slice q2 sy.length c2]⟩::(V++R)):=H
 repeat first | with_reducible refine ldI_of (by with_unfolding_all first | exact hpA H 2 rfl rfl | exact Hp.cell H 2 rfl rfl | exact hpB H 2 rfl rfl | exact hpC H 2 rfl rfl) ?_ | with_reducible refine ldS_of (by with_unfolding_all first | exact hpA H 2 rfl rfl | exact Hp.cell H 2 rfl rfl | exact hpB H 2 rfl rfl | exact hpC H 2 rfl rfl) ?_ | with_reducible refine ldP_of (by with_unfolding_all first | exact hpA H 2 rfl rfl | exact Hp.cell H 2 rfl rfl | exact hpB H 2 rfl rfl | exact hpC H 2 rfl rfl) ?_ | with_reducible refine ldB_of (by with_unfolding_all first | exact hpA H 2 rfl rfl | exact Hp.cell H 2 rfl rfl | exact hpB H 2 rfl rfl | exact hpC H 2 rfl rfl) ?_ | with_reducible refine ldT_of (by with_unfolding_all first | exact hpA H 2 rfl rfl | exact Hp.cell H 2 rfl rfl | exact hpB H 2 rfl rfl | exact hpC H 2 rfl rfl) ?_
 refine sortedP_ok (t:=t) (hv.ext H.hext) (by omega) hws fun R5 q5 c5 h' hL5 H'=>?_
 have H:=H.join H' hL5.w
 clear H'
 rw [stOf_reg hst] at hL5
 refine ⟨_,_,_,rfl,?_⟩
 refine stA H 0 rfl rfl rfl fun h H=>?_
 have H:Hp hB [] h (⟨r85,true,T_api_Text,t.cs q5 l.length c5⟩::⟨rU,true,T_api_Text,t.cs q4 l.length c4⟩::⟨r11,true,T_burinlaw14_Ask,t.cs q l.length c++[Value.slice q2 sy.length c2]⟩::(V++R++R5)):=H
 refine bcase_ne (fun hh=>absurd rfl hh) fun _=>?_
 repeat first | with_reducible refine ldI_of (by with_unfolding_all first | exact hpA H 1 rfl rfl | exact Hp.cell H 1 rfl rfl | exact hpB H 1 rfl rfl | exact hpC H 1 rfl rfl) ?_ | with_reducible refine ldS_of (by with_unfolding_all first | exact hpA H 1 rfl rfl | exact Hp.cell H 1 rfl rfl | exact hpB H 1 rfl rfl | exact hpC H 1 rfl rfl) ?_ | with_reducible refine ldP_of (by with_unfolding_all first | exact hpA H 1 rfl rfl | exact Hp.cell H 1 rfl rfl | exact hpB H 1 rfl rfl | exact hpC H 1 rfl rfl) ?_ | with_reducible refine ldB_of (by with_unfolding_all first | exact hpA H 1 rfl rfl | exact Hp.cell H 1 rfl rfl | exact hpB H 1 rfl rfl | exact hpC H 1 rfl rfl) ?_ | with_reducible refine ldT_of (by with_unfolding_all first | exact hpA H 1 rfl rfl | exact Hp.cell H 1 rfl rfl | exact hpB H 1 rfl rfl | exact hpC H 1 rfl rfl) ?_
 repeat first | with_reducible refine ldI_of (by with_unfolding_all first | exact hpA H 0 rfl rfl | exact Hp.cell H 0 rfl rfl | exact hpB H 0 rfl rfl | exact hpC H 0 rfl rfl) ?_ | with_reducible refine ldS_of (by with_unfolding_all first | exact hpA H 0 rfl rfl | exact Hp.cell H 0 rfl rfl | exact hpB H 0 rfl rfl | exact hpC H 0 rfl rfl) ?_ | with_reducible refine ldP_of (by with_unfolding_all first | exact hpA H 0 rfl rfl | exact Hp.cell H 0 rfl rfl | exact hpB H 0 rfl rfl | exact hpC H 0 rfl rfl) ?_ | with_reducible refine ldB_of (by with_unfolding_all first | exact hpA H 0 rfl rfl | exact Hp.cell H 0 rfl rfl | exact hpB H 0 rfl rfl | exact hpC H 0 rfl rfl) ?_ | with_reducible refine ldT_of (by with_unfolding_all first | exact hpA H 0 rfl rfl | exact Hp.cell H 0 rfl rfl | exact hpB H 0 rfl rfl | exact hpC H 0 rfl rfl) ?_
 refine eqText_ok (t:=t) (l:=srtI t.st.toNat l) (srtI_len _ _) (by omega) (hL4.view H fun e he=>by simp [hR4 e he]) (hL5.view H fun e he=>by simp [he]) fun h' e=>⟨_,rfl,?_⟩
 have H:=H.ext e
 clear e
 refine bcase_false rfl ?_
 repeat first | with_reducible refine ldI_of (by with_unfolding_all first | exact hpA H 2 rfl rfl | exact Hp.cell H 2 rfl rfl | exact hpB H 2 rfl rfl | exact hpC H 2 rfl rfl) ?_ | with_reducible refine ldS_of (by with_unfolding_all first | exact hpA H 2 rfl rfl | exact Hp.cell H 2 rfl rfl | exact hpB H 2 rfl rfl | exact hpC H 2 rfl rfl) ?_ | with_reducible refine ldP_of (by with_unfolding_all first | exact hpA H 2 rfl rfl | exact Hp.cell H 2 rfl rfl | exact hpB H 2 rfl rfl | exact hpC H 2 rfl rfl) ?_ | with_reducible refine ldB_of (by with_unfolding_all first | exact hpA H 2 rfl rfl | exact Hp.cell H 2 rfl rfl | exact hpB H 2 rfl rfl | exact hpC H 2 rfl rfl) ?_ | with_reducible refine ldT_of (by with_unfolding_all first | exact hpA H 2 rfl rfl | exact Hp.cell H 2 rfl rfl | exact hpB H 2 rfl rfl | exact hpC H 2 rfl rfl) ?_
 refine tDrawN (t:=t) (l:=l) rfl (by omega) (hv.ext H.hext) (hs.ext H.hext) (by omega) hck fun RA DA qA cA h' hpa hsA H'=>?_
 have H:=H.join H' hsA.w
 clear H'
 refine ⟨_,_,_,_,_,_,rfl,?_⟩
 refine newC_hp H fun r138 h H=>?_
 have H:=H.rot
 refine stA H 0 rfl rfl rfl fun h H=>?_
 refine stA H 0 rfl rfl rfl fun h H=>?_
 refine stA H 0 rfl rfl rfl fun h H=>?_
 have H:Hp hB [] h (⟨r138,true,T_api_Bitmap,[.int .i64 t.w, .int .i64 t.h, .slice qA RA.length cA]⟩::⟨r85,true,T_api_Text,t.cs q5 l.length c5⟩::⟨rU,true,T_api_Text,t.cs q4 l.length c4⟩::⟨r11,true,T_burinlaw14_Ask,t.cs q l.length c++[Value.slice q2 sy.length c2]⟩::(V++R++R5++DA)):=H
 repeat first | with_reducible refine ldI_of (by with_unfolding_all first | exact hpA H 2 rfl rfl | exact Hp.cell H 2 rfl rfl | exact hpB H 2 rfl rfl | exact hpC H 2 rfl rfl) ?_ | with_reducible refine ldS_of (by with_unfolding_all first | exact hpA H 2 rfl rfl | exact Hp.cell H 2 rfl rfl | exact hpB H 2 rfl rfl | exact hpC H 2 rfl rfl) ?_ | with_reducible refine ldP_of (by with_unfolding_all first | exact hpA H 2 rfl rfl | exact Hp.cell H 2 rfl rfl | exact hpB H 2 rfl rfl | exact hpC H 2 rfl rfl) ?_ | with_reducible refine ldB_of (by with_unfolding_all first | exact hpA H 2 rfl rfl | exact Hp.cell H 2 rfl rfl | exact hpB H 2 rfl rfl | exact hpC H 2 rfl rfl) ?_ | with_reducible refine ldT_of (by with_unfolding_all first | exact hpA H 2 rfl rfl | exact Hp.cell H 2 rfl rfl | exact hpB H 2 rfl rfl | exact hpC H 2 rfl rfl) ?_
 refine ldS_of (hpA H 3 rfl rfl) ?_
 refine tDrawN (t:=t) (l:=srtI t.st.toNat l) (srtI_len _ _) (by omega) (hL4.view H fun e he=>by simp [hR4 e he]) (hs.ext H.hext) (by omega) (chkT_perm hpm hck) fun RB DB qB cB h' hpb hsB H'=>?_
 have H:=H.join H' hsB.w
 clear H'
 rw [srtI_idem] at hpb
 have eAB:RA=RB:=hpa.eq hpb
 refine ⟨_,_,_,_,_,_,rfl,?_⟩
 refine newC_hp H fun r159 h H=>?_
 have H:=H.rot
 refine stA H 0 rfl rfl rfl fun h H=>?_
 refine stA H 0 rfl rfl rfl fun h H=>?_
 refine stA H 0 rfl rfl rfl fun h H=>?_
 have H:Hp hB [] h (⟨r159,true,T_api_Bitmap,[.int .i64 t.w, .int .i64 t.h, .slice qB RB.length cB]⟩::⟨r138,true,T_api_Bitmap,[.int .i64 t.w, .int .i64 t.h, .slice qA RA.length cA]⟩::⟨r85,true,T_api_Text,t.cs q5 l.length c5⟩::⟨rU,true,T_api_Text,t.cs q4 l.length c4⟩::⟨r11,true,T_burinlaw14_Ask,t.cs q l.length c++[Value.slice q2 sy.length c2]⟩::(V++R++R5++DA++DB)):=H
 repeat first | with_reducible refine ldI_of (by with_unfolding_all first | exact hpA H 3 rfl rfl | exact Hp.cell H 3 rfl rfl | exact hpB H 3 rfl rfl | exact hpC H 3 rfl rfl) ?_ | with_reducible refine ldS_of (by with_unfolding_all first | exact hpA H 3 rfl rfl | exact Hp.cell H 3 rfl rfl | exact hpB H 3 rfl rfl | exact hpC H 3 rfl rfl) ?_ | with_reducible refine ldP_of (by with_unfolding_all first | exact hpA H 3 rfl rfl | exact Hp.cell H 3 rfl rfl | exact hpB H 3 rfl rfl | exact hpC H 3 rfl rfl) ?_ | with_reducible refine ldB_of (by with_unfolding_all first | exact hpA H 3 rfl rfl | exact Hp.cell H 3 rfl rfl | exact hpB H 3 rfl rfl | exact hpC H 3 rfl rfl) ?_ | with_reducible refine ldT_of (by with_unfolding_all first | exact hpA H 3 rfl rfl | exact Hp.cell H 3 rfl rfl | exact hpB H 3 rfl rfl | exact hpC H 3 rfl rfl) ?_
 refine ldS_of (hpA H 4 rfl rfl) ?_
 have henc:∀ {K1:VK},(∀ D qo co h',Slot T_uint8 1 D qo (txtB t sy l).length co (u8s (txtB t sy l))->Hp h [] h' D->K1 (.tuple #[.slice qo (txtB t sy l).length co, .int .i64 0]) h')->CP F_text_Encode #[t.ag q4 l.length c4, .slice q2 sy.length c2] h K1 Kp:=fun {K1} hk1=>by
  have hck2:=chkT_perm hpm hck
  have e2:txtB t sy (srtI t.st.toNat l)=txtB t sy l:=by
   unfold txtB allD
   rw [srtI_idem,srtI_len]
  have:=tEnc_ok (hB:=h) (K:=K1) (Kp:=Kp) (t:=t) (q:=q4) (c:=c4) (q2:=q2) (c2:=c2) (sy:=sy) (l:=srtI t.st.toNat l) (hL4.view H fun e he=>by simp [hR4 e he]) (hs.ext H.hext) (by rw [srtI_len]; omega) (by omega)
  rw [encT_ok hck2,hck2,e2,srtI_len] at this
  exact this hk1
 refine henc fun D9 q9 c9 h' hs9 H'=>?_
 have H:=H.join H' hs9.w
 clear H' henc
 refine ⟨_,_,_,_,rfl,?_⟩
 refine bcase_eq (fun _=>?_) fun hh=>absurd rfl hh
 refine bcase_eq (fun _=>?_) fun hh=>absurd rfl hh
 refine bcase_eq (fun _=>?_) fun hh=>absurd rfl hh
 have H:Hp hB [] h' (⟨r159,true,T_api_Bitmap,[.int .i64 t.w, .int .i64 t.h, .slice qB RB.length cB]⟩::⟨r138,true,T_api_Bitmap,[.int .i64 t.w, .int .i64 t.h, .slice qA RA.length cA]⟩::⟨r85,true,T_api_Text,t.cs q5 l.length c5⟩::⟨rU,true,T_api_Text,t.cs q4 l.length c4⟩::⟨r11,true,T_burinlaw14_Ask,t.cs q l.length c++[Value.slice q2 sy.length c2]⟩::(V++R++R5++DA++DB++D9)):=H
 refine ldI_of (hpA H 1 rfl rfl) (ldI_of (hpA H 1 rfl rfl) (ldS_of (hpA H 1 rfl rfl) ?_))
 refine ldI_of (hpA H 0 rfl rfl) (ldI_of (hpA H 0 rfl rfl) (ldS_of (hpA H 0 rfl rfl) ?_))
 have hRl:RA.length<140737488351300:=by
  obtain ⟨W,XX,e1,e2,hW1,hW2,hX1,hX2,hWX⟩:=size_nat hf.2.1.1
  have:=hpa.1
  rw [e1,e2,Int.toNat_natCast,Int.toNat_natCast] at this
  have:=hw_le hW1 hWX
  omega
 refine eqB_ok (xs:=RA) (ys:=RB) (Slot.rdO' hsA H fun e he=>by simp [he]) (Slot.rdO' hsB H fun e he=>by simp [he]) hRl fun h' e=>⟨_,rfl,?_⟩
 have H:=H.ext e
 clear e
 rw [decide_eq_true (by exact ⟨rfl,rfl,eAB⟩)]
 refine bcase_true rfl ?_
 have hbl:=(txtB_rd hf (by omega) (by omega) har).bl
 refine Go.Ar.eq_ok (xs:=txtB t sy l) (ys:=txtB t sy l) (Slot.rdO' hsF H fun e he=>by simp [hDF e he]) (Slot.rdO' hs9 H fun e he=>by simp [he]) (by omega) ⟨_,rfl,?_⟩
 rw [decide_eq_true rfl]
 refine bcase_true rfl ?_
 exact wakes14_ok fun h' e=>⟨_,rfl,hk _ (H.hext.trans e)⟩
set_option maxHeartbeats 8000000 in
theorem tBack_law {t:Reg14} {q q2:Option Addr} {c c2:Nat} {l:List Ins} {sy:List Bmp} (hv:InsV hB q l) (hl:l.length<=4000000000000) (hs:BmsV hB q2 sy) (hsl:sy.length<=4000000000000) (hk:∀ h',hext hB h'->K (.bool true) h') :
  CP F_burinlaw14_TextBack #[.agg #[.int .i64 t.x, .int .i64 t.y, .int .i64 t.w, .int .i64 t.h, .int .i64 t.op, .bool t.rf, .int .i64 t.df, .int .i64 t.st, .slice q l.length c, .slice q2 sy.length c2]] hB K Kp:=by
 refine call_burinlaw14_TextBack ?_
 unfold burinlaw14_TextBack
 have H:=Hp.nil hB []
 refine newC_hp H fun r11 h H=>?_
 have H:Hp hB [] h [⟨r11,true,T_burinlaw14_Ask,t.cs q l.length c++[Value.slice q2 sy.length c2]⟩]:=H
 have wk:∀ {h},hext hB h->CP F_burinlaw14_wakes #[] h (fun v_26 h_27=>∃ (r_28:Bool),v_26 = .bool r_28/\(K (.bool r_28) h_27)) (Kp):=fun e=>wakes14_ok fun h' e'=>⟨_,rfl,hk _ (e.trans e')⟩
 repeat first | with_reducible refine ldI_of (by with_unfolding_all first | exact hpA H 0 rfl rfl | exact Hp.cell H 0 rfl rfl | exact hpB H 0 rfl rfl | exact hpC H 0 rfl rfl) ?_ | with_reducible refine ldS_of (by with_unfolding_all first | exact hpA H 0 rfl rfl | exact Hp.cell H 0 rfl rfl | exact hpB H 0 rfl rfl | exact hpC H 0 rfl rfl) ?_ | with_reducible refine ldP_of (by with_unfolding_all first | exact hpA H 0 rfl rfl | exact Hp.cell H 0 rfl rfl | exact hpB H 0 rfl rfl | exact hpC H 0 rfl rfl) ?_ | with_reducible refine ldB_of (by with_unfolding_all first | exact hpA H 0 rfl rfl | exact Hp.cell H 0 rfl rfl | exact hpB H 0 rfl rfl | exact hpC H 0 rfl rfl) ?_ | with_reducible refine ldT_of (by with_unfolding_all first | exact hpA H 0 rfl rfl | exact Hp.cell H 0 rfl rfl | exact hpB H 0 rfl rfl | exact hpC H 0 rfl rfl) ?_
 refine light14_ok (t:=t) (hv.ext H.hext) (hs.ext H.hext) hl hsl fun r h' hr e=>⟨_,rfl,?_⟩
 have H:=H.ext e
 clear e
 refine bcase_not (fun _=>wk H.hext) fun h1=>?_
 have hlt:=hr h1
 clear h1 hr
 have hn1:=hlt.n1
 have hn2:=hlt.n2
 repeat first | with_reducible refine ldI_of (by with_unfolding_all first | exact hpA H 0 rfl rfl | exact Hp.cell H 0 rfl rfl | exact hpB H 0 rfl rfl | exact hpC H 0 rfl rfl) ?_ | with_reducible refine ldS_of (by with_unfolding_all first | exact hpA H 0 rfl rfl | exact Hp.cell H 0 rfl rfl | exact hpB H 0 rfl rfl | exact hpC H 0 rfl rfl) ?_ | with_reducible refine ldP_of (by with_unfolding_all first | exact hpA H 0 rfl rfl | exact Hp.cell H 0 rfl rfl | exact hpB H 0 rfl rfl | exact hpC H 0 rfl rfl) ?_ | with_reducible refine ldB_of (by with_unfolding_all first | exact hpA H 0 rfl rfl | exact Hp.cell H 0 rfl rfl | exact hpB H 0 rfl rfl | exact hpC H 0 rfl rfl) ?_ | with_reducible refine ldT_of (by with_unfolding_all first | exact hpA H 0 rfl rfl | exact Hp.cell H 0 rfl rfl | exact hpB H 0 rfl rfl | exact hpC H 0 rfl rfl) ?_
 refine tEnc_ok (t:=t) (hv.ext H.hext) (hs.ext H.hext) (by omega) (by omega) fun D1 qf cf h' hs1 H'=>?_
 have H:=H.join H' hs1.w
 clear H'
 refine ⟨_,_,_,_,rfl,?_⟩
 refine bcase_ne (fun hn=>?_) fun hck=>?_
 ·rw [encT_bad hn]
  exact bcase_eq (fun _=>wk H.hext) fun hh=>absurd rfl hh
 rw [encT_ok hck] at hs1 ⊢
 obtain ⟨hf,_,_,har⟩:=chkT_zero hck
 have hbl:(txtB t sy l).length<=100000000:=by
  have h1:=txtB_len hf (by omega) (by omega) har
  have h2:=headT_len t l.length
  unfold txtB
  rw [List.length_append]
  omega
 have H:Hp hB [] h' (⟨r11,true,T_burinlaw14_Ask,t.cs q l.length c++[Value.slice q2 sy.length c2]⟩::D1):=H
 refine ldS_of (hpA H 0 rfl rfl) ?_
 have dec:∀ {h:Heap} {qq:Option Addr} {cc:Nat} {L D:List Ent} {K1:VK},Hp hB [] h L->Slot T_uint8 1 D qq (txtB t sy l).length cc (u8s (txtB t sy l))->(∀ e∈D,e∈L)->(∀ R q' c' h',ListI R q' c' (srtI t.st.toNat l)->Hp h [] h' R->K1 (.tuple #[t.ag q' l.length c', .int .i64 0]) h')->CP F_text_Decode #[.slice qq (txtB t sy l).length cc, .slice q2 sy.length c2] h K1 Kp:=fun {h qq cc L D K1} H hs2 hD hk1 =>
  tDec_ok (t:=t) (sy:=sy) (l:=l) (Slot.rdO' hs2 H hD) (SlotN.cap hs2) (hs.ext H.hext) hf (by omega) (by omega) har hv.w64 hk1
 refine ⟨?_,?_⟩
 ·refine copy_ok (bs:=txtB t sy l) (Slot.rdO' hs1 H fun e he=>List.mem_cons_of_mem _ he) (by omega) fun D2 q3 c3 h' hs2 H'=>?_
  have hx:=H'.hext
  have H:=H.join H' hs2.w
  clear H'
  refine ⟨_,_,_,rfl,hx,?_⟩
  clear hx
  have H:Hp hB [] h' (⟨r11,true,T_burinlaw14_Ask,t.cs q l.length c++[Value.slice q2 sy.length c2]⟩::(D1++D2)):=H
  refine ⟨?_,?_⟩
  ·refine dec H hs2 (fun e he=>by simp [he]) fun R4 q4 c4 h' hL4 H'=>?_
   have hx:=H'.hext
   have H:=H.join H' hL4.w
   clear H'
   refine ⟨_,_,_,_,_,_,_,_,_,_,_,_,rfl,hx,?_⟩
   refine newC_hp H fun rU h H=>?_
   have H:=H.rot
   exact tBack_tail (V:=D1++D2++R4) hv hs hlt hck hs1 (fun e he=>by simp [he]) hL4 (fun e he=>by simp [he]) H hk
  ·refine newC_hp H fun rU h H=>?_
   have H:=H.rot
   have H:Hp hB [] h (⟨rU,true,T_api_Text,zeroT⟩::⟨r11,true,T_burinlaw14_Ask,t.cs q l.length c++[Value.slice q2 sy.length c2]⟩::(D1++D2)):=H
   refine dec H hs2 (fun e he=>by simp [he]) fun R4 q4 c4 h' hL4 H'=>?_
   have hx:=H'.hext
   have H:=H.join H' hL4.w
   clear H'
   refine ⟨_,_,_,_,_,_,_,_,_,_,_,_,rfl,hx,?_⟩
   exact tBack_tail (V:=D1++D2++R4) hv hs hlt hck hs1 (fun e he=>by simp [he]) hL4 (fun e he=>by simp [he]) H hk
 ·refine newC_hp H fun rU h H=>?_
  have H:=H.rot
  have H:Hp hB [] h (⟨rU,true,T_api_Text,zeroT⟩::⟨r11,true,T_burinlaw14_Ask,t.cs q l.length c++[Value.slice q2 sy.length c2]⟩::D1):=H
  refine copy_ok (bs:=txtB t sy l) (Slot.rdO' hs1 H fun e he=>by simp [he]) (by omega) fun D2 q3 c3 h' hs2 H'=>?_
  have hx:=H'.hext
  have H:=H.join H' hs2.w
  clear H'
  refine ⟨_,_,_,rfl,hx,?_⟩
  clear hx
  refine dec H hs2 (fun e he=>List.mem_append_right _ he) fun R4 q4 c4 h' hL4 H'=>?_
  have hx:=H'.hext
  have H:=H.join H' hL4.w
  clear H'
  refine ⟨_,_,_,_,_,_,_,_,_,_,_,_,rfl,hx,?_⟩
  exact tBack_tail (V:=D1++D2++R4) hv hs hlt hck hs1 (fun e he=>by simp [he]) hL4 (fun e he=>by simp [he]) H hk
theorem tBack_arg {h:Heap} {cs:Array Value} (hsz:cs.size=TP.cellsOf T_burinlaw14_Ask) (hw:WDx TP h T_burinlaw14_Ask cs.toList) {K:VK} {Kp:PK} (hk:∀ h',hext h h'->K (.bool true) h'):CP F_burinlaw14_TextBack #[.agg cs] h K Kp:=by
 obtain ⟨t,q,c,l,q2,c2,sy,e,hv,hl,hs,hsl⟩:=wd_ask14 hw
 obtain rfl:cs=#[.int .i64 t.x, .int .i64 t.y, .int .i64 t.w, .int .i64 t.h, .int .i64 t.op, .bool t.rf, .int .i64 t.df, .int .i64 t.st, .slice q l.length c, .slice q2 sy.length c2]:=by
  cases cs
  simpa using e
 exact tBack_law (t:=t) hv hl hs hsl hk
end
end Go.Bm
namespace Go.Proofs.YtbknfejmdekhpaaGreat
open Go.ChangeShapes Go.WideShapes Go.ChangeAt Go.RowKit
theorem own:ownKnob Tryz.prog.godebug=none:=by kernel_rfl
theorem laidOut:laidOutB Tryz.prog=true:=by kernel_rfl
theorem below_of {W W':World} (hk:Go.Den.keeps W W') (h:Go.Den.hext W.heap W'.heap):Below W.heap.size W W' :=
 ⟨hk.1,hk.2.1,hk.2.2,h.1,fun k hlt=>h.2 k hlt⟩
theorem walk_of {f:FuncId} {args:Array Value} {W:World}
  (h:Calls Tryz.prog f args W fun e w'=>Go.Den.keeps W w'/\match e with
   | .returned v=>v = .bool true/\Go.Den.hext W.heap w'.heap
   | .panicked c=>False
   | .outgrown=>False):Calls Tryz.prog f args W fun e W'=>e = .returned (.bool true)/\Below W.heap.size W W':=by
 refine h.mono fun e W' he=>?_
 obtain ⟨hk,he⟩:=he
 cases e with
 | returned v=>exact ⟨by rw [he.1],below_of hk he.2⟩
 | panicked c=>exact he.elim
 | outgrown=>exact he.elim
end Go.Proofs.YtbknfejmdekhpaaGreat
namespace Go.Proofs.YtbknfejmdekhpaaGreat
open Go.ChangeShapes Go.WideShapes Go.ChangeAt Go.RowKit
theorem textBack_walk (W:World) {cs:Array Value} (hsz:cs.size=Tryz.prog.cellsOf 29) (hw:Go.Den.WDx Tryz.prog W.heap 29 cs.toList):Calls Tryz.prog 5 #[.agg cs] W fun e W'=>e = .returned (.bool true)/\Below W.heap.size W W' :=
 walk_of ((Go.Bm.tBack_arg (h:=W.heap) (K:=fun v h'=>v = .bool true/\Go.Den.hext W.heap h') (Kp:=fun _ _=>False) hsz hw fun h' e=>⟨rfl,e⟩).2 W rfl)
theorem textBack_lifted (os:Os) (started:os.Started) (H:Type) (enc:TypeId × Value->H) :
  ReturnsInHanded {} Tryz.checked os 5 .any (Rows.textBackSpec.pre6 enc Tryz.prog Tryz.f5 Rows.textBackRow.domain false) (Rows.textBackSpec.post enc Tryz.prog Tryz.f5 false true false false):=by
 refine returnsInHanded_of_change_sized (C:=Tryz.checked) own started (by kernel_rfl) Tryz.func5
  (ChangeSpec.witness6 (enc:=enc) (C:=Tryz.checked) false ⟨#[],#[.agg #[.int .i64 0, .int .i64 0, .int .i64 0, .int .i64 0, .int .i64 0, .bool false, .int .i64 0, .int .i64 0, .slice none 0 0, .slice none 0 0]],[]⟩ 8 (by kernel_rfl) (by kernel_rfl) (by kernel_rfl) (by kernel_rfl)) ?_
 intro W base args ds gs before hval0 hW hcnd hz _
 have hval:∀ (j:Nat) t v,Tryz.f5.params[j]? = some t->args[j]? = some v->Value.okWide Tryz.prog W .any base t v:=hval0
 have hz:∀ n∈DataW.weightsEach Tryz.prog (Tryz.f5.params.toList++Rows.textBackSpec.plain.varTypes Tryz.prog) (ds++gs),n<=reachBytes:=fun n hn=>by simpa using List.all_eq_true.1 hz n hn
 have hW':=hW
 obtain ⟨p,q,hA0,hV,rfl,hfz,hnd⟩:=hW
 have hA:DataW.TrodAll enc Tryz.prog W 0 (fun _=>true) true Tryz.f5.params.toList args.toList ds p:=hA0
 rw [Tryz.params5] at hA hval hz
 obtain ⟨v0,vs0,d0,ds0,p0,q0,hargs,rfl,rfl,h0,r0⟩:=trodAll_cons hA
 obtain ⟨rfl,rfl,rfl⟩:=trodAll_nil r0
 obtain rfl:args=#[v0]:=by cases args; simp_all
 obtain ⟨rfl,rfl⟩:=trodVars_none hV
 obtain ⟨cs,rfl,hsz⟩:=okWide_struct Tryz.underlying29 (hval 0 29 v0 rfl rfl)
 have hwd:Go.Den.WDx Tryz.prog W.heap 29 cs.toList:=by
  obtain ⟨f,hf⟩:=h0
  exact ⟨f,Go.Den.wd_of hf fun n hn=>hz n (DataW.weights_mem_each (j:=0) rfl rfl n hn)⟩
 clear hA0 hval0
 simp only [List.append_nil] at hW'
 refine (textBack_walk W hsz hwd).mono fun e W' ⟨he,hb⟩=>?_
 subst he
 refine ⟨_,rfl,[d0],[],_,[],p0,[],hW',?_,?_,?_,hb.frame _,fun h=>Bool.noConfusion h⟩
 ·exact trodAll_cons_mk (shut_bool Go.Proofs.Tryz.underlying4 _) trodAll_mk0
 ·exact ⟨p0,[],Below.trod laidOut (by kernel_rfl) (of_decide_eq_true (by kernel_rfl)) h0 hb (fun x hx=>by simpa using hW'.lt x hx),rfl,(List.append_nil p0).symm⟩
 ·rfl
theorem textBack_over:Rows.textBackRow.holds Tryz.pinned (OpenSpec.ofChange Rows.textBackSpec) :=
 OpenClaim.holds_of_wide 5 Tryz.f5 rfl rfl rfl rfl rfl rfl rfl ⟨rfl,rfl,rfl,rfl,rfl⟩ rfl rfl rfl rfl rfl (by kernel_rfl) Tryz.func5 (by kernel_rfl)
  (of_decide_eq_true (by kernel_rfl)) (by unfold Func.isWrapper; first | (rw [if_pos (by decide +kernel)]; kernel_rfl) | (rw [if_neg (by decide +kernel)]; exact ⟨rfl,rfl⟩))
  (fun os started H enc _=>textBack_lifted os started H enc)
theorem textBack_proved:Rows.TextBackSaid:=textBack_over
#print axioms textBack_proved
end Go.Proofs.YtbknfejmdekhpaaGreat
