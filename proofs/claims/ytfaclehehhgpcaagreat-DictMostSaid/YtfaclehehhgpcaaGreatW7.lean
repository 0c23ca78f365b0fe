/- The given statement DictMostSaid is proved of the given program; there are no further conditions. W7: put together by wip/tools/bundle.py: Mlaw13DictMost Blaw13DictMost DcY ArLink2 DcMost. -/
import Derived.Test.YtfaclehehhgpcaaGreatW1
import Derived.Test.YtfaclehehhgpcaaGreatW2
import Derived.Test.YtfaclehehhgpcaaGreatW3
import Derived.Test.YtfaclehehhgpcaaGreatW4
import Derived.Test.YtfaclehehhgpcaaGreatW5
import Derived.Test.YtfaclehehhgpcaaGreatW6
import Derived.Test.YtfaclehehhgpcaaGreatProg
import Derived.WalkKit
import Derived.ProofKit
import Derived.OpenShut
import Derived.Carry
import Derived.Deep.SlicePairs
import Derived.Lib.SmallJoins
import Derived.Test.YtfaclehehhgpcaaGreatRows
set_option linter.unusedVariables false
set_option linter.unusedSimpArgs false
set_option maxRecDepth 100000
namespace Go.Den.YtfaclehehhgpcaaGreat
open Go Go.Den
def burinlaw13_DictMost (C:CallP)  (h:Heap) (K:VK) (Kp:PK):Prop :=
C F_burinref0_White #[.int .i64 1, .int .i64 1] h (fun v_1 h_2 =>
∃ (r_3:Int) (r_4:Int) (r_5:Option Addr) (r_5n:Nat) (r_5c:Nat),v_1 = .agg #[.int .i64 r_3, .int .i64 r_4, .slice r_5 r_5n r_5c]/\(
newC h_2 [.int .i64 0, .int .i64 0, .slice none 0 0] T_api_Bitmap fun r_6 h_7 =>
stV h_7 ((⟨r_6,0,none⟩:Addr).add 0) (.int .i64 r_3) fun h_8 =>
stV h_8 ((⟨r_6,0,none⟩:Addr).add 1) (.int .i64 r_4) fun h_9 =>
stV h_9 ((⟨r_6,0,none⟩:Addr).add 2) (.slice r_5 r_5n r_5c) fun h_10 =>
∃ J_11:Nat->List Value->Heap->Prop,(∃ n_13,J_11 n_13 [.slice none 0 0, .slice none 0 0, .int .i64 0] h_10)/\∀ (n_13:Nat) (h_14:Heap) (u_15:Nat->Value) (x_16:Option Addr) (x_16n:Nat) (x_16c:Nat) (x_17:Option Addr) (x_17n:Nat) (x_17c:Nat) (x_18:Int),J_11 n_13 [.slice x_16 x_16n x_16c, .slice x_17 x_17n x_17c, .int .i64 x_18] h_14->(
bcase (decide (x_18<(4096:Int))) (
ldI h_14 ((⟨r_6,0,none⟩:Addr).add 0) .i64 fun x_19 =>
ldI h_14 ((⟨r_6,0,none⟩:Addr).add 1) .i64 fun x_20 =>
ldS h_14 ((⟨r_6,0,none⟩:Addr).add 2) fun x_21 x_21n x_21c =>
newC h_14 [.int .i64 x_19, .int .i64 x_20, .slice x_21 x_21n x_21c] T_api_Bitmap fun r_22 h_23 =>
appC h_23 T_api_Bitmap 3 40 [.int .i64 0, .int .i64 0, .slice none 0 0] x_16 (x_16n) (x_16c) (some ⟨r_22,0,none⟩) (1) fun q_24 q_24n q_24c h_25 =>
bindI (x_18.tmod (2:Int)) fun z_26 =>
newC h_25 [.bool (z_26 == (0:Int))] T_bool fun r_27 h_28 =>
appC h_28 T_bool 1 1 [.bool false] x_17 (x_17n) (x_17c) (some ⟨r_27,0,none⟩) (1) fun q_29 q_29n q_29c h_30 =>
bindI (IntKind.i64.wrap (x_18+(1:Int))) fun z_31 =>
∃ m_12,m_12<n_13/\J_11 m_12 [.slice q_24 q_24n q_24c, .slice q_29 q_29n q_29c, .int .i64 z_31] h_30) <|
C F_dict_Encode #[.agg #[.int .i64 3, .slice x_16 x_16n x_16c, .slice x_17 x_17n x_17c], .slice none 0 0] h_14 (fun v_32 h_33 =>
∃ (r_34:Option Addr) (r_34n:Nat) (r_34c:Nat),∃ (r_35:Int),v_32 = .tuple #[.slice r_34 r_34n r_34c, .int .i64 r_35]/\(
C F_dict_Decode #[.slice r_34 r_34n r_34c, .slice none 0 0] h_33 (fun v_36 h_37 =>
∃ (r_38:Int) (r_39:Option Addr) (r_39n:Nat) (r_39c:Nat) (r_40:Option Addr) (r_40n:Nat) (r_40c:Nat),∃ (r_41:Int),v_36 = .tuple #[.agg #[.int .i64 r_38, .slice r_39 r_39n r_39c, .slice r_40 r_40n r_40c], .int .i64 r_41]/\(
newC h_37 [.int .i64 0, .slice none 0 0, .slice none 0 0] T_api_Dict fun r_42 h_43 =>
stV h_43 ((⟨r_42,0,none⟩:Addr).add 0) (.int .i64 r_38) fun h_44 =>
stV h_44 ((⟨r_42,0,none⟩:Addr).add 1) (.slice r_39 r_39n r_39c) fun h_45 =>
stV h_45 ((⟨r_42,0,none⟩:Addr).add 2) (.slice r_40 r_40n r_40c) fun h_46 =>
∃ K_47:List Value->Heap->Prop,(
∃ R_50:Nat->Prop,(
ldI h_46 ((⟨r_6,0,none⟩:Addr).add 0) .i64 fun x_51 =>
ldI h_46 ((⟨r_6,0,none⟩:Addr).add 1) .i64 fun x_52 =>
ldS h_46 ((⟨r_6,0,none⟩:Addr).add 2) fun x_53 x_53n x_53c =>
R_50 ((⟨r_6,0,none⟩:Addr):Addr).block/\(
(
newC h_46 [.bool true] T_bool fun r_54 h_55 =>
(
appC h_55 T_bool 1 1 [.bool false] x_17 (x_17n) (x_17c) (some ⟨r_54,0,none⟩) (1) fun q_56 q_56n q_56c h_57 =>
hkeep R_50 h_55 h_57/\(
newC h_57 [.int .i64 x_51, .int .i64 x_52, .slice x_53 x_53n x_53c] T_api_Bitmap fun r_58 h_59 =>
C F_dict_Encode #[.agg #[.int .i64 3, .slice x_16 x_16n x_16c, .slice q_56 q_56n q_56c], .slice (some ⟨r_58,0,none⟩) 1 1] h_59 (fun v_60 h_61 =>
∃ (r_62:Option Addr) (r_62n:Nat) (r_62c:Nat),∃ (r_63:Int),v_60 = .tuple #[.slice r_62 r_62n r_62c, .int .i64 r_63]/\(
K_47 [.int .i64 r_63] h_61)) (Kp)))/\(
newC h_55 [.int .i64 x_51, .int .i64 x_52, .slice x_53 x_53n x_53c] T_api_Bitmap fun r_64 h_65 =>
appC h_65 T_bool 1 1 [.bool false] x_17 (x_17n) (x_17c) (some ⟨r_54,0,none⟩) (1) fun q_66 q_66n q_66c h_67 =>
hkeep R_50 h_65 h_67/\(
C F_dict_Encode #[.agg #[.int .i64 3, .slice x_16 x_16n x_16c, .slice q_66 q_66n q_66c], .slice (some ⟨r_64,0,none⟩) 1 1] h_67 (fun v_68 h_69 =>
∃ (r_70:Option Addr) (r_70n:Nat) (r_70c:Nat),∃ (r_71:Int),v_68 = .tuple #[.slice r_70 r_70n r_70c, .int .i64 r_71]/\(
K_47 [.int .i64 r_71] h_69)) (Kp))))/\(
newC h_46 [.int .i64 x_51, .int .i64 x_52, .slice x_53 x_53n x_53c] T_api_Bitmap fun r_72 h_73 =>
newC h_73 [.bool true] T_bool fun r_74 h_75 =>
appC h_75 T_bool 1 1 [.bool false] x_17 (x_17n) (x_17c) (some ⟨r_74,0,none⟩) (1) fun q_76 q_76n q_76c h_77 =>
hkeep R_50 h_75 h_77/\(
C F_dict_Encode #[.agg #[.int .i64 3, .slice x_16 x_16n x_16c, .slice q_76 q_76n q_76c], .slice (some ⟨r_72,0,none⟩) 1 1] h_77 (fun v_78 h_79 =>
∃ (r_80:Option Addr) (r_80n:Nat) (r_80c:Nat),∃ (r_81:Int),v_78 = .tuple #[.slice r_80 r_80n r_80c, .int .i64 r_81]/\(
K_47 [.int .i64 r_81] h_79)) (Kp))))))/\∀ (h_48:Heap) (u_49:Nat->Value) (x_82:Int),K_47 [.int .i64 x_82] h_48->(
ldI h_48 ((⟨r_6,0,none⟩:Addr).add 0) .i64 fun x_83 =>
ldI h_48 ((⟨r_6,0,none⟩:Addr).add 1) .i64 fun x_84 =>
ldS h_48 ((⟨r_6,0,none⟩:Addr).add 2) fun x_85 x_85n x_85c =>
newC h_48 [.int .i64 x_83, .int .i64 x_84, .slice x_85 x_85n x_85c] T_api_Bitmap fun r_86 h_87 =>
C F_dict_Decode #[.slice r_34 r_34n r_34c, .slice (some ⟨r_86,0,none⟩) 1 1] h_87 (fun v_88 h_89 =>
∃ (r_90:Int) (r_91:Option Addr) (r_91n:Nat) (r_91c:Nat) (r_92:Option Addr) (r_92n:Nat) (r_92c:Nat),∃ (r_93:Int),v_88 = .tuple #[.agg #[.int .i64 r_90, .slice r_91 r_91n r_91c, .slice r_92 r_92n r_92c], .int .i64 r_93]/\(
newC h_89 [.int .i64 0, .slice none 0 0, .slice none 0 0] T_api_Dict fun r_94 h_95 =>
stV h_95 ((⟨r_94,0,none⟩:Addr).add 0) (.int .i64 r_90) fun h_96 =>
stV h_96 ((⟨r_94,0,none⟩:Addr).add 1) (.slice r_91 r_91n r_91c) fun h_97 =>
stV h_97 ((⟨r_94,0,none⟩:Addr).add 2) (.slice r_92 r_92n r_92c) fun h_98 =>
bcase (r_35 != (0:Int)) (
K (.bool false) h_98) <|
bcase (r_41 != (0:Int)) (
K (.bool false) h_98) <|
ldS h_98 ((⟨r_42,0,none⟩:Addr).add 1) fun x_99 x_99n x_99c =>
bcase ((x_99n:Int) != (4096:Int)) (
K (.bool false) h_98) <|
bcase (x_82 != (120:Int)) (
K (.bool false) h_98) <|
bcase (r_93 != (120:Int)) (
K (.bool false) h_98) <|
C F_burinref0_White #[.int .i64 1024, .int .i64 512] h_98 (fun v_100 h_101 =>
∃ (r_102:Int) (r_103:Int) (r_104:Option Addr) (r_104n:Nat) (r_104c:Nat),v_100 = .agg #[.int .i64 r_102, .int .i64 r_103, .slice r_104 r_104n r_104c]/\(
C F_burinref0_White #[.int .i64 1024, .int .i64 512] h_101 (fun v_105 h_106 =>
∃ (r_107:Int) (r_108:Int) (r_109:Option Addr) (r_109n:Nat) (r_109c:Nat),v_105 = .agg #[.int .i64 r_107, .int .i64 r_108, .slice r_109 r_109n r_109c]/\(
newC h_106 [.int .i64 r_102, .int .i64 r_103, .slice r_104 r_104n r_104c, .int .i64 r_107, .int .i64 r_108, .slice r_109 r_109n r_109c] T_api_Bitmap fun r_110 h_111 =>
newC h_111 [.bool true, .bool true] T_bool fun r_112 h_113 =>
newC h_113 [.int .i64 0, .slice none 0 0, .slice none 0 0] T_api_Dict fun r_114 h_115 =>
stV h_115 ((⟨r_114,0,none⟩:Addr).add 0) (.int .i64 0) fun h_116 =>
stV h_116 ((⟨r_114,0,none⟩:Addr).add 1) (.slice (some ⟨r_110,0,none⟩) 2 2) fun h_117 =>
stV h_117 ((⟨r_114,0,none⟩:Addr).add 2) (.slice (some ⟨r_112,0,none⟩) 2 2) fun h_118 =>
ldI h_118 ((⟨r_114,0,none⟩:Addr).add 0) .i64 fun x_119 =>
ldS h_118 ((⟨r_114,0,none⟩:Addr).add 1) fun x_120 x_120n x_120c =>
ldS h_118 ((⟨r_114,0,none⟩:Addr).add 2) fun x_121 x_121n x_121c =>
C F_dict_Encode #[.agg #[.int .i64 x_119, .slice x_120 x_120n x_120c, .slice x_121 x_121n x_121c], .slice none 0 0] h_118 (fun v_122 h_123 =>
∃ (r_124:Option Addr) (r_124n:Nat) (r_124c:Nat),∃ (r_125:Int),v_122 = .tuple #[.slice r_124 r_124n r_124c, .int .i64 r_125]/\(
C F_dict_Decode #[.slice r_124 r_124n r_124c, .slice none 0 0] h_123 (fun v_126 h_127 =>
∃ (r_128:Int) (r_129:Option Addr) (r_129n:Nat) (r_129c:Nat) (r_130:Option Addr) (r_130n:Nat) (r_130c:Nat),∃ (r_131:Int),v_126 = .tuple #[.agg #[.int .i64 r_128, .slice r_129 r_129n r_129c, .slice r_130 r_130n r_130c], .int .i64 r_131]/\(
ldI h_127 ((⟨r_6,0,none⟩:Addr).add 0) .i64 fun x_132 =>
ldI h_127 ((⟨r_6,0,none⟩:Addr).add 1) .i64 fun x_133 =>
ldS h_127 ((⟨r_6,0,none⟩:Addr).add 2) fun x_134 x_134n x_134c =>
newC h_127 [.int .i64 x_132, .int .i64 x_133, .slice x_134 x_134n x_134c] T_api_Bitmap fun r_135 h_136 =>
ldS h_136 ((⟨r_114,0,none⟩:Addr).add 1) fun x_137 x_137n x_137c =>
appC h_136 T_api_Bitmap 3 40 [.int .i64 0, .int .i64 0, .slice none 0 0] (some ⟨r_135,0,none⟩) (1) (1) x_137 (x_137n) fun q_138 q_138n q_138c h_139 =>
stV h_139 ((⟨r_114,0,none⟩:Addr).add 1) (.slice q_138 q_138n q_138c) fun h_140 =>
ldS h_140 ((⟨r_114,0,none⟩:Addr).add 2) fun x_141 x_141n x_141c =>
newC h_140 [.bool false] T_bool fun r_142 h_143 =>
appC h_143 T_bool 1 1 [.bool false] x_141 (x_141n) (x_141c) (some ⟨r_142,0,none⟩) (1) fun q_144 q_144n q_144c h_145 =>
stV h_145 ((⟨r_114,0,none⟩:Addr).add 2) (.slice q_144 q_144n q_144c) fun h_146 =>
ldI h_146 ((⟨r_114,0,none⟩:Addr).add 0) .i64 fun x_147 =>
ldS h_146 ((⟨r_114,0,none⟩:Addr).add 1) fun x_148 x_148n x_148c =>
ldS h_146 ((⟨r_114,0,none⟩:Addr).add 2) fun x_149 x_149n x_149c =>
C F_dict_Encode #[.agg #[.int .i64 x_147, .slice x_148 x_148n x_148c, .slice x_149 x_149n x_149c], .slice none 0 0] h_146 (fun v_150 h_151 =>
∃ (r_152:Option Addr) (r_152n:Nat) (r_152c:Nat),∃ (r_153:Int),v_150 = .tuple #[.slice r_152 r_152n r_152c, .int .i64 r_153]/\(
bcase (r_125 == (0:Int)) (
bcase (r_131 == (0:Int)) (
bcase (r_153 == (120:Int)) (
C F_burinlaw13_wakes #[] h_151 (fun v_154 h_155 =>
∃ (r_156:Bool),v_154 = .bool r_156/\(
K (.bool r_156) h_155)) (Kp)) <|
K (.bool false) h_151) <|
K (.bool false) h_151) <|
K (.bool false) h_151)) (Kp))) (Kp))) (Kp))) (Kp))) (Kp))) (Kp)))) (Kp))) (Kp)))) (Kp)
end Go.Den.YtfaclehehhgpcaaGreat
namespace Go.Den.YtfaclehehhgpcaaGreat
open Go Go.Den
theorem call_burinlaw13_DictMost  {h:Heap} {K:VK} {Kp:PK} (H:burinlaw13_DictMost (CallsHP Go.Proofs.Tryz.prog)  h K Kp):CallsHP Go.Proofs.Tryz.prog F_burinlaw13_DictMost #[] h K Kp :=
 callsHP_ofE (Hints.mk (fun i=>bif Nat.beq i 11 then some ([7], .keep <| .take 0 <| .take 1 <| .take 5 <| .alt 2 (.alt 3 (.take 4 <| .go 6 <| .bar 7 [] <| .take 8 <| .take 9 <| .take 10 <| .take 11 <| .take 12 <| .done) <| .go 6 <| .go 3 <| .take 4 <| .bar 7 [] <| .take 8 <| .take 9 <| .take 10 <| .take 11 <| .take 12 <| .done) <| .go 6 <| .go 2 <| .go 3 <| .take 4 <| .bar 7 [] <| .take 8 <| .take 9 <| .take 10 <| .take 11 <| .take 12 <| .done) else (none)) (fun i=>bif Nat.beq i 5 then some ([(2, .slc),(3, .slc),(4, .int .i64)],536838172) else (none)) (fun i=>bif Nat.beq i 12 then some ([(10, .int .i64)],4501400604116480) else (none)) []) (by kernel_rfl) Go.Proofs.Tryz.func11 (by kernel_rfl) (fun C=>burinlaw13_DictMost C  h K Kp) (fun C=>by kernel_rfl) H
end Go.Den.YtfaclehehhgpcaaGreat
namespace Go.Bm
open Go Go.Den Go.Den.YtfaclehehhgpcaaGreat
theorem Slot.cap3 {t:TypeId} {n c:Nat} {D:List Ent} {q:Option Addr} {xs:List Value} (hd:Slot t 3 D q n c xs):n<=c:=by
 obtain ⟨hl,⟨_,_,h4,_⟩ | ⟨b,rest,_,_,h4⟩⟩:=hd
 ·omega
 ·rw [List.length_append] at h4; omega
theorem dec_more {t:Nat} {new imp:List Bmp} {ex:List Bool} (ht:t<=3) (hn:new.length<=4096) (hM:MayL imp) (hi:imp.length<=4096) (hm:4096-imp.length<new.length):decD (dicB t new ex) imp = .error 120:=by
 have hv:=varF_grp (b:=dicB t new ex) (i:=1) (rest:=Go.Ar.bytesM (Go.Ar.flushM (cdL (szD t) (dicD (szD t) t new ex)))) 10 0 new.length 0 rfl (by unfold dicB; rfl) (by rw [Nat.pow_zero,Nat.mul_one]; exact lt9 (by omega)) (fun hh=>by omega)
 have hv:varP (dicB t new ex) 1=(0,new.length,1+(grp new.length).length):=by
  unfold varP
  rw [hv,Nat.pow_zero,Nat.mul_one,Nat.zero_add,Nat.add_zero]
  rfl
 unfold decD
 rw [if_neg (fun hh=>hh hM),if_neg (by omega)]
 rw [show (dicB t new ex)[0]? = some t from rfl]
 dsimp only
 rw [if_neg (by omega),hv]
 dsimp only
 rw [if_neg (by simp),if_pos hm]
def evF:Nat->List Bool
 | 0=>[]
 | i+1=>evF i++[(((i % 2:Nat):Int) == (0:Int))]
theorem evF_len:∀ i,(evF i).length=i
 | 0=>rfl
 | i+1=>by unfold evF; rw [List.length_append,evF_len i]; rfl
theorem area_rep (b:Bmp):∀ n,areaL (List.replicate n b)=n*(b.w.toNat*b.h.toNat)
 | 0=>by rw [Nat.zero_mul]; rfl
 | n+1=>by
  rw [List.replicate_succ',areaL_snoc,area_rep b n,Nat.add_mul,Nat.one_mul]
theorem rep_sorted (b:Bmp) (n:Nat):SortedTo (List.replicate n b) (List.replicate n b).length:=fun i x y hi hx hy=>by
 rw [List.getElem?_replicate] at hx hy
 split at hx
 ·split at hy
  ·injection hx with hx
   injection hy with hy
   subst hx hy
   unfold Bmp.below
   omega
  ·cases hy
 ·cases hx
theorem rep_csO (o:Own) (n:Nat):csO (List.replicate (n+1) o)=csO (List.replicate n o)++o.cs:=by rw [List.replicate_succ',csO_snoc]
section
variable {hB:Heap} {K:VK} {Kp:PK}
set_option maxHeartbeats 16000000 in
theorem dMost_law (hk:∀ h',hext hB h'->K (.bool true) h'):CP F_burinlaw13_DictMost #[] hB K Kp:=by
 refine call_burinlaw13_DictMost ?_
 unfold burinlaw13_DictMost
 have hs11:SizeP ((1:Nat):Int) ((1:Nat):Int):=by unfold SizeP; omega
 have hsW:SizeP ((1024:Nat):Int) ((512:Nat):Int):=by unfold SizeP; omega
 refine white_ok' (W:=1) (X:=1) hs11 fun ws0 q1 h hl0 hw0 hp0 H=>?_
 refine ⟨_,_,_,_,_,rfl,?_⟩
 refine newC_hp H fun r6 h H=>?_
 have H:=H.rot
 refine stA H 0 rfl rfl rfl fun h H=>?_
 refine stA H 0 rfl rfl rfl fun h H=>?_
 refine stA H 0 rfl rfl rfl fun h H=>?_
 have hl0':ws0.length=1:=hl0
 have hmay0:MayP ((1:Nat):Int) ((1:Nat):Int) ws0:=may_of_pix hs11 hl0 hw0 fun y _ x _ _=>hp0 x y
 obtain ⟨o1,ho1⟩:∃ o1:Own,o1=⟨⟨1,1,ws0⟩,at0 q1,ws0.length,[⟨q1,true,T_uint64,u64s ws0++[]⟩]⟩:=⟨_,rfl⟩
 have hcs1:o1.cs=[.int .i64 1, .int .i64 1, .slice (at0 q1) ws0.length ws0.length]:=by rw [ho1]; rfl
 have hok1:o1.Ok:=by
  rw [ho1]
  exact ⟨Slot.one (by simp [u64s]) (by simp [u64s]),hw0,by show ws0.length<_; omega⟩
 have hb1:o1.b=⟨1,1,ws0⟩:=by rw [ho1]
 have hm1:o1.b.may:=by rw [hb1]; exact hmay0
 have hD1:o1.D=[⟨q1,true,T_uint64,u64s ws0++[]⟩]:=by rw [ho1]
 obtain ⟨R6,hR6⟩:∃ R6:Ent,R6=⟨r6,true,T_api_Bitmap,o1.cs⟩:=⟨_,rfl⟩
 obtain ⟨Q1,hQ1⟩:∃ Q1:Ent,Q1=⟨q1,true,T_uint64,u64s ws0++[]⟩:=⟨_,rfl⟩
 have H:Hp hB [] h (R6::Q1::([]++[])):=by rw [hR6,hQ1,hcs1]; exact H
 have hR6w:R6.w=true:=by rw [hR6]
 have hQ1w:Q1.w=true:=by rw [hQ1]
 have hcsc:∀ v∈o1.cs,v.oneCell'=true:=fun v hv=>by
  rw [hcs1] at hv
  simp only [List.mem_cons,List.not_mem_nil,or_false] at hv
  rcases hv with rfl | rfl | rfl <;> rfl
 have ld6:∀ {h:Heap} {L:List Ent} {KK:Int->Int->Option Addr->Nat->Nat->Prop},Hp hB [] h L->R6∈L->KK 1 1 (at0 q1) ws0.length ws0.length->ldI h ((⟨r6,0,none⟩:Addr).add 0) .i64 fun x=>ldI h ((⟨r6,0,none⟩:Addr).add 1) .i64 fun y=>ldS h ((⟨r6,0,none⟩:Addr).add 2) fun z zn zc=>KK x y z zn zc:=fun {h L KK} H hm hKK=>by
  obtain ⟨k,hk9⟩:=List.getElem?_of_mem hm
  rw [hR6,hcs1] at hk9
  exact ldI_of (hpA H k hk9 rfl) (ldI_of (hpA H k hk9 rfl) (ldS_of (hpA H k hk9 rfl) hKK))
 refine ⟨fun m vs h'=>∃ (i:Nat) (F2 Dd:List Ent) (f2 qd:Option Addr) (k2 kd:Nat),i+m=4096/\vs=[.slice qd (List.replicate i o1).length kd, .slice f2 (evF i).length k2, .int .i64 (i:Nat)]/\Slot T_bool 1 F2 f2 (evF i).length k2 (bls (evF i))/\Slot T_api_Bitmap 3 Dd qd (List.replicate i o1).length kd (csO (List.replicate i o1))/\Hp hB [] h' (R6::Q1::(Dd++F2)),
  ⟨4096,0,[],[],none,none,0,0,rfl,rfl,Slot.nil _ _,Slot.nil _ _,H⟩,?_⟩
 clear H
 rintro m h u xq xn xc xf xfn xfc xi ⟨i,F2,Dd,f2,qd,k2,kd,him,hxx,s2,s3,H⟩
 injection hxx with hx1 hxx
 injection hxx with hx2 hxx
 injection hxx with hx3 hxx
 injection hx1 with hx1 hx4 hx5
 injection hx2 with hx2 hx6 hx7
 injection hx3 with _ hx3
 subst xq xn xc xf xfn xfc xi
 have hel:=evF_len i
 have hrl:(List.replicate i o1).length=i:=List.length_replicate
 refine bcase_dec (fun h3=>?_) fun h3=>?_
 ·refine ld6 H (List.mem_cons_self ..) ?_
  refine newC_hp H fun r22 h H=>?_
  have H:Hp hB [] h ([R6,Q1]++(Dd++(F2++[⟨r22,true,T_api_Bitmap,o1.cs⟩]))):=H.as (by rw [hcs1]; simp only [List.append_assoc,List.cons_append,List.nil_append])
  refine Slot.app (m:=1) (new:=o1.cs) s3 H rfl (Hp.rdO_mem (rest:=[]) (cs:=o1.cs) H (by rw [List.append_nil]; exact List.mem_append_right _ (List.mem_append_right _ (List.mem_append_right _ (List.mem_singleton.2 rfl)))) (by rw [hcs1]; rfl)) (by rw [hcs1]; rfl) hcsc (by decide) (by omega) fun Dd' qd' kd' h s3' H=>?_
  have e3:List.replicate (i+1) o1=List.replicate i o1++[o1]:=List.replicate_succ'
  have s3':Slot T_api_Bitmap 3 Dd' qd' (List.replicate (i+1) o1).length kd' (csO (List.replicate (i+1) o1)):=by rw [rep_csO,e3,List.length_append]; exact s3'
  refine bindI_of (((i % 2:Nat):Int)) (by exact tmod_nat i 2) ?_
  refine newC_hp H fun r27 h H=>?_
  have H:Hp hB [] h (([R6,Q1]++Dd')++(F2++([⟨r22,true,T_api_Bitmap,o1.cs⟩]++[⟨r27,true,T_bool,[.bool (((i % 2:Nat):Int) == (0:Int))]⟩]))):=H.as (by simp only [List.append_assoc])
  refine Slot.app (m:=1) (new:=[.bool (((i % 2:Nat):Int) == (0:Int))]) s2 H rfl (Hp.rdO_mem (rest:=[]) (cs:=[.bool (((i % 2:Nat):Int) == (0:Int))]) H (by rw [List.append_nil]; exact List.mem_append_right _ (List.mem_append_right _ (List.mem_append_right _ (List.mem_singleton.2 rfl)))) rfl) rfl (fun w hw=>by rw [List.mem_singleton.1 hw]; rfl) (by decide) (by omega) fun F2' f2' k2' h s2' H=>?_
  have e2:evF (i+1)=evF i++[(((i % 2:Nat):Int) == (0:Int))]:=rfl
  have s2':Slot T_bool 1 F2' f2' (evF (i+1)).length k2' (bls (evF (i+1))):=by rw [e2,bls_app,List.length_append]; exact s2'
  refine bindI_of (((i+1:Nat):Int)) (by exact i64_at _ _ (by omega) (by omega) (by omega)) ?_
  have H:=Hp.pre (H.as (show _=(([R6,Q1]++Dd')++F2')++([⟨r22,true,T_api_Bitmap,o1.cs⟩]++[⟨r27,true,T_bool,[.bool (((i % 2:Nat):Int) == (0:Int))]⟩]) by simp only [List.append_assoc]))
  exact ⟨m-1,by omega,i+1,F2',Dd',f2',qd',k2',kd',by omega,by rw [e3,e2,List.length_append,List.length_append]; rfl,s2',s3',H.as (by simp only [List.append_assoc,List.cons_append,List.nil_append])⟩
 have hi4:i=4096:=by omega
 clear him h3
 obtain ⟨L,hL⟩:∃ L,L=(List.replicate i o1).map Own.b:=⟨_,rfl⟩
 have hLr:L=List.replicate i o1.b:=by rw [hL,List.map_replicate]
 have hLl:L.length=i:=by rw [hLr,List.length_replicate]
 obtain ⟨E,hE⟩:∃ E,E=evF i:=⟨_,rfl⟩
 rw [<- hE] at s2 hel ⊢
 have hLm:MayL L:=fun b hb=>by
  rw [hLr] at hb
  rw [List.eq_of_mem_replicate hb]
  exact hm1
 have hLw:∀ b∈L,W64 b.ws:=fun b hb=>by
  rw [hLr] at hb
  rw [List.eq_of_mem_replicate hb,hb1]
  exact hw0
 have hLa:areaL L=i:=by
  rw [hLr,area_rep,hb1]
  show i*(1*1)=i
  omega
 have hLs:SortedTo L L.length:=by rw [hLr]; exact rep_sorted _ _
 have hn0:([]:List Bmp).length=0:=rfl
 have hn1:([o1.b]:List Bmp).length=1:=rfl
 have hM0:MayL []:=fun b hb=>by cases hb
 have hM1:MayL [o1.b]:=fun b hb=>by rw [List.mem_singleton.1 hb]; exact hm1
 have chk1:chkD ((3:Nat):Int) L E.length []=0:=chkD_ok ⟨hM0,hLm,by omega,by omega,hLs⟩ (by omega)
 have hE1:(E++[true]).length=i+1:=by rw [List.length_append,hel]; rfl
 have chk2:chkD ((3:Nat):Int) L (E++[true]).length [o1.b]=120:=chkD_big ⟨hM1,hLm,by omega,by omega,hLs⟩ (.inl (by omega))
 have s3:Slot T_api_Bitmap 3 Dd qd L.length kd (csO (List.replicate i o1)):=by
  rw [hrl] at s3
  rw [hLl]
  exact s3
 rw [hrl,<- hLl]
 have hcapd:=Slot.cap3 s3
 have vwL:∀ {h:Heap} {J:List Ent},Hp hB [] h J->(∀ e∈Dd,e∈J)->Q1∈J->BmsV h qd L:=fun {h J} H h1 h2=>by
  rw [hL]
  refine viewO s3 H h1 fun o ho=>?_
  rw [List.eq_of_mem_replicate ho]
  exact ⟨hok1,fun e he=>by rw [hD1] at he; rw [List.mem_singleton.1 he,<- hQ1]; exact h2⟩
 have H:Hp hB [] h ((R6::Q1::Dd)++F2):=H.as (by simp only [List.cons_append])
 refine dEnc_ok (t:=((3:Nat):Int)) (new:=L) (ex:=E) (imp:=[]) (vwL H (fun e he=>by simp [he]) (by simp)) noneV (Slot.rdO' s2 H fun e he=>by simp [he]) (by omega) (Nat.zero_le _) hcapd fun D1 qo co h' hs H'=>?_
 rw [encD_ok chk1] at hs
 rw [chk1,encD_ok chk1]
 have H:=H.join H' hs.w
 clear H'
 refine ⟨_,_,_,_,rfl,?_⟩
 refine dDec_ok (imp:=[]) (dicB_lt chk1) (Slot.rdO' hs H fun e he=>by simp [he]) (Slot.cap hs) noneV (Nat.zero_le _) (fun t2 new2 ex2 RN qn cn RE qe ce h2 hd hM hLo hsE H'=>?_) fun er h2 hd _ _=>?_
 rotate_left
 ·rw [dec_enc chk1 hLw] at hd; cases hd
 rw [dec_enc chk1 hLw] at hd
 injection hd with hd
 injection hd with e1 hd
 injection hd with e2 e3
 subst e1 e2 e3
 have hREw:(RN++RE).all Ent.w=true:=by rw [List.all_append,hLo.w,hsE.w]; rfl
 have H:=H.join H' hREw
 clear H'
 refine ⟨_,_,_,_,_,_,_,_,rfl,?_⟩
 refine newC_hp H fun r42 h H=>?_
 have H:=H.rot
 refine stA H 0 rfl rfl rfl fun h H=>?_
 refine stA H 0 rfl rfl rfl fun h H=>?_
 refine stA H 0 rfl rfl rfl fun h H=>?_
 obtain ⟨R42,hR42⟩:∃ R42:Ent,R42=⟨r42,true,T_api_Dict,[.int .i64 ((3:Nat):Int), .slice qn L.length cn, .slice qe E.length ce]⟩:=⟨_,rfl⟩
 have H:Hp hB [] h ([R42]++(R6::Q1::Dd)++F2++(D1++(RN++RE))):=by rw [hR42]; exact H.as (by simp only [List.append_assoc,List.cons_append,List.nil_append,List.set])
 obtain ⟨Y,hY⟩:∃ Y:List Ent,Y=[R42]++(R6::Q1::Dd)++(D1++(RN++RE)):=⟨_,rfl⟩
 have H:Hp hB [] h (Y++F2):=by rw [hY]; exact Hp.swap H
 have hYw:Y.all Ent.w=true:=by rw [hY,hR42]; simp [hR6w,hQ1w,s3.w,hs.w,hLo.w,hsE.w]
 have mR6:R6∈Y:=by rw [hY]; simp
 have mQ1:Q1∈Y:=by rw [hY]; simp
 have mR42:R42∈Y:=by rw [hY]; simp
 have hsub:[R6,Q1].Sublist ([R42]++(R6::Q1::Dd)++(D1++(RN++RE))):=(((List.Sublist.cons_cons R6 (List.Sublist.cons_cons Q1 (List.nil_sublist _))).trans (List.sublist_append_right [R42] _)).trans (List.sublist_append_left _ _))
 have hYd:=hY
 have mDd:∀ e∈Dd,e∈Y:=fun e he=>by rw [hY]; simp [he]
 have mD1:∀ e∈D1,e∈Y:=fun e he=>by rw [hY]; simp [he]
 have appF:∀ {h:Heap} {r:Nat} {B:List Ent} {K1:Option Addr->Nat->Nat->Heap->Prop},Hp hB [] h (Y++(F2++B))->B.all Ent.w=true->(⟨r,true,T_bool,[.bool true]⟩:Ent)∈B ->
   (∀ F2' q' c' h',Slot T_bool 1 F2' q' (E++[true]).length c' (bls (E++[true]))->hkeep (fun b=>b=r6) h h'->Hp hB [] h' (Y++(F2'++B))->K1 q' (E++[true]).length c' h')->appC h T_bool 1 1 [.bool false] f2 E.length k2 (some ⟨r,0,none⟩) 1 K1:=fun {h r B K1} H hBw hr hK1=>by
  have Hg:=Hp.giveS (A:=[]) (S:=Y++(F2++B)) H
  refine Slot.app (m:=1) (new:=[.bool true]) s2 Hg rfl (Hp.rdO_mem (rest:=[]) (w:=true) (t:=T_bool) (cs:=[.bool true]) H (by rw [List.append_nil]; exact List.mem_append_right _ (List.mem_append_right _ hr)) rfl) rfl (fun w hw=>by rw [List.mem_singleton.1 hw]; rfl) (by decide) (by omega) fun F2' f2' k2' h' s2' H'=>?_
  have hlen:E.length+1=(E++[true]).length:=by rw [List.length_append]; rfl
  have s2'':Slot T_bool 1 F2' f2' (E++[true]).length k2' (bls (E++[true])):=by rw [bls_app,<- hlen]; exact s2'
  rw [hlen]
  refine hK1 F2' f2' k2' h' s2'' ⟨H'.fr.1,fun b hb hR=>?_⟩ (Hp.putS (A:=[]) (S:=Y++(F2++B)) (S':=Y++(F2'++B)) H (by rw [List.all_append,List.all_append,hYw,s2.w,hBw]; rfl) H' (by rw [List.all_append,List.all_append,hYw,s2'.w,hBw]; rfl))
  have g1:=H.mem R6 (List.mem_append_left _ mR6)
  have g2:=H'.mem R6 (List.mem_append_left _ mR6)
  rw [hR6] at g1 g2
  rw [hR]
  exact Eq.trans g2 g1.symm
 have oneV:∀ {h:Heap} {r:Nat} {J:List Ent},Hp hB [] h J->(⟨r,true,T_api_Bitmap,o1.cs⟩:Ent)∈J->Q1∈J->BmsV h (some ⟨r,0,none⟩) [o1.b]:=fun {h r J} H h1 h2=>by
  have hs1:Slot T_api_Bitmap 3 [⟨r,true,T_api_Bitmap,csO [o1]++[]⟩] (some ⟨r,0,none⟩) 1 1 (csO [o1]):=Slot.one (by rw [csO_len]; rfl) (by rw [List.append_nil,csO_len]; rfl)
  have hc1:csO [o1]++[]=o1.cs:=by unfold csO; simp
  refine viewO (O:=[o1]) hs1 H (fun e he=>?_) fun o ho=>?_
  ·rw [List.mem_singleton.1 he,hc1]; exact h1
  ·rw [List.mem_singleton.1 ho]
   exact ⟨hok1,fun e he=>by rw [hD1] at he; rw [List.mem_singleton.1 he,<- hQ1]; exact h2⟩
 have enc120:∀ {h:Heap} {r cE:Nat} {F2' B:List Ent} {qE:Option Addr} {K1:VK},Hp hB [] h (Y++(F2'++B))->Slot T_bool 1 F2' qE (E++[true]).length cE (bls (E++[true]))->(⟨r,true,T_api_Bitmap,o1.cs⟩:Ent)∈B ->
   (∀ qo n co h' J,Hp hB [] h' (Y++J)->K1 (.tuple #[.slice qo n co, .int .i64 120]) h')->CP F_dict_Encode #[.agg #[.int .i64 3, .slice qd L.length kd, .slice qE (E++[true]).length cE], .slice (some ⟨r,0,none⟩) 1 1] h K1 Kp:=fun {h r cE F2' B qE K1} H hsx hr hK1=>by
  refine dEnc_ok (t:=((3:Nat):Int)) (new:=L) (ex:=E++[true]) (imp:=[o1.b]) (vwL H (fun e he=>List.mem_append_left _ (mDd e he)) (List.mem_append_left _ mQ1)) (oneV H (List.mem_append_right _ (List.mem_append_right _ hr)) (List.mem_append_left _ mQ1)) (Slot.rdO' hsx H fun e he=>List.mem_append_right _ (List.mem_append_left _ he)) (by omega) (by omega) hcapd fun D2 qo co h' hs2 H'=>?_
  have H:=(H.join H' hs2.w).as (List.append_assoc _ _ _)
  rw [chk2]
  exact hK1 _ _ _ h' _ H
 refine ⟨fun vs h'=>vs=[.int .i64 120]/\∃ J,Hp hB [] h' (Y++J),?_,?_⟩
 ·refine ⟨fun b=>b=r6,?_⟩
  refine ld6 H (List.mem_append_left _ mR6) ?_
  refine ⟨rfl,?_⟩
  rw [<- hcs1]
  refine ⟨?_,?_⟩
  ·refine newC_hp H fun r54 h H=>?_
   refine ⟨?_,?_⟩
   ·refine appF (B:=[⟨r54,true,T_bool,[.bool true]⟩]) H.asc rfl (List.mem_singleton.2 rfl) fun F2' q' c' h' hsx hkp H=>?_
    refine ⟨hkp,?_⟩
    refine newC_hp H fun r58 h H=>?_
    have H:Hp hB [] h (Y++(F2'++([⟨r54,true,T_bool,[.bool true]⟩]++[⟨r58,true,T_api_Bitmap,o1.cs⟩]))):=H.as (by simp only [List.append_assoc])
    exact enc120 H hsx (by simp) fun qo n co h' J H=>⟨_,_,_,_,rfl,rfl,J,H⟩
   ·refine newC_hp H fun r64 h H=>?_
    have H:Hp hB [] h (Y++(F2++([⟨r54,true,T_bool,[.bool true]⟩]++[⟨r64,true,T_api_Bitmap,o1.cs⟩]))):=H.as (by simp only [List.append_assoc])
    refine appF H rfl (by simp) fun F2' q' c' h' hsx hkp H=>?_
    refine ⟨hkp,?_⟩
    exact enc120 H hsx (by simp) fun qo n co h' J H=>⟨_,_,_,_,rfl,rfl,J,H⟩
  ·refine newC_hp H fun r72 h H=>?_
   refine newC_hp H fun r74 h H=>?_
   have H:Hp hB [] h (Y++(F2++([⟨r72,true,T_api_Bitmap,o1.cs⟩]++[⟨r74,true,T_bool,[.bool true]⟩]))):=H.as (by simp only [List.append_assoc])
   refine appF H rfl (by simp) fun F2' q' c' h' hsx hkp H=>?_
   refine ⟨hkp,?_⟩
   exact enc120 H hsx (by simp) fun qo n co h' J H=>⟨_,_,_,_,rfl,rfl,J,H⟩
 clear H appF enc120
 rintro h u x82 ⟨hx82,J0,H⟩
 injection hx82 with hx82
 injection hx82 with _ hx82
 subst hx82
 refine ld6 H (List.mem_append_left _ mR6) ?_
 rw [<- hcs1]
 refine newC_hp H fun r86 h H=>?_
 have H:=H.asc
 refine dDec_ok (imp:=[o1.b]) (dicB_lt chk1) (Slot.rdO' hs H fun e he=>List.mem_append_left _ (mD1 e he)) (Slot.cap hs) (oneV H (by simp) (List.mem_append_left _ mQ1)) (by omega) (fun t2 new2 ex2 RN2 qn2 cn2 RE2 qe2 ce2 h2 hd hM hLo2 hsE2 H'=>?_) fun er h2 hd _ e=>?_
 ·rw [dec_more (by omega) (by omega) hM1 (by omega) (by omega)] at hd; cases hd
 rw [dec_more (by omega) (by omega) hM1 (by omega) (by omega)] at hd
 injection hd with hd
 subst hd
 have H:=H.ext e
 clear e
 refine ⟨_,_,_,_,_,_,_,_,rfl,?_⟩
 refine newC_hp H fun r94 h H=>?_
 have H:=H.rot
 refine stA H 0 rfl rfl rfl fun h H=>?_
 refine stA H 0 rfl rfl rfl fun h H=>?_
 refine stA H 0 rfl rfl rfl fun h H=>?_
 have H:Hp hB [] h (⟨r94,true,T_api_Dict,[.int .i64 0, .slice none 0 0, .slice none 0 0]⟩::(Y++(J0++[⟨r86,true,T_api_Bitmap,o1.cs⟩]))):=H
 have H:Hp hB [] h (Y++(J0++[⟨r86,true,T_api_Bitmap,o1.cs⟩])):=Hp.suf (X:=[⟨r94,true,T_api_Dict,[.int .i64 0, .slice none 0 0, .slice none 0 0]⟩]) H
 have H:=Hp.pre H
 refine bcase_ne (fun hh=>absurd rfl hh) fun _=>?_
 refine bcase_ne (fun hh=>absurd rfl hh) fun _=>?_
 obtain ⟨k42,hk42⟩:=List.getElem?_of_mem mR42
 rw [hR42] at hk42
 refine ldS_of (hpA H k42 hk42 rfl) ?_
 refine bcase_ne (fun hh=>absurd (by omega) hh) fun _=>?_
 refine bcase_ne (fun hh=>absurd rfl hh) fun _=>?_
 refine bcase_ne (fun hh=>absurd rfl hh) fun _=>?_
 have H:Hp hB [] h [R6,Q1]:=H.sub (by rw [hYd]; exact hsub)
 clear hk42 vwL oneV
 refine white_ok' (W:=1024) (X:=512) hsW fun ws2 q2 h' hl2 hw2 hp2 H'=>?_
 have H:=H.join H' rfl
 clear H'
 refine ⟨_,_,_,_,_,rfl,?_⟩
 refine white_ok' (W:=1024) (X:=512) hsW fun ws3 q3 h' hl3 hw3 hp3 H'=>?_
 have H:=H.join H' rfl
 clear H'
 refine ⟨_,_,_,_,_,rfl,?_⟩
 have hwd:wds 1024=16:=rfl
 rw [hwd] at hl2 hl3
 have hmay2:MayP ((1024:Nat):Int) ((512:Nat):Int) ws2:=may_of_pix hsW (by rw [hwd]; exact hl2) hw2 fun y _ x _ _=>hp2 x y
 have hmay3:MayP ((1024:Nat):Int) ((512:Nat):Int) ws3:=may_of_pix hsW (by rw [hwd]; exact hl3) hw3 fun y _ x _ _=>hp3 x y
 obtain ⟨o2,ho2⟩:∃ o2:Own,o2=⟨⟨1024,512,ws2⟩,at0 q2,ws2.length,[⟨q2,true,T_uint64,u64s ws2++[]⟩]⟩:=⟨_,rfl⟩
 obtain ⟨o3,ho3⟩:∃ o3:Own,o3=⟨⟨1024,512,ws3⟩,at0 q3,ws3.length,[⟨q3,true,T_uint64,u64s ws3++[]⟩]⟩:=⟨_,rfl⟩
 have hcs2:o2.cs=[.int .i64 1024, .int .i64 512, .slice (at0 q2) ws2.length ws2.length]:=by rw [ho2]; rfl
 have hcs3:o3.cs=[.int .i64 1024, .int .i64 512, .slice (at0 q3) ws3.length ws3.length]:=by rw [ho3]; rfl
 have hok2:o2.Ok:=by
  rw [ho2]
  exact ⟨Slot.one (by simp [u64s]) (by simp [u64s]),hw2,by show ws2.length<_; omega⟩
 have hok3:o3.Ok:=by
  rw [ho3]
  exact ⟨Slot.one (by simp [u64s]) (by simp [u64s]),hw3,by show ws3.length<_; omega⟩
 have hb2:o2.b=⟨1024,512,ws2⟩:=by rw [ho2]
 have hb3:o3.b=⟨1024,512,ws3⟩:=by rw [ho3]
 have hD2:o2.D=[⟨q2,true,T_uint64,u64s ws2++[]⟩]:=by rw [ho2]
 have hD3:o3.D=[⟨q3,true,T_uint64,u64s ws3++[]⟩]:=by rw [ho3]
 have hm2:o2.b.may:=by rw [hb2]; exact hmay2
 have hm3:o3.b.may:=by rw [hb3]; exact hmay3
 obtain ⟨Q2,hQ2⟩:∃ Q2:Ent,Q2=⟨q2,true,T_uint64,u64s ws2++[]⟩:=⟨_,rfl⟩
 obtain ⟨Q3,hQ3⟩:∃ Q3:Ent,Q3=⟨q3,true,T_uint64,u64s ws3++[]⟩:=⟨_,rfl⟩
 have H:Hp hB [] h' [R6,Q1,Q2,Q3]:=by rw [hQ2,hQ3]; exact H
 have hc23:csO [o2,o3]=[.int .i64 1024, .int .i64 512, .slice (at0 q2) ws2.length ws2.length, .int .i64 1024, .int .i64 512, .slice (at0 q3) ws3.length ws3.length]:=by
  show o2.cs++(o3.cs++[])=_
  rw [hcs2,hcs3]
  rfl
 have hc123:csO [o1,o2,o3]=o1.cs++csO [o2,o3]:=rfl
 have hcc:∀ v∈csO [o2,o3],v.oneCell'=true:=fun v hv=>csO_cells _ v hv
 refine newC_hp H fun r110 h H=>?_
 refine newC_hp H fun r112 h H=>?_
 refine newC_hp H fun r114 h H=>?_
 have H:Hp hB [] h [R6,Q1,Q2,Q3,⟨r110,true,T_api_Bitmap,csO [o2,o3]++[]⟩,⟨r112,true,T_bool,[.bool true, .bool true]⟩,⟨r114,true,T_api_Dict,[.int .i64 0, .slice none 0 0, .slice none 0 0]⟩]:=by rw [hc23]; exact H
 refine stA H 6 rfl rfl rfl fun h H=>?_
 refine stA H 6 rfl rfl rfl fun h H=>?_
 refine stA H 6 rfl rfl rfl fun h H=>?_
 have H:Hp hB [] h [R6,Q1,Q2,Q3,⟨r110,true,T_api_Bitmap,csO [o2,o3]++[]⟩,⟨r112,true,T_bool,[.bool true, .bool true]⟩,⟨r114,true,T_api_Dict,[.int .i64 0, .slice (some ⟨r110,0,none⟩) 2 2, .slice (some ⟨r112,0,none⟩) 2 2]⟩]:=H
 refine ldI_of (hpA H 6 rfl rfl) (ldS_of (hpA H 6 rfl rfl) (ldS_of (hpA H 6 rfl rfl) ?_))
 have s23:Slot T_api_Bitmap 3 [⟨r110,true,T_api_Bitmap,csO [o2,o3]++[]⟩] (some ⟨r110,0,none⟩) 2 2 (csO [o2,o3]):=Slot.one (by rw [csO_len]; rfl) (by rw [List.append_nil,csO_len]; rfl)
 have vw23:BmsV h (some ⟨r110,0,none⟩) [o2.b,o3.b]:=viewO (O:=[o2,o3]) s23 H (fun e he=>by rw [List.mem_singleton.1 he]; exact List.mem_of_getElem? (i:=4) rfl) fun o ho=>by
  rcases List.mem_cons.1 ho with rfl | ho
  ·exact ⟨hok2,fun e he=>by rw [hD2] at he; rw [List.mem_singleton.1 he,<- hQ2]; exact List.mem_of_getElem? (i:=2) rfl⟩
  ·rw [List.mem_singleton.1 ho]
   exact ⟨hok3,fun e he=>by rw [hD3] at he; rw [List.mem_singleton.1 he,<- hQ3]; exact List.mem_of_getElem? (i:=3) rfl⟩
 have vtt:FlsV h (some ⟨r112,0,none⟩) [true,true]:=Hp.rdO_mem (rest:=[]) (w:=true) (t:=T_bool) (cs:=[.bool true, .bool true]) H (List.mem_of_getElem? (i:=5) rfl) rfl
 have hn2:([o2.b,o3.b]:List Bmp).length=2:=rfl
 have hM2:MayL [o2.b,o3.b]:=fun b hb=>by
  rcases List.mem_cons.1 hb with rfl | hb
  ·exact hm2
  ·rw [List.mem_singleton.1 hb]; exact hm3
 have hW2:∀ b∈[o2.b,o3.b],W64 b.ws:=fun b hb=>by
  rcases List.mem_cons.1 hb with rfl | hb
  ·rw [hb2]; exact hw2
  ·rw [List.mem_singleton.1 hb,hb3]; exact hw3
 have ha2:areaL [o2.b,o3.b]=1048576:=by rw [hb2,hb3]; simp [areaL]
 have hS2:SortedTo [o2.b,o3.b] ([o2.b,o3.b]:List Bmp).length:=fun i a b hi ha hb=>by
  have hi:i+1<2:=hi
  have:i=0:=by omega
  subst this
  injection ha with ha
  injection hb with hb
  subst ha hb
  rw [hb2,hb3]
  show ¬ ((512:Int)<512\/(512:Int)=512/\(1024:Int)<1024)
  omega
 have chk3:chkD ((0:Nat):Int) [o2.b,o3.b] ([true,true]:List Bool).length []=0:=chkD_ok ⟨hM0,hM2,by decide,rfl,hS2⟩ (by rw [ha2,hn2,hn0]; omega)
 refine dEnc_ok (t:=((0:Nat):Int)) (new:=[o2.b,o3.b]) (ex:=[true,true]) (imp:=[]) vw23 noneV vtt (by rw [hn2]; omega) (Nat.zero_le _) (Nat.le_refl _) fun D3 qo3 co3 h' hs3 H'=>?_
 rw [encD_ok chk3] at hs3
 rw [chk3,encD_ok chk3]
 have H:=H.join H' hs3.w
 clear H'
 refine ⟨_,_,_,_,rfl,?_⟩
 refine dDec_ok (imp:=[]) (dicB_lt chk3) (Slot.rdO' hs3 H fun e he=>List.mem_append_right _ he) (Slot.cap hs3) noneV (Nat.zero_le _) (fun t2 new2 ex2 RN2 qn2 cn2 RE2 qe2 ce2 h2 hd hM hLo2 hsE2 H'=>?_) fun er h2 hd _ _=>?_
 rotate_left
 ·rw [dec_enc chk3 hW2] at hd; cases hd
 have e9:=H'.hext
 have H:=(Hp.pre H).ext e9
 clear H' e9 vw23 vtt
 refine ⟨_,_,_,_,_,_,_,_,rfl,?_⟩
 refine ld6 H (List.mem_cons_self ..) ?_
 rw [<- hcs1]
 refine newC_hp H fun r135 h H=>?_
 refine ldS_of (hpA H 6 rfl rfl) ?_
 have s1:Slot T_api_Bitmap 3 [⟨r135,true,T_api_Bitmap,csO [o1]++[]⟩] (some ⟨r135,0,none⟩) 1 1 (csO [o1]):=Slot.one (by rw [csO_len]; rfl) (by rw [List.append_nil,csO_len]; rfl)
 have hc1:csO [o1]++[]=o1.cs:=by unfold csO; simp
 have H:Hp hB [] h ([R6,Q1,Q2,Q3,⟨r110,true,T_api_Bitmap,csO [o2,o3]++[]⟩,⟨r112,true,T_bool,[.bool true, .bool true]⟩,⟨r114,true,T_api_Dict,[.int .i64 0, .slice (some ⟨r110,0,none⟩) 2 2, .slice (some ⟨r112,0,none⟩) 2 2]⟩]++([⟨r135,true,T_api_Bitmap,csO [o1]++[]⟩]++[])):=by rw [hc1]; exact H
 refine Slot.app (m:=2) (new:=csO [o2,o3]) s1 H rfl (Hp.rdO_mem (rest:=[]) (w:=true) (t:=T_api_Bitmap) (cs:=csO [o2,o3]) H (List.mem_append_left _ (List.mem_of_getElem? (i:=4) rfl)) (csO_len _)) (csO_len _) hcc (by decide) (by decide) fun D7 q7 c7 h s7 H=>?_
 have s7:Slot T_api_Bitmap 3 D7 q7 3 c7 (csO [o1,o2,o3]):=s7
 refine stA H 6 rfl rfl rfl fun h H=>?_
 have H:Hp hB [] h ([R6,Q1,Q2,Q3,⟨r110,true,T_api_Bitmap,csO [o2,o3]++[]⟩,⟨r112,true,T_bool,[.bool true, .bool true]⟩,⟨r114,true,T_api_Dict,[.int .i64 0, .slice q7 3 c7, .slice (some ⟨r112,0,none⟩) 2 2]⟩]++(D7++[])):=H
 refine ldS_of (hpA H 6 rfl rfl) ?_
 refine newC_hp H fun r142 h H=>?_
 have H:Hp hB [] h ([R6,Q1,Q2,Q3,⟨r110,true,T_api_Bitmap,csO [o2,o3]++[]⟩,⟨r112,true,T_bool,[.bool true, .bool true]⟩,⟨r114,true,T_api_Dict,[.int .i64 0, .slice q7 3 c7, .slice (some ⟨r112,0,none⟩) 2 2]⟩]++(D7++[⟨r142,true,T_bool,[.bool false]⟩])):=H.as (by rw [List.append_nil D7]; exact List.append_assoc _ _ _)
 have H:Hp hB [] h ([R6,Q1,Q2,Q3,⟨r110,true,T_api_Bitmap,csO [o2,o3]++[]⟩]++([⟨r112,true,T_bool,bls [true,true]++[]⟩]++(⟨r114,true,T_api_Dict,[.int .i64 0, .slice q7 3 c7, .slice (some ⟨r112,0,none⟩) 2 2]⟩::(D7++[⟨r142,true,T_bool,[.bool false]⟩])))):=H
 have stt:Slot T_bool 1 [⟨r112,true,T_bool,bls [true,true]++[]⟩] (some ⟨r112,0,none⟩) 2 2 (bls [true,true]):=Slot.one rfl rfl
 refine Slot.app (m:=1) (new:=[.bool false]) stt H rfl (Hp.rdO_mem (rest:=[]) (w:=true) (t:=T_bool) (cs:=[.bool false]) H (by rw [List.append_nil]; exact List.mem_append_right _ (List.mem_append_right _ (List.mem_cons_of_mem _ (List.mem_append_right _ (List.mem_singleton.2 rfl))))) rfl) rfl (fun w hw=>by rw [List.mem_singleton.1 hw]; rfl) (by decide) (by decide) fun D8 q8 c8 h s8 H=>?_
 have s8:Slot T_bool 1 D8 q8 3 c8 (bls [true,true,false]):=s8
 have H:Hp hB [] h (⟨r114,true,T_api_Dict,[.int .i64 0, .slice q7 3 c7, .slice (some ⟨r112,0,none⟩) 2 2]⟩::((D7++[⟨r142,true,T_bool,[.bool false]⟩])++([R6,Q1,Q2,Q3,⟨r110,true,T_api_Bitmap,csO [o2,o3]++[]⟩]++D8))):=Hp.rot H.asc'
 refine stA H 0 rfl rfl rfl fun h H=>?_
 refine ldI_of (hpA H 0 rfl rfl) (ldS_of (hpA H 0 rfl rfl) (ldS_of (hpA H 0 rfl rfl) ?_))
 have H:Hp hB [] h ([⟨r114,true,T_api_Dict,[.int .i64 0, .slice q7 3 c7, .slice q8 3 c8]⟩]++((D7++[⟨r142,true,T_bool,[.bool false]⟩])++([R6,Q1,Q2,Q3,⟨r110,true,T_api_Bitmap,csO [o2,o3]++[]⟩]++D8))):=H
 have mid:∀ e∈[R6,Q1,Q2,Q3,(⟨r110,true,T_api_Bitmap,csO [o2,o3]++[]⟩:Ent)],e∈[(⟨r114,true,T_api_Dict,[.int .i64 0, .slice q7 3 c7, .slice q8 3 c8]⟩:Ent)]++((D7++[⟨r142,true,T_bool,[.bool false]⟩])++([R6,Q1,Q2,Q3,⟨r110,true,T_api_Bitmap,csO [o2,o3]++[]⟩]++D8)):=fun e he=>List.mem_append_right _ (List.mem_append_right _ (List.mem_append_left _ he))
 have vw3:BmsV h q7 [o1.b,o2.b,o3.b]:=viewO (O:=[o1,o2,o3]) s7 H (fun e he=>List.mem_append_right _ (List.mem_append_left _ (List.mem_append_left _ he))) fun o ho=>by
  rcases List.mem_cons.1 ho with rfl | ho
  ·exact ⟨hok1,fun e he=>by rw [hD1] at he; rw [List.mem_singleton.1 he,<- hQ1]; exact mid _ (List.mem_of_getElem? (i:=1) rfl)⟩
  ·rcases List.mem_cons.1 ho with rfl | ho
   ·exact ⟨hok2,fun e he=>by rw [hD2] at he; rw [List.mem_singleton.1 he,<- hQ2]; exact mid _ (List.mem_of_getElem? (i:=2) rfl)⟩
   ·rw [List.mem_singleton.1 ho]
    exact ⟨hok3,fun e he=>by rw [hD3] at he; rw [List.mem_singleton.1 he,<- hQ3]; exact mid _ (List.mem_of_getElem? (i:=3) rfl)⟩
 have vtf:FlsV h q8 [true,true,false]:=Slot.rdO' s8 H fun e he=>List.mem_append_right _ (List.mem_append_right _ (List.mem_append_right _ he))
 have hn3:([o1.b,o2.b,o3.b]:List Bmp).length=3:=rfl
 have hM3:MayL [o1.b,o2.b,o3.b]:=fun b hb=>by
  rcases List.mem_cons.1 hb with rfl | hb
  ·exact hm1
  ·exact hM2 b hb
 have ha3:areaL [o1.b,o2.b,o3.b]=1048577:=by rw [hb1,hb2,hb3]; simp [areaL]
 have hS3:SortedTo [o1.b,o2.b,o3.b] ([o1.b,o2.b,o3.b]:List Bmp).length:=fun i a b hi ha hb=>by
  have hi:i+1<3:=hi
  rcases (show i=0\/i=1 by omega) with rfl | rfl
  ·injection ha with ha
   injection hb with hb
   subst ha hb
   rw [hb1,hb2]
   show ¬ ((512:Int)<1\/(512:Int)=1/\(1024:Int)<1)
   omega
  ·injection ha with ha
   injection hb with hb
   subst ha hb
   rw [hb2,hb3]
   show ¬ ((512:Int)<512\/(512:Int)=512/\(1024:Int)<1024)
   omega
 have chk4:chkD ((0:Nat):Int) [o1.b,o2.b,o3.b] ([true,true,false]:List Bool).length []=120:=chkD_big ⟨hM0,hM3,by decide,rfl,hS3⟩ (.inr (by rw [ha3]; omega))
 refine dEnc_ok (t:=((0:Nat):Int)) (new:=[o1.b,o2.b,o3.b]) (ex:=[true,true,false]) (imp:=[]) vw3 noneV vtf (by rw [hn3]; omega) (Nat.zero_le _) (Slot.cap3 s7) fun D9 qo9 co9 h' hs9 H'=>?_
 rw [chk4]
 have H:=H.join H' hs9.w
 clear H'
 refine ⟨_,_,_,_,rfl,?_⟩
 refine bcase_eq (fun _=>?_) fun hh=>absurd rfl hh
 refine bcase_eq (fun _=>?_) fun hh=>absurd rfl hh
 refine bcase_eq (fun _=>?_) fun hh=>absurd rfl hh
 exact wakes13_ok fun h' e=>⟨_,rfl,hk _ (H.hext.trans e)⟩
end
end Go.Bm
namespace Go.Proofs.YtfaclehehhgpcaaGreat
open Go.ChangeShapes Go.WideShapes Go.ChangeAt Go.RowKit
theorem own:ownKnob Tryz.prog.godebug=none:=by kernel_rfl
theorem below_of {W W':World} (hk:Go.Den.keeps W W') (h:Go.Den.hext W.heap W'.heap):Below W.heap.size W W' :=
 ⟨hk.1,hk.2.1,hk.2.2,h.1,fun k hlt=>h.2 k hlt⟩
theorem walk_of {f:FuncId} {args:Array Value} {W:World}
  (h:Calls Tryz.prog f args W fun e w'=>Go.Den.keeps W w'/\match e with
   | .returned v=>v = .bool true/\Go.Den.hext W.heap w'.heap
   | .panicked c=>False
   | .outgrown=>False):Calls Tryz.prog f args W fun e W'=>e = .returned (.bool true)/\Below W.heap.size W W':=by
 refine h.mono fun e W' he=>?_
 obtain ⟨hk,he⟩:=he
 cases e with
 | returned v=>exact ⟨by rw [he.1],below_of hk he.2⟩
 | panicked c=>exact he.elim
 | outgrown=>exact he.elim
end Go.Proofs.YtfaclehehhgpcaaGreat
namespace Go.Proofs.YtfaclehehhgpcaaGreat
open Go.ChangeShapes Go.WideShapes Go.ChangeAt Go.RowKit
theorem dictMost_walk (W:World):Calls Tryz.prog 11 #[] W fun e W'=>e = .returned (.bool true)/\Below W.heap.size W W' :=
 walk_of ((Go.Bm.dMost_law (hB:=W.heap) (K:=fun v h'=>v = .bool true/\Go.Den.hext W.heap h') (Kp:=fun _ _=>False) fun h' e=>⟨rfl,e⟩).2 W rfl)
theorem dictMost_lifted (os:Os) (started:os.Started) (H:Type) (enc:TypeId × Value->H) :
  ReturnsInHanded {} Tryz.checked os 11 .any (Rows.dictMostSpec.pre6 enc Tryz.prog Tryz.f11 Rows.dictMostRow.domain false) (Rows.dictMostSpec.post enc Tryz.prog Tryz.f11 false true false false):=by
 refine returnsInHanded_of_change (C:=Tryz.checked) own started (by kernel_rfl) Tryz.func11
  (ChangeSpec.witness6 (enc:=enc) (C:=Tryz.checked) false ⟨#[],#[],[]⟩ 8 (by kernel_rfl) (by kernel_rfl) (by kernel_rfl) (by kernel_rfl)) ?_
 intro W base args ds gs before hval0 hW hcnd _
 have hval:∀ (j:Nat) t v,Tryz.f11.params[j]? = some t->args[j]? = some v->Value.okWide Tryz.prog W .any base t v:=hval0
 have hW':=hW
 obtain ⟨p,q,hA0,hV,rfl,hfz,hnd⟩:=hW
 have hA:DataW.TrodAll enc Tryz.prog W 0 (fun _=>true) true Tryz.f11.params.toList args.toList ds p:=hA0
 rw [Tryz.params11] at hA hval
 obtain ⟨rfl,rfl,rfl⟩:=trodAll_none hA
 obtain ⟨rfl,rfl⟩:=trodVars_none hV
 clear hA0 hval0
 simp only [List.append_nil] at hW'
 refine (dictMost_walk W).mono fun e W' ⟨he,hb⟩=>?_
 subst he
 refine ⟨_,rfl,[],[],_,[],[],[],hW',?_,?_,?_,hb.frame _,fun h=>Bool.noConfusion h⟩
 ·exact trodAll_cons_mk (shut_bool Go.Proofs.Tryz.underlying4 _) trodAll_mk0
 ·rfl
 ·rfl
theorem dictMost_over:Rows.dictMostRow.holds Tryz.pinned (OpenSpec.ofChange Rows.dictMostSpec) :=
 OpenClaim.holds_of_wide 11 Tryz.f11 rfl rfl rfl rfl rfl rfl rfl ⟨rfl,rfl,rfl,rfl,rfl⟩ rfl rfl rfl rfl rfl (by kernel_rfl) Tryz.func11 (by kernel_rfl)
  (of_decide_eq_true (by kernel_rfl)) (by unfold Func.isWrapper; first | (rw [if_pos (by decide +kernel)]; kernel_rfl) | (rw [if_neg (by decide +kernel)]; exact ⟨rfl,rfl⟩))
  (fun os started H enc _=>dictMost_lifted os started H enc)
theorem dictMost_proved:Rows.DictMostSaid:=dictMost_over
#print axioms dictMost_proved
end Go.Proofs.YtfaclehehhgpcaaGreat
