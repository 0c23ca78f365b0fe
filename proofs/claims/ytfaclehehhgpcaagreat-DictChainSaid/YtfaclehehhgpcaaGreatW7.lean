/- The given statement DictChainSaid is proved of the given program; there are no further conditions. W7: put together by wip/tools/bundle.py: DcT DcR Mlaw13DictBack Blaw13DictBack DcV Mlaw13DictChain Blaw13DictChain DcW ArLink2 DcChain. -/
import Derived.Test.YtfaclehehhgpcaaGreatW1
import Derived.Test.YtfaclehehhgpcaaGreatW2
import Derived.Test.YtfaclehehhgpcaaGreatW3
import Derived.Test.YtfaclehehhgpcaaGreatW4
import Derived.Test.YtfaclehehhgpcaaGreatW5
import Derived.Test.YtfaclehehhgpcaaGreatW6
import Derived.Test.YtfaclehehhgpcaaGreatProg
import Derived.WalkKit
import Derived.ProofKit
import Derived.OpenShut
import Derived.Carry
import Derived.Deep.SlicePairs
import Derived.Lib.SmallJoins
import Derived.Test.YtfaclehehhgpcaaGreatRows
set_option linter.unusedVariables false
set_option linter.unusedSimpArgs false
set_option maxRecDepth 100000
namespace Go.Bm
open Go Go.Den Go.Den.YtfaclehehhgpcaaGreat
theorem expD_mem {t:Int} {new imp:List Bmp} {ex:List Bool}:∀ b∈expD t new ex imp,b∈imp\/b∈new:=fun b hb=>by
 unfold expD at hb
 split at hb
 ·have:=pickTo_mem (Nat.le_refl _) b hb
  exact List.mem_append.1 this
 ·cases hb
theorem expD_len {t:Int} {new imp:List Bmp} {ex:List Bool}:(expD t new ex imp).length<=imp.length+new.length:=by
 unfold expD
 split
 ·have:=pickTo_len (imp++new) ex (imp++new).length
  rw [List.length_append] at this
  exact Nat.le_trans (pickTo_len (imp++new) ex (imp++new).length) (by rw [List.length_append]; exact Nat.le_refl _)
 ·exact Nat.zero_le _
end Go.Bm
namespace Go.Bm
open Go Go.Den Go.Den.YtfaclehehhgpcaaGreat
section
variable {hB:Heap} {K:VK} {Kp:PK} {q qi:Option Addr} {c ci:Nat} {b:List Nat} {imp:List Bmp}
end
end Go.Bm
namespace Go.Den.YtfaclehehhgpcaaGreat
open Go Go.Den
end Go.Den.YtfaclehehhgpcaaGreat
namespace Go.Den.YtfaclehehhgpcaaGreat
open Go Go.Den
end Go.Den.YtfaclehehhgpcaaGreat
namespace Go.Bm
open Go Go.Den Go.Den.YtfaclehehhgpcaaGreat
section
variable {hB h:Heap} {K:VK} {Kp:PK}
end
section
variable {hB:Heap} {K:VK} {Kp:PK}
end
end Go.Bm
namespace Go.Den.YtfaclehehhgpcaaGreat
open Go Go.Den
def burinlaw13_DictChain (C:CallP) (a0_1:Int) (a0_2:Option Addr) (a0_2n:Nat) (a0_2c:Nat) (a0_3:Option Addr) (a0_3n:Nat) (a0_3c:Nat) (a0_4:Option Addr) (a0_4n:Nat) (a0_4c:Nat) (h:Heap) (K:VK) (Kp:PK):Prop :=
newC h [.int .i64 a0_1, .slice a0_2 a0_2n a0_2c, .slice a0_3 a0_3n a0_3c, .slice a0_4 a0_4n a0_4c] T_burinlaw13_Ask fun r_5 h_6 =>
ldS h_6 (((⟨r_5,0,none⟩:Addr).add 0).add 1) fun x_7 x_7n x_7c =>
C F_burinlaw13_light #[.slice x_7 x_7n x_7c] h_6 (fun v_8 h_9 =>
∃ (r_10:Bool),v_8 = .bool r_10/\(
bcase (!r_10) (
C F_burinlaw13_wakes #[] h_9 (fun v_11 h_12 =>
∃ (r_13:Bool),v_11 = .bool r_13/\(
K (.bool r_13) h_12)) (Kp)) <|
ldS h_9 ((⟨r_5,0,none⟩:Addr).add 3) fun x_14 x_14n x_14c =>
C F_burinlaw13_light #[.slice x_14 x_14n x_14c] h_9 (fun v_15 h_16 =>
∃ (r_17:Bool),v_15 = .bool r_17/\(
bcase (!r_17) (
C F_burinlaw13_wakes #[] h_16 (fun v_18 h_19 =>
∃ (r_20:Bool),v_18 = .bool r_20/\(
K (.bool r_20) h_19)) (Kp)) <|
ldI h_16 (((⟨r_5,0,none⟩:Addr).add 0).add 0) .i64 fun x_21 =>
ldS h_16 (((⟨r_5,0,none⟩:Addr).add 0).add 1) fun x_22 x_22n x_22c =>
ldS h_16 (((⟨r_5,0,none⟩:Addr).add 0).add 2) fun x_23 x_23n x_23c =>
ldS h_16 ((⟨r_5,0,none⟩:Addr).add 3) fun x_24 x_24n x_24c =>
C F_dict_Exported #[.agg #[.int .i64 x_21, .slice x_22 x_22n x_22c, .slice x_23 x_23n x_23c], .slice x_24 x_24n x_24c] h_16 (fun v_25 h_26 =>
∃ (r_27:Option Addr) (r_27n:Nat) (r_27c:Nat),∃ (r_28:Int),v_25 = .tuple #[.slice r_27 r_27n r_27c, .int .i64 r_28]/\(
bcase (r_28 != (0:Int)) (
bcase ((r_27n:Int) == (0:Int)) (
C F_burinlaw13_wakes #[] h_26 (fun v_29 h_30 =>
∃ (r_31:Bool),v_29 = .bool r_31/\(
K (.bool r_31) h_30)) (Kp)) <|
K (.bool false) h_26) <|
ldI h_26 (((⟨r_5,0,none⟩:Addr).add 0).add 0) .i64 fun x_32 =>
bindI (IntKind.i64.wrap ((3:Int)-x_32)) fun z_33 =>
newC h_26 [.int .i64 0, .slice none 0 0, .slice none 0 0] T_api_Dict fun r_34 h_35 =>
stV h_35 ((⟨r_34,0,none⟩:Addr).add 0) (.int .i64 z_33) fun h_36 =>
stV h_36 ((⟨r_34,0,none⟩:Addr).add 1) (.slice none 0 0) fun h_37 =>
stV h_37 ((⟨r_34,0,none⟩:Addr).add 2) (.slice none 0 0) fun h_38 =>
ldI h_38 (((⟨r_5,0,none⟩:Addr).add 0).add 0) .i64 fun x_39 =>
newC h_38 [.int .i64 0, .slice none 0 0, .slice none 0 0] T_api_Dict fun r_40 h_41 =>
stV h_41 ((⟨r_40,0,none⟩:Addr).add 0) (.int .i64 x_39) fun h_42 =>
stV h_42 ((⟨r_40,0,none⟩:Addr).add 1) (.slice none 0 0) fun h_43 =>
stV h_43 ((⟨r_40,0,none⟩:Addr).add 2) (.slice none 0 0) fun h_44 =>
∃ J_45:Nat->List Value->Heap->Prop,(∃ n_47,J_45 n_47 [.slice none 0 0, .int .i64 0] h_44)/\∀ (n_47:Nat) (h_48:Heap) (u_49:Nat->Value) (x_50:Option Addr) (x_50n:Nat) (x_50c:Nat) (x_51:Int),J_45 n_47 [.slice x_50 x_50n x_50c, .int .i64 x_51] h_48->(
bcase (decide (x_51<(r_27n:Int))) (
ldS h_48 ((⟨r_34,0,none⟩:Addr).add 2) fun x_52 x_52n x_52c =>
newC h_48 [.bool true] T_bool fun r_53 h_54 =>
appC h_54 T_bool 1 1 [.bool false] x_52 (x_52n) (x_52c) (some ⟨r_53,0,none⟩) (1) fun q_55 q_55n q_55c h_56 =>
stV h_56 ((⟨r_34,0,none⟩:Addr).add 2) (.slice q_55 q_55n q_55c) fun h_57 =>
ldS h_57 ((⟨r_40,0,none⟩:Addr).add 2) fun x_58 x_58n x_58c =>
bindI (x_51.tmod (2:Int)) fun z_59 =>
newC h_57 [.bool (z_59 == (1:Int))] T_bool fun r_60 h_61 =>
appC h_61 T_bool 1 1 [.bool false] x_58 (x_58n) (x_58c) (some ⟨r_60,0,none⟩) (1) fun q_62 q_62n q_62c h_63 =>
stV h_63 ((⟨r_40,0,none⟩:Addr).add 2) (.slice q_62 q_62n q_62c) fun h_64 =>
bindI (x_51.tmod (2:Int)) fun z_65 =>
bcase (z_65 == (1:Int)) (
needs (0<=x_51/\x_51<(r_27n:Int)) <|
ptr r_27 fun a_66 =>
ldI h_64 ((a_66.add (x_51.toNat*3)).add 0) .i64 fun x_67 =>
ldI h_64 ((a_66.add (x_51.toNat*3)).add 1) .i64 fun x_68 =>
ldS h_64 ((a_66.add (x_51.toNat*3)).add 2) fun x_69 x_69n x_69c =>
newC h_64 [.int .i64 x_67, .int .i64 x_68, .slice x_69 x_69n x_69c] T_api_Bitmap fun r_70 h_71 =>
appC h_71 T_api_Bitmap 3 40 [.int .i64 0, .int .i64 0, .slice none 0 0] x_50 (x_50n) (x_50c) (some ⟨r_70,0,none⟩) (1) fun q_72 q_72n q_72c h_73 =>
bindI (IntKind.i64.wrap (x_51+(1:Int))) fun z_74 =>
∃ m_46,m_46<n_47/\J_45 m_46 [.slice q_72 q_72n q_72c, .int .i64 z_74] h_73) <|
bindI (IntKind.i64.wrap (x_51+(1:Int))) fun z_75 =>
∃ m_46,m_46<n_47/\J_45 m_46 [.slice x_50 x_50n x_50c, .int .i64 z_75] h_64) <|
ldI h_48 ((⟨r_34,0,none⟩:Addr).add 0) .i64 fun x_76 =>
ldS h_48 ((⟨r_34,0,none⟩:Addr).add 1) fun x_77 x_77n x_77c =>
ldS h_48 ((⟨r_34,0,none⟩:Addr).add 2) fun x_78 x_78n x_78c =>
C F_dict_Exported #[.agg #[.int .i64 x_76, .slice x_77 x_77n x_77c, .slice x_78 x_78n x_78c], .slice r_27 r_27n r_27c] h_48 (fun v_79 h_80 =>
∃ (r_81:Option Addr) (r_81n:Nat) (r_81c:Nat),∃ (r_82:Int),v_79 = .tuple #[.slice r_81 r_81n r_81c, .int .i64 r_82]/\(
ldI h_80 ((⟨r_40,0,none⟩:Addr).add 0) .i64 fun x_83 =>
ldS h_80 ((⟨r_40,0,none⟩:Addr).add 1) fun x_84 x_84n x_84c =>
ldS h_80 ((⟨r_40,0,none⟩:Addr).add 2) fun x_85 x_85n x_85c =>
C F_dict_Exported #[.agg #[.int .i64 x_83, .slice x_84 x_84n x_84c, .slice x_85 x_85n x_85c], .slice r_81 r_81n r_81c] h_80 (fun v_86 h_87 =>
∃ (r_88:Option Addr) (r_88n:Nat) (r_88c:Nat),∃ (r_89:Int),v_86 = .tuple #[.slice r_88 r_88n r_88c, .int .i64 r_89]/\(
ldI h_87 ((⟨r_40,0,none⟩:Addr).add 0) .i64 fun x_90 =>
ldS h_87 ((⟨r_40,0,none⟩:Addr).add 1) fun x_91 x_91n x_91c =>
ldS h_87 ((⟨r_40,0,none⟩:Addr).add 2) fun x_92 x_92n x_92c =>
C F_dict_Encode #[.agg #[.int .i64 x_90, .slice x_91 x_91n x_91c, .slice x_92 x_92n x_92c], .slice r_81 r_81n r_81c] h_87 (fun v_93 h_94 =>
∃ (r_95:Option Addr) (r_95n:Nat) (r_95c:Nat),∃ (r_96:Int),v_93 = .tuple #[.slice r_95 r_95n r_95c, .int .i64 r_96]/\(
C F_dict_Decode #[.slice r_95 r_95n r_95c, .slice r_81 r_81n r_81c] h_94 (fun v_97 h_98 =>
∃ (r_99:Int) (r_100:Option Addr) (r_100n:Nat) (r_100c:Nat) (r_101:Option Addr) (r_101n:Nat) (r_101c:Nat),∃ (r_102:Int),v_97 = .tuple #[.agg #[.int .i64 r_99, .slice r_100 r_100n r_100c, .slice r_101 r_101n r_101c], .int .i64 r_102]/\(
newC h_98 [.int .i64 0, .slice none 0 0, .slice none 0 0] T_api_Dict fun r_103 h_104 =>
stV h_104 ((⟨r_103,0,none⟩:Addr).add 0) (.int .i64 r_99) fun h_105 =>
stV h_105 ((⟨r_103,0,none⟩:Addr).add 1) (.slice r_100 r_100n r_100c) fun h_106 =>
stV h_106 ((⟨r_103,0,none⟩:Addr).add 2) (.slice r_101 r_101n r_101c) fun h_107 =>
bcase (r_82 == (0:Int)) (
bcase (r_89 == (0:Int)) (
bcase (r_96 == (0:Int)) (
bcase (r_102 == (0:Int)) (
C F_burinref0_EqBitmaps #[.slice r_27 r_27n r_27c, .slice r_81 r_81n r_81c] h_107 (fun v_108 h_109 =>
∃ (r_110:Bool),v_108 = .bool r_110/\(
bcase r_110 (
C F_burinref0_EqBitmaps #[.slice r_88 r_88n r_88c, .slice x_50 x_50n x_50c] h_109 (fun v_111 h_112 =>
∃ (r_113:Bool),v_111 = .bool r_113/\(
bcase r_113 (
ldI h_112 ((⟨r_103,0,none⟩:Addr).add 0) .i64 fun x_114 =>
ldS h_112 ((⟨r_103,0,none⟩:Addr).add 1) fun x_115 x_115n x_115c =>
ldS h_112 ((⟨r_103,0,none⟩:Addr).add 2) fun x_116 x_116n x_116c =>
ldI h_112 ((⟨r_40,0,none⟩:Addr).add 0) .i64 fun x_117 =>
ldS h_112 ((⟨r_40,0,none⟩:Addr).add 1) fun x_118 x_118n x_118c =>
ldS h_112 ((⟨r_40,0,none⟩:Addr).add 2) fun x_119 x_119n x_119c =>
C F_burinref0_EqDict #[.agg #[.int .i64 x_114, .slice x_115 x_115n x_115c, .slice x_116 x_116n x_116c], .agg #[.int .i64 x_117, .slice x_118 x_118n x_118c, .slice x_119 x_119n x_119c]] h_112 (fun v_120 h_121 =>
∃ (r_122:Bool),v_120 = .bool r_122/\(
bcase r_122 (
C F_burinlaw13_wakes #[] h_121 (fun v_123 h_124 =>
∃ (r_125:Bool),v_123 = .bool r_125/\(
K (.bool r_125) h_124)) (Kp)) <|
K (.bool false) h_121)) (Kp)) <|
K (.bool false) h_112)) (Kp)) <|
K (.bool false) h_109)) (Kp)) <|
K (.bool false) h_107) <|
K (.bool false) h_107) <|
K (.bool false) h_107) <|
K (.bool false) h_107)) (Kp))) (Kp))) (Kp))) (Kp)))) (Kp))) (Kp))) (Kp)
end Go.Den.YtfaclehehhgpcaaGreat
namespace Go.Den.YtfaclehehhgpcaaGreat
open Go Go.Den
theorem call_burinlaw13_DictChain {a0_1:Int} {a0_2:Option Addr} {a0_2n:Nat} {a0_2c:Nat} {a0_3:Option Addr} {a0_3n:Nat} {a0_3c:Nat} {a0_4:Option Addr} {a0_4n:Nat} {a0_4c:Nat} {h:Heap} {K:VK} {Kp:PK} (H:burinlaw13_DictChain (CallsHP Go.Proofs.Tryz.prog) a0_1 a0_2 a0_2n a0_2c a0_3 a0_3n a0_3c a0_4 a0_4n a0_4c h K Kp):CallsHP Go.Proofs.Tryz.prog F_burinlaw13_DictChain #[.agg #[.int .i64 a0_1, .slice a0_2 a0_2n a0_2c, .slice a0_3 a0_3n a0_3c, .slice a0_4 a0_4n a0_4c]] h K Kp :=
 callsHP_ofE (Hints.mk (fun i=>none) (fun i=>bif Nat.beq i 10 then some ([(7, .slc),(8, .int .i64)],9671406538902634888167808) else (none)) (fun i=>none) []) (by kernel_rfl) Go.Proofs.Tryz.func10 (by kernel_rfl) (fun C=>burinlaw13_DictChain C a0_1 a0_2 a0_2n a0_2c a0_3 a0_3n a0_3c a0_4 a0_4n a0_4c h K Kp) (fun C=>by kernel_rfl) H
end Go.Den.YtfaclehehhgpcaaGreat
namespace Go.Bm
open Go Go.Den Go.Den.YtfaclehehhgpcaaGreat
open Go.Ar (add_add')
def oddF:Nat->List Bool
 | 0=>[]
 | i+1=>oddF i++[(((i % 2:Nat):Int) == (1:Int))]
theorem oddF_len:∀ i,(oddF i).length=i
 | 0=>rfl
 | i+1=>by unfold oddF; rw [List.length_append,oddF_len i]; rfl
theorem oddF_get {i:Nat}:∀ {n:Nat},i<n->(oddF n).getD i false=(((i % 2:Nat):Int) == (1:Int))
 | 0,h=>by omega
 | n+1,h=>by
  unfold oddF
  rw [List.getD_eq_getElem?_getD]
  rcases Nat.lt_or_ge i n with h1 | h1
  ·rw [List.getElem?_append_left (by rw [oddF_len]; exact h1),<- List.getD_eq_getElem?_getD]
   exact oddF_get h1
  ·obtain rfl:i=n:=by omega
   rw [List.getElem?_append_right (by rw [oddF_len]; exact Nat.le_refl _),oddF_len,Nat.sub_self]
   rfl
def dueO (O:List Own):Nat->List Own
 | 0=>[]
 | i+1=>dueO O i++(if ((i % 2:Nat):Int)=1 then (O[i]?).toList else [])
theorem dueO_mem {O:List Own}:∀ {i:Nat},∀ o∈dueO O i,o∈O
 | 0,o,h=>by cases h
 | i+1,o,h=>by
  unfold dueO at h
  rcases List.mem_append.1 h with h | h
  ·exact dueO_mem o h
  ·split at h
   ·cases ho:O[i]? with
    | none=>rw [ho] at h; cases h
    | some x =>
     rw [ho] at h
     have h:o∈[x]:=h
     rw [List.mem_singleton.1 h]
     exact List.mem_of_getElem? ho
   ·cases h
theorem dueO_len {O:List Own}:∀ i,(dueO O i).length<=i
 | 0=>Nat.le_refl _
 | i+1=>by
  have:=dueO_len (O:=O) i
  unfold dueO
  rw [List.length_append]
  split
  ·cases O[i]? <;> simp <;> omega
  ·simp; omega
theorem pick_odd {O:List Own} {n:Nat} (hn:n=O.length):∀ i,i<=n->pickTo (O.map Own.b) (oddF n) i=(dueO O i).map Own.b
 | 0,_=>rfl
 | i+1,h=>by
  unfold pickTo dueO
  rw [pick_odd hn i (by omega),List.map_append,oddF_get (by omega)]
  congr 1
  obtain ⟨o,ho⟩:∃ o,O[i]? = some o:=⟨_,List.getElem?_eq_getElem (by omega)⟩
  have hsy:sy (O.map Own.b) i=o.b:=sy_at (by rw [List.getElem?_map,ho]; rfl)
  by_cases h1:((i % 2:Nat):Int)=1
  ·rw [if_pos (by simpa using h1),if_pos h1,ho,hsy]
   rfl
  ·rw [if_neg (by simpa using h1),if_neg h1]
   rfl
theorem pick_all {l:List Bmp}:∀ i,i<=l.length->pickTo l (List.replicate l.length true) i=l.take i
 | 0,_=>by simp [pickTo]
 | i+1,h=>by
  unfold pickTo
  have hg:(List.replicate l.length true).getD i false=true:=by
   rw [List.getD_eq_getElem?_getD,List.getElem?_replicate_of_lt (by omega)]
   rfl
  rw [pick_all i (by omega),hg,if_pos rfl,take_snocG (sy_get (by omega))]
theorem viewO {h0 h:Heap} {F:List Nat} {L E:List Ent} {q:Option Addr} {n c:Nat} {O:List Own} (hE:Slot T_api_Bitmap 3 E q n c (csO O)) (H:Hp h0 F h L) (hs:∀ e∈E,e∈L) (hr:∀ o∈O,o.Ok/\∀ e∈o.D,e∈L):BmsV h q (O.map Own.b):=fun i b hi=>by
 rw [List.getElem?_map] at hi
 cases ho:O[i]? with
 | none=>rw [ho] at hi; cases hi
 | some o =>
  rw [ho] at hi
  injection hi with hi
  subst hi
  obtain ⟨hok,hD⟩:=hr o (List.mem_of_getElem? ho)
  have hrd:=Slot.rdO' hE H hs
  have cell:∀ j v,j<3->o.cs[j]? = some v->∃ a,q=some a/\hcell h ((a.add (i*3)).add j)=some v:=fun j v hj hv=>by
   obtain ⟨a,h1,h2⟩:=rdO_cell hrd (i:=i*3+j) ((csO_get O i j o ho hj).trans hv)
   exact ⟨a,h1,by rw [add_add']; exact h2⟩
  obtain ⟨a,ha,k0⟩:=cell 0 _ (by decide) rfl
  obtain ⟨a1,ha1,k1⟩:=cell 1 _ (by decide) rfl
  obtain ⟨a2,ha2,k2⟩:=cell 2 _ (by decide) rfl
  obtain rfl:a=a1:=Option.some.inj (ha.symm.trans ha1)
  obtain rfl:a=a2:=Option.some.inj (ha.symm.trans ha2)
  exact ⟨a,o.q,o.c,ha,⟨k0,k1,k2,Slot.rdO' hok.s H hD,hok.w,hok.l⟩⟩
section
variable {hB:Heap} {K:VK} {Kp:PK}
theorem noneV {h:Heap}:BmsV h none ([]:List Bmp):=fun i b hi=>by simp at hi
set_option maxHeartbeats 8000000 in
theorem dChain_law {t:Int} {new imp:List Bmp} {ex:List Bool} {q1 q2 q3:Option Addr} {c1 c2 c3:Nat} (v1:BmsV hB q1 new) (v2:FlsV hB q2 ex) (v3:BmsV hB q3 imp) (hl1:new.length<=4000000000000) (hl3:imp.length<=4000000000000) (hk:∀ h',hext hB h'->K (.bool true) h') :
  CP F_burinlaw13_DictChain #[.agg #[.int .i64 t, .slice q1 new.length c1, .slice q2 ex.length c2, .slice q3 imp.length c3]] hB K Kp:=by
 refine call_burinlaw13_DictChain ?_
 unfold burinlaw13_DictChain
 have H:=Hp.nil hB []
 refine newC_hp H fun r5 h H=>?_
 have H:Hp hB [] h [⟨r5,true,T_burinlaw13_Ask,[.int .i64 t, .slice q1 new.length c1, .slice q2 ex.length c2, .slice q3 imp.length c3]⟩]:=H
 refine ldS_of (hpB H 0 rfl rfl) ?_
 refine light13_ok (v1.ext H.hext) hl1 fun bb h1 hbb e1=>?_
 have H:=H.ext e1
 refine ⟨_,rfl,?_⟩
 refine bcase_not (fun _=>wakes13_ok fun h' e=>⟨_,rfl,hk _ (H.hext.trans e)⟩) fun h5=>?_
 obtain ⟨n1,n2⟩:=hbb h5
 refine ldS_of (hpA H 0 rfl rfl) ?_
 refine light13_ok (v3.ext H.hext) hl3 fun bb h1 hbb e1=>?_
 have H:=H.ext e1
 refine ⟨_,rfl,?_⟩
 refine bcase_not (fun _=>wakes13_ok fun h' e=>⟨_,rfl,hk _ (H.hext.trans e)⟩) fun h5=>?_
 obtain ⟨m1,m2⟩:=hbb h5
 refine ldI_of (hpB H 0 rfl rfl) (ldS_of (hpB H 0 rfl rfl) (ldS_of (hpB H 0 rfl rfl) (ldS_of (hpA H 0 rfl rfl) ?_)))
 refine dExp_ok (v1.ext H.hext) (v3.ext H.hext) (v2.ext H.hext) (by omega) (by omega) fun R q9 c9 h' hL9 H'=>?_
 have H:=H.join H' hL9.w
 clear H'
 refine ⟨_,_,_,_,rfl,?_⟩
 refine bcase_ne (fun hc=>?_) fun hc=>?_
 ·have h0:expD t new ex imp=[]:=by unfold expD; rw [if_neg hc]
  rw [h0]
  exact bcase_eq (fun _=>wakes13_ok fun h' e=>⟨_,rfl,hk _ (H.hext.trans e)⟩) fun hh=>absurd rfl hh
 have hc0:=chkD_zero hc
 obtain ⟨T,rfl⟩:∃ T:Nat,t=(T:Int):=⟨t.toNat,by have:=hc0.1.2.2.1; omega⟩
 have hT:T<=3:=by have:=hc0.1.2.2.1; omega
 have hLm:MayL (expD (T:Nat) new ex imp):=fun b hb=>by
  rcases expD_mem b hb with hb | hb
  ·exact hc0.1.1 b hb
  ·exact hc0.1.2.1 b hb
 have hLl:(expD (T:Nat) new ex imp).length<=400:=Nat.le_trans expD_len (by omega)
 generalize expD (T:Nat) new ex imp=L at *
 obtain ⟨O,E,hO,hOl,hE,rfl⟩:=hL9
 have hOn:O.length=L.length:=by rw [<- hOl,List.length_map]
 refine ldI_of (hpB H 0 rfl rfl) ?_
 refine bindI_of (((3-T:Nat):Int)) (by exact i64_at _ _ (by omega) (by omega) (by omega)) ?_
 refine newC_hp H fun r34 h H=>?_
 have H:=H.rot
 refine stA H 0 rfl rfl rfl fun h H=>?_
 refine stA H 0 rfl rfl rfl fun h H=>?_
 refine stA H 0 rfl rfl rfl fun h H=>?_
 refine ldI_of (hpB H 1 rfl rfl) ?_
 refine newC_hp H fun r40 h H=>?_
 have H:=H.rot
 refine stA H 0 rfl rfl rfl fun h H=>?_
 refine stA H 0 rfl rfl rfl fun h H=>?_
 refine stA H 0 rfl rfl rfl fun h H=>?_
 obtain ⟨X,hX⟩:∃ X:List Ent,X=⟨r5,true,T_burinlaw13_Ask,[.int .i64 (T:Nat), .slice q1 new.length c1, .slice q2 ex.length c2, .slice q3 imp.length c3]⟩::(dsO O++E):=⟨_,rfl⟩
 have H:Hp hB [] h (⟨r40,true,T_api_Dict,[.int .i64 (T:Nat), .slice none 0 0, .slice none 0 0]⟩::⟨r34,true,T_api_Dict,[.int .i64 ((3-T:Nat):Int), .slice none 0 0, .slice none 0 0]⟩::(X++([]++([]++[])))):=by rw [hX]; exact H.as (by simp)
 have hXE:∀ e∈E,e∈X:=fun e he=>by rw [hX]; exact List.mem_cons_of_mem _ (List.mem_append_right _ he)
 have hXO:∀ o∈O,∀ e∈o.D,e∈X:=fun o ho e he=>by rw [hX]; exact List.mem_cons_of_mem _ (List.mem_append_left _ (dsO_mem ho e he))
 refine ⟨fun m vs h'=>∃ (i:Nat) (F1 F2 Dd:List Ent) (f1 f2 qd:Option Addr) (k1 k2 kd:Nat),i+m=L.length/\vs=[.slice qd (dueO O i).length kd, .int .i64 (i:Nat)]/\Slot T_bool 1 F1 f1 (List.replicate i true).length k1 (bls (List.replicate i true))/\Slot T_bool 1 F2 f2 (oddF i).length k2 (bls (oddF i))/\Slot T_api_Bitmap 3 Dd qd (dueO O i).length kd (csO (dueO O i)) /\
   Hp hB [] h' (⟨r40,true,T_api_Dict,[.int .i64 (T:Nat), .slice none 0 0, .slice f2 (oddF i).length k2]⟩::⟨r34,true,T_api_Dict,[.int .i64 ((3-T:Nat):Int), .slice none 0 0, .slice f1 (List.replicate i true).length k1]⟩::(X++(F1++(F2++Dd)))),
  ⟨L.length,0,[],[],[],none,none,none,0,0,0,by omega,rfl,Slot.nil _ _,Slot.nil _ _,Slot.nil _ _,H⟩,?_⟩
 clear H
 rintro m h u xq xn xc xi ⟨i,F1,F2,Dd,f1,f2,qd,k1,k2,kd,him,hxx,s1,s2,s3,H⟩
 injection hxx with hx1 hxx
 injection hxx with hx2 hxx
 injection hx1 with hx1 hx3 hx4
 injection hx2 with _ hx2
 subst xq xn xc xi
 have hol:=oddF_len i
 have hrl:(List.replicate i true).length=i:=List.length_replicate
 have hdl:=dueO_len (O:=O) i
 refine bcase_dec (fun h3=>?_) fun h3=>?_
 ·have h3:i<L.length:=by omega
  obtain ⟨o,ho⟩:∃ o,O[i]? = some o:=⟨_,List.getElem?_eq_getElem (by omega)⟩
  refine ldS_of (hpA H 1 rfl rfl) ?_
  refine newC_hp H fun r53 h H=>?_
  have H:Hp hB [] h ((⟨r40,true,T_api_Dict,[.int .i64 (T:Nat), .slice none 0 0, .slice f2 (oddF i).length k2]⟩::⟨r34,true,T_api_Dict,[.int .i64 ((3-T:Nat):Int), .slice none 0 0, .slice f1 (List.replicate i true).length k1]⟩::X)++(F1++((F2++Dd)++[⟨r53,true,T_bool,[.bool true]⟩]))):=H.as (by simp only [List.append_assoc,List.cons_append])
  refine Slot.app (m:=1) (new:=[.bool true]) s1 H rfl (Hp.rdO_mem (rest:=[]) (cs:=[.bool true]) H (by rw [List.append_nil]; exact List.mem_append_right _ (List.mem_append_right _ (List.mem_append_right _ (List.mem_singleton.2 rfl)))) rfl) rfl (fun w hw=>by rw [List.mem_singleton.1 hw]; rfl) (by decide) (by omega) fun F1' f1' k1' h s1' H=>?_
  have e1:List.replicate (i+1) true=List.replicate i true++[true]:=List.replicate_succ'
  have s1':Slot T_bool 1 F1' f1' (List.replicate (i+1) true).length k1' (bls (List.replicate (i+1) true)):=by rw [e1,bls_app,List.length_append]; exact s1'
  have hl1':(List.replicate i true).length+1=(List.replicate (i+1) true).length:=by rw [e1,List.length_append]; rfl
  rw [hl1']
  refine stA H 1 rfl rfl rfl fun h H=>?_
  have H:Hp hB [] h ((⟨r40,true,T_api_Dict,[.int .i64 (T:Nat), .slice none 0 0, .slice f2 (oddF i).length k2]⟩::⟨r34,true,T_api_Dict,[.int .i64 ((3-T:Nat):Int), .slice none 0 0, .slice f1' (List.replicate (i+1) true).length k1']⟩::(X++(F1'++(F2++Dd))))++[⟨r53,true,T_bool,[.bool true]⟩]):=by
   have H:Hp hB [] h ((⟨r40,true,T_api_Dict,[.int .i64 (T:Nat), .slice none 0 0, .slice f2 (oddF i).length k2]⟩::⟨r34,true,T_api_Dict,[.int .i64 ((3-T:Nat):Int), .slice none 0 0, .slice f1' (List.replicate (i+1) true).length k1']⟩::X)++(F1'++((F2++Dd)++[⟨r53,true,T_bool,[.bool true]⟩]))):=H
   exact H.as (by simp only [List.append_assoc,List.cons_append])
  have H:=Hp.pre H
  refine ldS_of (hpA H 0 rfl rfl) ?_
  refine bindI_of (((i % 2:Nat):Int)) (by exact tmod_nat i 2) ?_
  refine newC_hp H fun r60 h H=>?_
  have H:Hp hB [] h ((⟨r40,true,T_api_Dict,[.int .i64 (T:Nat), .slice none 0 0, .slice f2 (oddF i).length k2]⟩::⟨r34,true,T_api_Dict,[.int .i64 ((3-T:Nat):Int), .slice none 0 0, .slice f1' (List.replicate (i+1) true).length k1']⟩::(X++F1'))++(F2++(Dd++[⟨r60,true,T_bool,[.bool (((i % 2:Nat):Int) == (1:Int))]⟩]))):=H.as (by simp only [List.append_assoc,List.cons_append])
  refine Slot.app (m:=1) (new:=[.bool (((i % 2:Nat):Int) == (1:Int))]) s2 H rfl (Hp.rdO_mem (rest:=[]) (cs:=[.bool (((i % 2:Nat):Int) == (1:Int))]) H (by rw [List.append_nil]; exact List.mem_append_right _ (List.mem_append_right _ (List.mem_append_right _ (List.mem_singleton.2 rfl)))) rfl) rfl (fun w hw=>by rw [List.mem_singleton.1 hw]; rfl) (by decide) (by omega) fun F2' f2' k2' h s2' H=>?_
  have e2:oddF (i+1)=oddF i++[(((i % 2:Nat):Int) == (1:Int))]:=rfl
  have s2':Slot T_bool 1 F2' f2' (oddF (i+1)).length k2' (bls (oddF (i+1))):=by rw [e2,bls_app,List.length_append]; exact s2'
  have hl2':(oddF i).length+1=(oddF (i+1)).length:=by rw [e2,List.length_append]; rfl
  rw [hl2']
  refine stA H 0 rfl rfl rfl fun h H=>?_
  have H:Hp hB [] h ((⟨r40,true,T_api_Dict,[.int .i64 (T:Nat), .slice none 0 0, .slice f2' (oddF (i+1)).length k2']⟩::⟨r34,true,T_api_Dict,[.int .i64 ((3-T:Nat):Int), .slice none 0 0, .slice f1' (List.replicate (i+1) true).length k1']⟩::(X++(F1'++(F2'++Dd))))++[⟨r60,true,T_bool,[.bool (((i % 2:Nat):Int) == (1:Int))]⟩]):=by
   have H:Hp hB [] h ((⟨r40,true,T_api_Dict,[.int .i64 (T:Nat), .slice none 0 0, .slice f2' (oddF (i+1)).length k2']⟩::⟨r34,true,T_api_Dict,[.int .i64 ((3-T:Nat):Int), .slice none 0 0, .slice f1' (List.replicate (i+1) true).length k1']⟩::(X++F1'))++(F2'++(Dd++[⟨r60,true,T_bool,[.bool (((i % 2:Nat):Int) == (1:Int))]⟩]))):=H
   exact H.as (by simp only [List.append_assoc,List.cons_append])
  have H:=Hp.pre H
  refine bindI_of (((i % 2:Nat):Int)) (by exact tmod_nat i 2) ?_
  have e3:dueO O (i+1)=dueO O i++(if ((i % 2:Nat):Int)=1 then (O[i]?).toList else []):=rfl
  refine bcase_eq (fun h4=>?_) fun h4=>?_
  ·rw [if_pos h4,ho] at e3
   have e3:dueO O (i+1)=dueO O i++[o]:=e3
   have hrd:=Slot.rdO' hE H fun e he=>List.mem_cons_of_mem _ (List.mem_cons_of_mem _ (List.mem_append_left _ (hXE e he)))
   have cell:∀ j v,j<3->o.cs[j]? = some v->∃ a,q9=some a/\hcell h ((a.add (i*3)).add j)=some v:=fun j v hj hv=>by
    obtain ⟨a,h1,h2⟩:=rdO_cell hrd (i:=i*3+j) ((csO_get O i j o ho hj).trans hv)
    exact ⟨a,h1,by rw [add_add']; exact h2⟩
   obtain ⟨a,ha,k0⟩:=cell 0 _ (by decide) rfl
   obtain ⟨a1,ha1,k1⟩:=cell 1 _ (by decide) rfl
   obtain ⟨a2,ha2,k2⟩:=cell 2 _ (by decide) rfl
   obtain rfl:a=a1:=Option.some.inj (ha.symm.trans ha1)
   obtain rfl:a=a2:=Option.some.inj (ha.symm.trans ha2)
   refine needs_of (by omega) (ptr_at ha ?_)
   rw [Int.toNat_natCast]
   refine ldI_of k0 (ldI_of k1 (ldS_of k2 ?_))
   refine newC_hp H fun r70 h H=>?_
   have H:Hp hB [] h ((⟨r40,true,T_api_Dict,[.int .i64 (T:Nat), .slice none 0 0, .slice f2' (oddF (i+1)).length k2']⟩::⟨r34,true,T_api_Dict,[.int .i64 ((3-T:Nat):Int), .slice none 0 0, .slice f1' (List.replicate (i+1) true).length k1']⟩::(X++(F1'++F2')))++(Dd++[⟨r70,true,T_api_Bitmap,o.cs⟩])):=H.as (by simp only [List.append_assoc,List.cons_append]; rfl)
   refine Slot.app (m:=1) (new:=o.cs) s3 H rfl (Hp.rdO_mem (rest:=[]) (cs:=o.cs) H (by rw [List.append_nil]; exact List.mem_append_right _ (List.mem_append_right _ (List.mem_singleton.2 rfl))) rfl) rfl (fun v hv=>by
    unfold Own.cs at hv
    simp only [List.mem_cons,List.not_mem_nil,or_false] at hv
    rcases hv with rfl | rfl | rfl <;> rfl) (by decide) (by omega) fun Dd' qd' kd' h' s3' H=>?_
   have H:=H.asc'
   have H:=Hp.pre H
   have s3':Slot T_api_Bitmap 3 Dd' qd' (dueO O (i+1)).length kd' (csO (dueO O (i+1))):=by rw [e3,csO_snoc,List.length_append]; exact s3'
   refine bindI_of (((i+1:Nat):Int)) (by exact i64_at _ _ (by omega) (by omega) (by omega)) ?_
   exact ⟨m-1,by omega,i+1,F1',F2',Dd',f1',f2',qd',k1',k2',kd',by omega,by rw [e3,List.length_append]; rfl,s1',s2',s3',H.as (by simp only [List.append_assoc,List.cons_append])⟩
  ·rw [if_neg h4,List.append_nil] at e3
   refine bindI_of (((i+1:Nat):Int)) (by exact i64_at _ _ (by omega) (by omega) (by omega)) ?_
   exact ⟨m-1,by omega,i+1,F1',F2',Dd,f1',f2',qd,k1',k2',kd,by omega,by rw [e3],s1',s2',by rw [e3]; exact s3,H⟩
 obtain rfl:i=L.length:=by omega
 have hmemX:∀ {Y:List Ent} {a b:Ent},∀ e∈X,e∈a::b::(X++Y):=fun e he=>List.mem_cons_of_mem _ (List.mem_cons_of_mem _ (List.mem_append_left _ he))
 obtain ⟨Z,hZ⟩:∃ Z:List Ent,Z=⟨r40,true,T_api_Dict,[.int .i64 (T:Nat), .slice none 0 0, .slice f2 (oddF L.length).length k2]⟩::⟨r34,true,T_api_Dict,[.int .i64 ((3-T:Nat):Int), .slice none 0 0, .slice f1 (List.replicate L.length true).length k1]⟩::(X++(F1++(F2++Dd))):=⟨_,rfl⟩
 have H:Hp hB [] h (Z++[]):=by rw [List.append_nil,hZ]; exact H
 have ld34:∀ {h:Heap} {J:List Ent} {KK:Int->Option Addr->Nat->Nat->Option Addr->Nat->Nat->Prop},Hp hB [] h (Z++J)->KK ((3-T:Nat):Int) none 0 0 f1 (List.replicate L.length true).length k1->ldI h ((⟨r34,0,none⟩:Addr).add 0) .i64 fun x=>ldS h ((⟨r34,0,none⟩:Addr).add 1) fun y yn yc=>ldS h ((⟨r34,0,none⟩:Addr).add 2) fun z zn zc=>KK x y yn yc z zn zc:=fun {h J KK} H hKK=>by
  rw [hZ] at H
  exact ldI_of (hpA H 1 rfl rfl) (ldS_of (hpA H 1 rfl rfl) (ldS_of (hpA H 1 rfl rfl) hKK))
 have ld40:∀ {h:Heap} {J:List Ent} {KK:Int->Option Addr->Nat->Nat->Option Addr->Nat->Nat->Prop},Hp hB [] h (Z++J)->KK (T:Nat) none 0 0 f2 (oddF L.length).length k2->ldI h ((⟨r40,0,none⟩:Addr).add 0) .i64 fun x=>ldS h ((⟨r40,0,none⟩:Addr).add 1) fun y yn yc=>ldS h ((⟨r40,0,none⟩:Addr).add 2) fun z zn zc=>KK x y yn yc z zn zc:=fun {h J KK} H hKK=>by
  rw [hZ] at H
  exact ldI_of (hpA H 0 rfl rfl) (ldS_of (hpA H 0 rfl rfl) (ldS_of (hpA H 0 rfl rfl) hKK))
 have vw:∀ {h:Heap} {J:List Ent},Hp hB [] h (Z++J)->BmsV h q9 L/\FlsV h f1 (List.replicate L.length true)/\FlsV h f2 (oddF L.length)/\BmsV h qd ((dueO O L.length).map Own.b):=fun {h J} H=>by
  have hm:∀ e∈X,e∈Z++J:=fun e he=>List.mem_append_left _ (by rw [hZ]; exact hmemX e he)
  refine ⟨?_,Slot.rdO' s1 H fun e he=>?_,Slot.rdO' s2 H fun e he=>?_,viewO s3 H (fun e he=>?_) fun o ho=>⟨hO o (dueO_mem o ho),fun e he=>hm e (hXO o (dueO_mem o ho) e he)⟩⟩
  ·rw [<- hOl]
   exact viewO hE H (fun e he=>hm e (hXE e he)) fun o ho=>⟨hO o ho,fun e he=>hm e (hXO o ho e he)⟩
  ·rw [hZ]; simp [he]
  ·rw [hZ]; simp [he]
  ·rw [hZ]; simp [he]
 have chkA:chkD ((3-T:Nat):Int) [] (List.replicate L.length true).length L=0:=chkD_ok ⟨hLm,(fun b hb=>by cases hb),by omega,by rw [List.length_replicate]; rfl,fun i a b hi=>by have hi:i+1<0:=hi; omega⟩ (by
  have:([]:List Bmp).length=0:=rfl
  have:areaL []=0:=rfl
  omega)
 have chkS:chkD ((T:Nat):Int) [] (oddF L.length).length L=0:=chkD_ok ⟨hLm,(fun b hb=>by cases hb),by omega,by rw [oddF_len]; rfl,fun i a b hi=>by have hi:i+1<0:=hi; omega⟩ (by
  have:([]:List Bmp).length=0:=rfl
  have:areaL []=0:=rfl
  omega)
 have expA:expD ((3-T:Nat):Int) [] (List.replicate L.length true) L=L:=by
  unfold expD
  rw [if_pos chkA,List.append_nil]
  unfold pickD
  rw [pick_all _ (Nat.le_refl _),List.take_length]
 have expS:expD ((T:Nat):Int) [] (oddF L.length) L=(dueO O L.length).map Own.b:=by
  unfold expD
  rw [if_pos chkS,List.append_nil]
  unfold pickD
  have:=pick_odd (O:=O) (n:=L.length) hOn.symm L.length (Nat.le_refl _)
  rw [hOl] at this
  exact this
 refine ld34 H ?_
 obtain ⟨w1,w2,w3,w4⟩:=vw H
 refine dExp_ok (new:=[]) (ex:=List.replicate L.length true) (imp:=L) noneV w1 w2 (Nat.zero_le _) (by omega) fun R2 q8 c8 h' hL2 H'=>?_
 rw [expA] at hL2
 rw [chkA,expA]
 have H:=(H.join H' hL2.w).as (List.append_assoc _ _ _)
 clear H'
 refine ⟨_,_,_,_,rfl,?_⟩
 refine ld40 H ?_
 obtain ⟨w1,w2,w3,w4⟩:=vw H
 refine dExp_ok (new:=[]) (ex:=oddF L.length) (imp:=L) noneV (hL2.view H fun e he=>by simp [he]) w3 (Nat.zero_le _) (by omega) fun R3 q7 c7 h' hL3 H'=>?_
 rw [expS] at hL3
 rw [chkS,expS]
 have H:=(H.join H' hL3.w).as (List.append_assoc _ _ _)
 clear H'
 refine ⟨_,_,_,_,rfl,?_⟩
 refine ld40 H ?_
 obtain ⟨w1,w2,w3,w4⟩:=vw H
 refine dEnc_ok (new:=[]) (ex:=oddF L.length) (imp:=L) noneV (hL2.view H fun e he=>by simp [he]) w3 (Nat.zero_le _) (by omega) (Nat.le_refl _) fun D qo co h' hs H'=>?_
 rw [encD_ok chkS] at hs
 rw [chkS,encD_ok chkS]
 have H:=(H.join H' hs.w).as (List.append_assoc _ _ _)
 clear H'
 refine ⟨_,_,_,_,rfl,?_⟩
 have hw0:∀ b∈([]:List Bmp),W64 b.ws:=fun b hb=>by cases hb
 refine dDec_ok (imp:=L) (dicB_lt chkS) (Slot.rdO' hs H fun e he=>by simp [he]) (Slot.cap hs) (hL2.view H fun e he=>by simp [he]) (by omega) (fun t2 new2 ex2 RN qn cn RE qe ce h2 hd hM hL hsE H'=>?_) fun er h2 hd _ _=>?_
 rotate_left
 ·rw [dec_enc chkS hw0] at hd; cases hd
 rw [dec_enc chkS hw0] at hd
 injection hd with hd
 injection hd with e1 hd
 injection hd with e2 e3
 subst e1 e2 e3
 have H:=(H.join H' (by rw [List.all_append,hL.w,hsE.w]; rfl)).as (List.append_assoc _ _ _)
 clear H'
 refine ⟨_,_,_,_,_,_,_,_,rfl,?_⟩
 refine newC_hp H fun r103 h H=>?_
 have H:=H.rot
 refine stA H 0 rfl rfl rfl fun h H=>?_
 refine stA H 0 rfl rfl rfl fun h H=>?_
 refine stA H 0 rfl rfl rfl fun h H=>?_
 have H:Hp hB [] h ([⟨r103,true,T_api_Dict,[.int .i64 (T:Nat), .slice qn ([]:List Bmp).length cn, .slice qe (oddF L.length).length ce]⟩]++(Z++([]++R2++R3++D++(RN++RE)))):=H.as (by simp only [List.append_assoc,List.cons_append,List.nil_append,List.set])
 refine bcase_eq (fun _=>?_) fun hh=>absurd rfl hh
 refine bcase_eq (fun _=>?_) fun hh=>absurd rfl hh
 refine bcase_eq (fun _=>?_) fun hh=>absurd rfl hh
 refine bcase_eq (fun _=>?_) fun hh=>absurd rfl hh
 have HZ:=Hp.suf H
 obtain ⟨w1,w2,w3,w4⟩:=vw HZ
 refine eqBs_ok (l:=L) w1 (hL2.view HZ fun e he=>by simp [he]) (by omega) fun h2 e=>?_
 have H:=H.ext e
 refine ⟨_,rfl,?_⟩
 refine bcase_of (fun _=>?_) fun hh=>by cases hh
 have HZ:=Hp.suf H
 obtain ⟨w1,w2,w3,w4⟩:=vw HZ
 have hdue:((dueO O L.length).map Own.b).length=(dueO O L.length).length:=List.length_map _
 rw [<- hdue]
 refine eqBs_ok (l:=(dueO O L.length).map Own.b) (hL3.view HZ fun e he=>by simp [he]) w4 (by rw [hdue]; omega) fun h3 e=>?_
 have H:=H.ext e
 refine ⟨_,rfl,?_⟩
 refine bcase_of (fun _=>?_) fun hh=>by cases hh
 have HZ:=Hp.suf H
 refine ldI_of (hpA H 0 rfl rfl) (ldS_of (hpA H 0 rfl rfl) (ldS_of (hpA H 0 rfl rfl) ?_))
 refine ld40 HZ ?_
 obtain ⟨w1,w2,w3,w4⟩:=vw HZ
 refine eqDict_ok (new:=[]) (ex:=oddF L.length) (hL.view HZ fun e he=>by simp [he]) noneV (Slot.rdO' hsE HZ fun e he=>by simp [he]) w3 (Nat.zero_le _) (by omega) fun h4 e=>?_
 have H:=H.ext e
 refine ⟨_,rfl,?_⟩
 refine bcase_of (fun _=>?_) fun hh=>by cases hh
 exact wakes13_ok fun h' e=>⟨_,rfl,hk _ (H.hext.trans e)⟩
end
theorem dChain_arg {h:Heap} {cs:Array Value} (hsz:cs.size=TP.cellsOf T_burinlaw13_Ask) (hw:WDx TP h T_burinlaw13_Ask cs.toList) {K:VK} {Kp:PK} (hk:∀ h',hext h h'->K (.bool true) h') :
  CP F_burinlaw13_DictChain #[.agg cs] h K Kp:=by
 obtain ⟨t,q1,c1,q2,c2,q3,c3,new,ex,imp,e,g1,g2,g5,g3,g4,g6,i0,g7⟩:=wd_ask13 hw
 have hcs:cs=#[.int .i64 t, .slice q1 new.length c1, .slice q2 ex.length c2, .slice q3 imp.length c3]:=by rw [<- e]
 subst hcs
 exact dChain_law g1 g2 g5 g3 g6 hk
end Go.Bm
namespace Go.Proofs.YtfaclehehhgpcaaGreat
open Go.ChangeShapes Go.WideShapes Go.ChangeAt Go.RowKit
theorem own:ownKnob Tryz.prog.godebug=none:=by kernel_rfl
theorem laidOut:laidOutB Tryz.prog=true:=by kernel_rfl
theorem below_of {W W':World} (hk:Go.Den.keeps W W') (h:Go.Den.hext W.heap W'.heap):Below W.heap.size W W' :=
 ⟨hk.1,hk.2.1,hk.2.2,h.1,fun k hlt=>h.2 k hlt⟩
theorem walk_of {f:FuncId} {args:Array Value} {W:World}
  (h:Calls Tryz.prog f args W fun e w'=>Go.Den.keeps W w'/\match e with
   | .returned v=>v = .bool true/\Go.Den.hext W.heap w'.heap
   | .panicked c=>False
   | .outgrown=>False):Calls Tryz.prog f args W fun e W'=>e = .returned (.bool true)/\Below W.heap.size W W':=by
 refine h.mono fun e W' he=>?_
 obtain ⟨hk,he⟩:=he
 cases e with
 | returned v=>exact ⟨by rw [he.1],below_of hk he.2⟩
 | panicked c=>exact he.elim
 | outgrown=>exact he.elim
end Go.Proofs.YtfaclehehhgpcaaGreat
namespace Go.Proofs.YtfaclehehhgpcaaGreat
open Go.ChangeShapes Go.WideShapes Go.ChangeAt Go.RowKit
theorem dictChain_walk (W:World) {cs:Array Value} (hsz:cs.size=Tryz.prog.cellsOf 59) (hw:Go.Den.WDx Tryz.prog W.heap 59 cs.toList):Calls Tryz.prog 10 #[.agg cs] W fun e W'=>e = .returned (.bool true)/\Below W.heap.size W W' :=
 walk_of ((Go.Bm.dChain_arg (h:=W.heap) (K:=fun v h'=>v = .bool true/\Go.Den.hext W.heap h') (Kp:=fun _ _=>False) hsz hw fun h' e=>⟨rfl,e⟩).2 W rfl)
theorem dictChain_lifted (os:Os) (started:os.Started) (H:Type) (enc:TypeId × Value->H) :
  ReturnsInHanded {} Tryz.checked os 10 .any (Rows.dictChainSpec.pre6 enc Tryz.prog Tryz.f10 Rows.dictChainRow.domain false) (Rows.dictChainSpec.post enc Tryz.prog Tryz.f10 false true false false):=by
 refine returnsInHanded_of_change_sized (C:=Tryz.checked) own started (by kernel_rfl) Tryz.func10
  (ChangeSpec.witness6 (enc:=enc) (C:=Tryz.checked) false ⟨#[],#[.agg #[.int .i64 0, .slice none 0 0, .slice none 0 0, .slice none 0 0]],[]⟩ 8 (by kernel_rfl) (by kernel_rfl) (by kernel_rfl) (by kernel_rfl)) ?_
 intro W base args ds gs before hval0 hW hcnd hz _
 have hval:∀ (j:Nat) t v,Tryz.f10.params[j]? = some t->args[j]? = some v->Value.okWide Tryz.prog W .any base t v:=hval0
 have hz:∀ n∈DataW.weightsEach Tryz.prog (Tryz.f10.params.toList++Rows.dictChainSpec.plain.varTypes Tryz.prog) (ds++gs),n<=reachBytes:=fun n hn=>by simpa using List.all_eq_true.1 hz n hn
 have hW':=hW
 obtain ⟨p,q,hA0,hV,rfl,hfz,hnd⟩:=hW
 have hA:DataW.TrodAll enc Tryz.prog W 0 (fun _=>true) true Tryz.f10.params.toList args.toList ds p:=hA0
 rw [Tryz.params10] at hA hval hz
 obtain ⟨v0,vs0,d0,ds0,p0,q0,hargs,rfl,rfl,h0,r0⟩:=trodAll_cons hA
 obtain ⟨rfl,rfl,rfl⟩:=trodAll_nil r0
 obtain rfl:args=#[v0]:=by cases args; simp_all
 obtain ⟨rfl,rfl⟩:=trodVars_none hV
 obtain ⟨cs,rfl,hsz⟩:=okWide_struct Tryz.underlying59 (hval 0 59 v0 rfl rfl)
 have hwd:Go.Den.WDx Tryz.prog W.heap 59 cs.toList:=by
  obtain ⟨f,hf⟩:=h0
  exact ⟨f,Go.Den.wd_of hf fun n hn=>hz n (DataW.weights_mem_each (j:=0) rfl rfl n hn)⟩
 clear hA0 hval0
 simp only [List.append_nil] at hW'
 refine (dictChain_walk W hsz hwd).mono fun e W' ⟨he,hb⟩=>?_
 subst he
 refine ⟨_,rfl,[d0],[],_,[],p0,[],hW',?_,?_,?_,hb.frame _,fun h=>Bool.noConfusion h⟩
 ·exact trodAll_cons_mk (shut_bool Go.Proofs.Tryz.underlying4 _) trodAll_mk0
 ·exact ⟨p0,[],Below.trod laidOut (by kernel_rfl) (of_decide_eq_true (by kernel_rfl)) h0 hb (fun x hx=>by simpa using hW'.lt x hx),rfl,(List.append_nil p0).symm⟩
 ·rfl
theorem dictChain_over:Rows.dictChainRow.holds Tryz.pinned (OpenSpec.ofChange Rows.dictChainSpec) :=
 OpenClaim.holds_of_wide 10 Tryz.f10 rfl rfl rfl rfl rfl rfl rfl ⟨rfl,rfl,rfl,rfl,rfl⟩ rfl rfl rfl rfl rfl (by kernel_rfl) Tryz.func10 (by kernel_rfl)
  (of_decide_eq_true (by kernel_rfl)) (by unfold Func.isWrapper; first | (rw [if_pos (by decide +kernel)]; kernel_rfl) | (rw [if_neg (by decide +kernel)]; exact ⟨rfl,rfl⟩))
  (fun os started H enc _=>dictChain_lifted os started H enc)
theorem dictChain_proved:Rows.DictChainSaid:=dictChain_over
#print axioms dictChain_proved
end Go.Proofs.YtfaclehehhgpcaaGreat
