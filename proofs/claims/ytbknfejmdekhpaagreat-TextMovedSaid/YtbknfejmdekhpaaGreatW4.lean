/- W4: put together by wip/tools/bundle.py: Mbitmap Bbitmap Mburinref0 Bburinref0 Mslices Bslices BmB BmC BmD BmE RfA Au TxA. -/
import Derived.Test.YtbknfejmdekhpaaGreatW1
import Derived.Test.YtbknfejmdekhpaaGreatW2
import Derived.Test.YtbknfejmdekhpaaGreatW3
import Derived.Test.YtbknfejmdekhpaaGreatProg
set_option linter.unusedVariables false
set_option linter.unusedSimpArgs false
set_option maxRecDepth 100000
namespace Go.Den.YtbknfejmdekhpaaGreat
open Go Go.Den
def bitmap_New (C:CallP) (w:Int) (h':Int) (h:Heap) (K:VK) (Kp:PK):Prop :=
C F_bitmap_sized #[.int .i64 w, .int .i64 h'] h (fun v_1 h_2 =>
∃ (r_3:Bool),v_1 = .bool r_3/\(
bcase (!r_3) (
K (.tuple #[.pointer none, .int .i64 20]) h_2) <|
bindI (IntKind.i64.wrap (w+(63:Int))) fun z_4 =>
bindI (IntKind.i64.wrap (z_4.tdiv (64:Int))) fun z_5 =>
bindI (IntKind.i64.wrap (h'*z_5)) fun z_6 =>
needs (0<=z_6/\z_6<=z_6/\z_6<=9223372036854775807/\((8:Nat):Int)*z_6<=281474976710656) <|
newC h_2 (repZ [.int .u64 0] z_6.toNat) T_uint64 fun r_7 h_8 =>
newC h_8 [.int .i64 w, .int .i64 h', .int .i64 z_5, .slice (some ⟨r_7,0,none⟩) z_6.toNat z_6.toNat] T_bitmap_Map fun r_9 h_10 =>
K (.tuple #[.pointer (some ⟨r_9,0,none⟩), .int .i64 0]) h_10)) (Kp)
def bitmap_Map_Fill (C:CallP) (m:Option Addr) (x:Int) (y:Int) (w:Int) (h':Int) (bit:Int) (h:Heap) (K:VK) (Kp:PK):Prop :=
∃ K_1:List Value->Heap->Prop,(
bcase (decide (w<(0:Int))) (
K (.int .i64 24) h) <|
bcase (decide (h'<(0:Int))) (
K (.int .i64 24) h) <|
bcase (bit != (0:Int)) (
bcase (bit != (1:Int)) (
K (.int .i64 23) h) <|
K_1 [] h) <|
K_1 [] h)/\∀ (h_2:Heap) (u_3:Nat->Value) ,K_1 [] h_2->(
ptr m fun a_4 =>
ldI h_2 (a_4.add 0) .i64 fun x_5 =>
C F_bitmap_cut #[.int .i64 x, .int .i64 w, .int .i64 x_5] h_2 (fun v_6 h_7 =>
∃ (r_8:Int),∃ (r_9:Int),v_6 = .tuple #[.int .i64 r_8, .int .i64 r_9]/\(
bindI (IntKind.i64.wrap (x+r_8)) fun z_10 =>
ptr m fun a_11 =>
ldI h_7 (a_11.add 1) .i64 fun x_12 =>
C F_bitmap_cut #[.int .i64 y, .int .i64 h', .int .i64 x_12] h_7 (fun v_13 h_14 =>
∃ (r_15:Int),∃ (r_16:Int),v_13 = .tuple #[.int .i64 r_15, .int .i64 r_16]/\(
bindI (IntKind.i64.wrap (y+r_15)) fun z_17 =>
bcase (r_9 == (0:Int)) (
K (.int .i64 0) h_14) <|
bcase (r_16 == (0:Int)) (
K (.int .i64 0) h_14) <|
∃ J_18:Nat->List Value->Heap->Prop,(∃ n_20,J_18 n_20 [.int .i64 z_17] h_14)/\∀ (n_20:Nat) (h_21:Heap) (u_22:Nat->Value) (j_23:Int),J_18 n_20 [.int .i64 j_23] h_21->(
bindI (IntKind.i64.wrap (z_17+r_16)) fun z_24 =>
bcase (decide (j_23<z_24)) (
bindI (IntKind.i64.wrap (z_10.tdiv (64:Int))) fun z_25 =>
∃ J_26:Nat->List Value->Heap->Prop,(∃ n_28,J_26 n_28 [.int .i64 z_25] h_21)/\∀ (n_28:Nat) (h_29:Heap) (u_30:Nat->Value) (i_31:Int),J_26 n_28 [.int .i64 i_31] h_29->(
bindI (IntKind.i64.wrap (z_10+r_9)) fun z_32 =>
bindI (IntKind.i64.wrap (z_32-(1:Int))) fun z_33 =>
bindI (IntKind.i64.wrap (z_33.tdiv (64:Int))) fun z_34 =>
bcase (decide (i_31<=z_34)) (
ptr m fun a_35 =>
ptr m fun a_36 =>
ldS h_29 (a_35.add 3) fun x_37 x_37n x_37c =>
ldI h_29 (a_36.add 2) .i64 fun x_38 =>
bindI (IntKind.i64.wrap (j_23*x_38)) fun z_39 =>
bindI (IntKind.i64.wrap (z_39+i_31)) fun z_40 =>
needs (0<=z_40/\z_40<(x_37n:Int)) <|
ptr x_37 fun a_41 =>
ldI h_29 (a_41.add (z_40.toNat*1)) .u64 fun x_42 =>
C F_bitmap_mask #[.int .i64 i_31, .int .i64 z_10, .int .i64 r_9] h_29 (fun v_43 h_44 =>
∃ (r_45:Int),v_43 = .int .u64 r_45/\(
hext h_29 h_44/\(
bindI (bitI .andNot .u64 x_42 r_45) fun z_46 =>
needs (0<=z_40/\z_40<(x_37n:Int)) <|
ptr x_37 fun a_47 =>
stV h_44 (a_47.add (z_40.toNat*1)) (.int .u64 z_46) fun h_48 =>
bcase (bit == (1:Int)) (
ptr m fun a_49 =>
ptr m fun a_50 =>
ldS h_48 (a_49.add 3) fun x_51 x_51n x_51c =>
ldI h_48 (a_50.add 2) .i64 fun x_52 =>
bindI (IntKind.i64.wrap (j_23*x_52)) fun z_53 =>
bindI (IntKind.i64.wrap (z_53+i_31)) fun z_54 =>
needs (0<=z_54/\z_54<(x_51n:Int)) <|
ptr x_51 fun a_55 =>
ldI h_48 (a_55.add (z_54.toNat*1)) .u64 fun x_56 =>
C F_bitmap_mask #[.int .i64 i_31, .int .i64 z_10, .int .i64 r_9] h_48 (fun v_57 h_58 =>
∃ (r_59:Int),v_57 = .int .u64 r_59/\(
hext h_48 h_58/\(
bindI (bitI .or .u64 x_56 r_59) fun z_60 =>
needs (0<=z_54/\z_54<(x_51n:Int)) <|
ptr x_51 fun a_61 =>
stV h_58 (a_61.add (z_54.toNat*1)) (.int .u64 z_60) fun h_62 =>
bindI (IntKind.i64.wrap (i_31+(1:Int))) fun z_63 =>
∃ m_27,m_27<n_28/\J_26 m_27 [.int .i64 z_63] h_62))) (Kp)) <|
bindI (IntKind.i64.wrap (i_31+(1:Int))) fun z_64 =>
∃ m_27,m_27<n_28/\J_26 m_27 [.int .i64 z_64] h_48))) (Kp)) <|
bindI (IntKind.i64.wrap (j_23+(1:Int))) fun z_65 =>
∃ m_19,m_19<n_20/\J_18 m_19 [.int .i64 z_65] h_29)) <|
K (.int .i64 0) h_21))) (Kp))) (Kp))
def bitmap_From (C:CallP) (b_1:Int) (b_2:Int) (b_3:Option Addr) (b_3n:Nat) (b_3c:Nat) (h:Heap) (K:VK) (Kp:PK):Prop :=
newC h [.int .i64 b_1, .int .i64 b_2, .slice b_3 b_3n b_3c] T_api_Bitmap fun r_4 h_5 =>
ldI h_5 ((⟨r_4,0,none⟩:Addr).add 0) .i64 fun x_6 =>
ldI h_5 ((⟨r_4,0,none⟩:Addr).add 1) .i64 fun x_7 =>
ldS h_5 ((⟨r_4,0,none⟩:Addr).add 2) fun x_8 x_8n x_8c =>
C F_bitmap_Check #[.agg #[.int .i64 x_6, .int .i64 x_7, .slice x_8 x_8n x_8c]] h_5 (fun v_9 h_10 =>
∃ (r_11:Bool),v_9 = .bool r_11/\(
bcase (!r_11) (
K (.tuple #[.pointer none, .int .i64 21]) h_10) <|
ldI h_10 ((⟨r_4,0,none⟩:Addr).add 0) .i64 fun x_12 =>
ldI h_10 ((⟨r_4,0,none⟩:Addr).add 1) .i64 fun x_13 =>
ldI h_10 ((⟨r_4,0,none⟩:Addr).add 0) .i64 fun x_14 =>
bindI (IntKind.i64.wrap (x_14+(63:Int))) fun z_15 =>
bindI (IntKind.i64.wrap (z_15.tdiv (64:Int))) fun z_16 =>
ldS h_10 ((⟨r_4,0,none⟩:Addr).add 2) fun x_17 x_17n x_17c =>
C F_slices_Clone_uint64_uint64 #[.slice x_17 x_17n x_17c] h_10 (fun v_18 h_19 =>
∃ (r_20:Option Addr) (r_20n:Nat) (r_20c:Nat),v_18 = .slice r_20 r_20n r_20c/\(
hext h_10 h_19/\(
newC h_19 [.int .i64 x_12, .int .i64 x_13, .int .i64 z_16, .slice r_20 r_20n r_20c] T_bitmap_Map fun r_21 h_22 =>
K (.tuple #[.pointer (some ⟨r_21,0,none⟩), .int .i64 0]) h_22))) (Kp))) (Kp)
def bitmap_Map_Blit (C:CallP) (m:Option Addr) (src:Option Addr) (sx:Int) (sy:Int) (w:Int) (h':Int) (dx:Int) (dy:Int) (op:Int) (h:Heap) (K:VK) (Kp:PK):Prop :=
bcase src.isNone (
K (.int .i64 26) h) <|
bcase (decide (w<(0:Int))) (
K (.int .i64 24) h) <|
bcase (decide (h'<(0:Int))) (
K (.int .i64 24) h) <|
bcase (decide (op<(0:Int))) (
K (.int .i64 25) h) <|
bcase (decide (op > (4:Int))) (
K (.int .i64 25) h) <|
ptr src fun a_1 =>
ptr m fun a_2 =>
ldI h (a_1.add 0) .i64 fun x_3 =>
ldI h (a_2.add 0) .i64 fun x_4 =>
C F_bitmap_both #[.int .i64 sx, .int .i64 x_3, .int .i64 dx, .int .i64 x_4, .int .i64 w] h (fun v_5 h_6 =>
∃ (r_7:Int),∃ (r_8:Int),∃ (r_9:Int),v_5 = .tuple #[.int .i64 r_7, .int .i64 r_8, .int .i64 r_9]/\(
ptr src fun a_10 =>
ptr m fun a_11 =>
ldI h_6 (a_10.add 1) .i64 fun x_12 =>
ldI h_6 (a_11.add 1) .i64 fun x_13 =>
C F_bitmap_both #[.int .i64 sy, .int .i64 x_12, .int .i64 dy, .int .i64 x_13, .int .i64 h'] h_6 (fun v_14 h_15 =>
∃ (r_16:Int),∃ (r_17:Int),∃ (r_18:Int),v_14 = .tuple #[.int .i64 r_16, .int .i64 r_17, .int .i64 r_18]/\(
bcase (r_9 == (0:Int)) (
K (.int .i64 0) h_15) <|
bcase (r_18 == (0:Int)) (
K (.int .i64 0) h_15) <|
C F_bitmap_operations #[] h_15 (fun v_19 h_20 =>
∃ (r_21:Option Addr) (r_21n:Nat) (r_21c:Nat),v_19 = .slice r_21 r_21n r_21c/\(
needs (0<=op/\op<(r_21n:Int)) <|
ptr r_21 fun a_22 =>
ldV h_20 (a_22.add (op.toNat*1)) fun x_23 =>
ptr src fun a_24 =>
ldI h_20 (a_24.add 2) .i64 fun x_25 =>
needs (0<=x_25/\x_25<=x_25/\x_25<=9223372036854775807/\((8:Nat):Int)*x_25<=281474976710656) <|
newC h_20 (repZ [.int .u64 0] x_25.toNat) T_uint64 fun r_26 h_27 =>
∃ J_28:Nat->List Value->Heap->Prop,(∃ n_30,J_28 n_30 [.int .i64 0] h_27)/\∀ (n_30:Nat) (h_31:Heap) (u_32:Nat->Value) (x_33:Int),J_28 n_30 [.int .i64 x_33] h_31->(
bcase (decide (x_33<r_18)) (
∃ K_34:List Value->Heap->Prop,(
bcase (decide (r_17 > r_16)) (
bindI (IntKind.i64.wrap (r_18-(1:Int))) fun z_37 =>
bindI (IntKind.i64.wrap (z_37-x_33)) fun z_38 =>
K_34 [.int .i64 z_38] h_31) <|
K_34 [.int .i64 x_33] h_31)/\∀ (h_35:Heap) (u_36:Nat->Value) (j_39:Int),K_34 [.int .i64 j_39] h_35->(
bindI (IntKind.i64.wrap (r_16+j_39)) fun z_40 =>
ptr src fun a_41 =>
ldI h_35 (a_41.add 2) .i64 fun x_42 =>
bindI (IntKind.i64.wrap (z_40*x_42)) fun z_43 =>
ptr src fun a_44 =>
ptr src fun a_45 =>
ptr src fun a_46 =>
ldS h_35 (a_44.add 3) fun x_47 x_47n x_47c =>
ldI h_35 (a_45.add 2) .i64 fun x_48 =>
bindI (IntKind.i64.wrap (z_43+x_48)) fun z_49 =>
ldI h_35 (a_46.add 2) .i64 fun x_50 =>
bindI (IntKind.i64.wrap (z_43+x_50)) fun z_51 =>
needs (0<=z_51/\z_51<=((x_47c:Nat):Int)) <|
needs (0<=z_49/\z_49<=((z_51.toNat:Nat):Int)) <|
needs (0<=z_43/\z_43<=((z_49.toNat:Nat):Int)) <|
copC h_35 1 (some ⟨r_26,0,none⟩) (x_25.toNat) (subA x_47 (z_51.toNat) (z_43.toNat) 1) ((z_49.toNat-z_43.toNat)) fun n_52 h_53 =>
bindI (IntKind.i64.wrap (r_8.tdiv (64:Int))) fun z_54 =>
∃ J_55:Nat->List Value->Heap->Prop,(∃ n_57,J_55 n_57 [.int .i64 z_54] h_53)/\∀ (n_57:Nat) (h_58:Heap) (u_59:Nat->Value) (i_60:Int),J_55 n_57 [.int .i64 i_60] h_58->(
bindI (IntKind.i64.wrap (r_8+r_9)) fun z_61 =>
bindI (IntKind.i64.wrap (z_61-(1:Int))) fun z_62 =>
bindI (IntKind.i64.wrap (z_62.tdiv (64:Int))) fun z_63 =>
bcase (decide (i_60<=z_63)) (
ptr m fun a_64 =>
bindI (IntKind.i64.wrap (r_17+j_39)) fun z_65 =>
ptr m fun a_66 =>
ldS h_58 (a_64.add 3) fun x_67 x_67n x_67c =>
ldI h_58 (a_66.add 2) .i64 fun x_68 =>
bindI (IntKind.i64.wrap (z_65*x_68)) fun z_69 =>
bindI (IntKind.i64.wrap (z_69+i_60)) fun z_70 =>
needs (0<=z_70/\z_70<(x_67n:Int)) <|
ptr x_67 fun a_71 =>
C F_bitmap_mask #[.int .i64 i_60, .int .i64 r_8, .int .i64 r_9] h_58 (fun v_72 h_73 =>
∃ (r_74:Int),v_72 = .int .u64 r_74/\(
bindI (IntKind.i64.wrap ((64:Int)*i_60)) fun z_75 =>
bindI (IntKind.i64.wrap (r_7+z_75)) fun z_76 =>
bindI (IntKind.i64.wrap (z_76-r_8)) fun z_77 =>
ldI h_73 (a_71.add (z_70.toNat*1)) .u64 fun x_78 =>
bindI (bitI .andNot .u64 x_78 r_74) fun z_79 =>
ldI h_73 (a_71.add (z_70.toNat*1)) .u64 fun x_80 =>
C F_bitmap_word #[.slice (some ⟨r_26,0,none⟩) x_25.toNat x_25.toNat, .int .i64 z_77] h_73 (fun v_81 h_82 =>
∃ (r_83:Int),v_81 = .int .u64 r_83/\(
hext h_73 h_82/\(
callD C (Kp) x_23 [.int .u64 x_80, .int .u64 r_83] h_82 fun v_84 h_85 =>
∃ (r_86:Int),v_84 = .int .u64 r_86/\(
hext h_82 h_85/\(
bindI (bitI .and .u64 r_86 r_74) fun z_87 =>
bindI (bitI .or .u64 z_79 z_87) fun z_88 =>
stV h_85 (a_71.add (z_70.toNat*1)) (.int .u64 z_88) fun h_89 =>
bindI (IntKind.i64.wrap (i_60+(1:Int))) fun z_90 =>
∃ m_56,m_56<n_57/\J_55 m_56 [.int .i64 z_90] h_89))))) (Kp))) (Kp)) <|
bindI (IntKind.i64.wrap (x_33+(1:Int))) fun z_91 =>
∃ m_29,m_29<n_30/\J_28 m_29 [.int .i64 z_91] h_58))) <|
K (.int .i64 0) h_31))) (Kp))) (Kp))) (Kp)
def bitmap_Map_Plain (C:CallP) (m:Option Addr) (h:Heap) (K:VK) (Kp:PK):Prop :=
newC h [.int .i64 0, .int .i64 0, .slice none 0 0] T_api_Bitmap fun r_1 h_2 =>
ptr m fun a_3 =>
ptr m fun a_4 =>
ptr m fun a_5 =>
ldI h_2 (a_3.add 0) .i64 fun x_6 =>
ldI h_2 (a_4.add 1) .i64 fun x_7 =>
ldS h_2 (a_5.add 3) fun x_8 x_8n x_8c =>
C F_slices_Clone_uint64_uint64 #[.slice x_8 x_8n x_8c] h_2 (fun v_9 h_10 =>
∃ (r_11:Option Addr) (r_11n:Nat) (r_11c:Nat),v_9 = .slice r_11 r_11n r_11c/\(
hext h_2 h_10/\(
stV h_10 ((⟨r_1,0,none⟩:Addr).add 0) (.int .i64 x_6) fun h_12 =>
stV h_12 ((⟨r_1,0,none⟩:Addr).add 1) (.int .i64 x_7) fun h_13 =>
stV h_13 ((⟨r_1,0,none⟩:Addr).add 2) (.slice r_11 r_11n r_11c) fun h_14 =>
ldI h_14 ((⟨r_1,0,none⟩:Addr).add 0) .i64 fun r_15 =>
ldI h_14 ((⟨r_1,0,none⟩:Addr).add 1) .i64 fun r_16 =>
ldS h_14 ((⟨r_1,0,none⟩:Addr).add 2) fun r_17 r_17n r_17c =>
K (.agg #[.int .i64 r_15, .int .i64 r_16, .slice r_17 r_17n r_17c]) h_14))) (Kp)
def bitmap_Check (C:CallP) (b_1:Int) (b_2:Int) (b_3:Option Addr) (b_3n:Nat) (b_3c:Nat) (h:Heap) (K:VK) (Kp:PK):Prop :=
newC h [.int .i64 b_1, .int .i64 b_2, .slice b_3 b_3n b_3c] T_api_Bitmap fun r_4 h_5 =>
ldI h_5 ((⟨r_4,0,none⟩:Addr).add 0) .i64 fun x_6 =>
ldI h_5 ((⟨r_4,0,none⟩:Addr).add 1) .i64 fun x_7 =>
C F_bitmap_sized #[.int .i64 x_6, .int .i64 x_7] h_5 (fun v_8 h_9 =>
∃ (r_10:Bool),v_8 = .bool r_10/\(
bcase (!r_10) (
K (.bool false) h_9) <|
ldI h_9 ((⟨r_4,0,none⟩:Addr).add 0) .i64 fun x_11 =>
bindI (IntKind.i64.wrap (x_11+(63:Int))) fun z_12 =>
bindI (IntKind.i64.wrap (z_12.tdiv (64:Int))) fun z_13 =>
ldS h_9 ((⟨r_4,0,none⟩:Addr).add 2) fun x_14 x_14n x_14c =>
ldI h_9 ((⟨r_4,0,none⟩:Addr).add 1) .i64 fun x_15 =>
bindI (IntKind.i64.wrap (x_15*z_13)) fun z_16 =>
bcase ((x_14n:Int) != z_16) (
K (.bool false) h_9) <|
ldI h_9 ((⟨r_4,0,none⟩:Addr).add 1) .i64 fun x_17 =>
∃ J_18:Nat->List Value->Heap->Prop,(∃ n_20,J_18 n_20 [.int .i64 0] h_9)/\∀ (n_20:Nat) (h_21:Heap) (u_22:Nat->Value) (x_23:Int),J_18 n_20 [.int .i64 x_23] h_21->(
bcase (decide (x_23<x_17)) (
bindI (IntKind.i64.wrap (x_23*z_13)) fun z_24 =>
bindI (IntKind.i64.wrap (z_24+z_13)) fun z_25 =>
bindI (IntKind.i64.wrap (z_25-(1:Int))) fun z_26 =>
ldS h_21 ((⟨r_4,0,none⟩:Addr).add 2) fun x_27 x_27n x_27c =>
needs (0<=z_26/\z_26<(x_27n:Int)) <|
ptr x_27 fun a_28 =>
ldI h_21 (a_28.add (z_26.toNat*1)) .u64 fun x_29 =>
ldI h_21 ((⟨r_4,0,none⟩:Addr).add 0) .i64 fun x_30 =>
C F_bitmap_last #[.int .i64 x_30] h_21 (fun v_31 h_32 =>
∃ (r_33:Int),v_31 = .int .u64 r_33/\(
hext h_21 h_32/\(
bindI (bitI .andNot .u64 x_29 r_33) fun z_34 =>
bcase (z_34 != (0:Int)) (
K (.bool false) h_32) <|
bindI (IntKind.i64.wrap (x_23+(1:Int))) fun z_35 =>
∃ m_19,m_19<n_20/\J_18 m_19 [.int .i64 z_35] h_32))) (Kp)) <|
K (.bool true) h_21))) (Kp)
def bitmap_sized (C:CallP) (w:Int) (h':Int) (h:Heap) (K:VK) (Kp:PK):Prop :=
bcase (decide (w≥(1:Int))) (
bcase (decide (h'≥(1:Int))) (
bcase (decide (w<=(1048576:Int))) (
bcase (decide (h'<=(1048576:Int))) (
bindI (IntKind.i64.wrap (w*h')) fun z_1 =>
K (.bool (decide (z_1<=(1048576:Int)))) h) <|
K (.bool false) h) <|
K (.bool false) h) <|
K (.bool false) h) <|
K (.bool false) h
def bitmap_cut (C:CallP) (off:Int) (n:Int) (size:Int) (h:Heap) (K:VK) (Kp:PK):Prop :=
∃ K_1:List Value->Heap->Prop,(
bcase (decide (n<=(0:Int))) (
K_1 [.bool (decide (n<=(0:Int)))] h) <|
bcase (decide (off≥size)) (
K_1 [.bool (decide (off≥size))] h) <|
bindI (IntKind.i64.wrap (0-n)) fun z_4 =>
K_1 [.bool (decide (off<=z_4))] h)/\∀ (h_2:Heap) (u_3:Nat->Value) (x_5:Bool),K_1 [.bool x_5] h_2->(
bcase x_5 (
K (.tuple #[.int .i64 0, .int .i64 0]) h_2) <|
bcase (decide (off≥(0:Int))) (
bindI (IntKind.i64.wrap (size-off)) fun z_6 =>
bindI (minI n z_6) fun z_7 =>
K (.tuple #[.int .i64 0, .int .i64 z_7]) h_2) <|
bindI (IntKind.i64.wrap (0-off)) fun z_8 =>
bindI (IntKind.i64.wrap (n+off)) fun z_9 =>
bindI (minI z_9 size) fun z_10 =>
K (.tuple #[.int .i64 z_8, .int .i64 z_10]) h_2)
def bitmap_mask (C:CallP) (i:Int) (x:Int) (n:Int) (h:Heap) (K:VK) (Kp:PK):Prop :=
bindI (IntKind.i64.wrap ((64:Int)*i)) fun z_1 =>
bindI (IntKind.i64.wrap (x-z_1)) fun z_2 =>
bindI (maxI z_2 (0:Int)) fun z_3 =>
bindI (IntKind.i64.wrap (x+n)) fun z_4 =>
bindI (IntKind.i64.wrap ((64:Int)*i)) fun z_5 =>
bindI (IntKind.i64.wrap (z_4-z_5)) fun z_6 =>
bindI (minI z_6 (64:Int)) fun z_7 =>
needs (0<=z_3) <|
bindI (shrI .u64 (18446744073709551615:Int) z_3) fun z_8 =>
needs (0<=z_7) <|
bindI (shrI .u64 (18446744073709551615:Int) z_7) fun z_9 =>
bindI (bitI .andNot .u64 z_8 z_9) fun z_10 =>
K (.int .u64 z_10) h
def bitmap_both (C:CallP) (a:Int) (asv:Int) (b:Int) (bs:Int) (n:Int) (h:Heap) (K:VK) (Kp:PK):Prop :=
C F_bitmap_cut #[.int .i64 a, .int .i64 n, .int .i64 asv] h (fun v_1 h_2 =>
∃ (r_3:Int),∃ (r_4:Int),v_1 = .tuple #[.int .i64 r_3, .int .i64 r_4]/\(
bcase (r_4 == (0:Int)) (
K (.tuple #[.int .i64 0, .int .i64 0, .int .i64 0]) h_2) <|
bindI (IntKind.i64.wrap ((9223372036854775807:Int)-r_3)) fun z_5 =>
bcase (decide (b > z_5)) (
K (.tuple #[.int .i64 0, .int .i64 0, .int .i64 0]) h_2) <|
bindI (IntKind.i64.wrap (a+r_3)) fun z_6 =>
bindI (IntKind.i64.wrap (b+r_3)) fun z_7 =>
C F_bitmap_cut #[.int .i64 z_7, .int .i64 r_4, .int .i64 bs] h_2 (fun v_8 h_9 =>
∃ (r_10:Int),∃ (r_11:Int),v_8 = .tuple #[.int .i64 r_10, .int .i64 r_11]/\(
bindI (IntKind.i64.wrap (z_6+r_10)) fun z_12 =>
bindI (IntKind.i64.wrap (z_7+r_10)) fun z_13 =>
K (.tuple #[.int .i64 z_12, .int .i64 z_13, .int .i64 r_11]) h_9)) (Kp))) (Kp)
def bitmap_operations (C:CallP)  (h:Heap) (K:VK) (Kp:PK):Prop :=
newC h [.func (.func F_bitmap_operations_c1) #[] #[], .func (.func F_bitmap_operations_c2) #[] #[], .func (.func F_bitmap_operations_c3) #[] #[], .func (.func F_bitmap_operations_c4) #[] #[], .func (.func F_bitmap_operations_c5) #[] #[]] T_func_uint64_uint64_uint64 fun r_1 h_2 =>
K (.slice (some ⟨r_1,0,none⟩) 5 5) h_2
def bitmap_word (C:CallP) (row:Option Addr) (rown:Nat) (rowc:Nat) (x:Int) (h:Heap) (K:VK) (Kp:PK):Prop :=
bcase (decide (x<(0:Int))) (
C F_bitmap_word #[.slice row rown rowc, .int .i64 0] h (fun v_1 h_2 =>
∃ (r_3:Int),v_1 = .int .u64 r_3/\(
bindI (IntKind.i64.wrap (0-x)) fun z_4 =>
needs (0<=z_4) <|
bindI (shrI .u64 r_3 z_4) fun z_5 =>
K (.int .u64 z_5) h_2)) (Kp)) <|
bindI (IntKind.i64.wrap (x.tdiv (64:Int))) fun z_6 =>
bcase (decide (z_6≥(rown:Int))) (
K (.int .u64 0) h) <|
needs (0<=z_6/\z_6<(rown:Int)) <|
ptr row fun a_7 =>
ldI h (a_7.add (z_6.toNat*1)) .u64 fun x_8 =>
bindI (x.tmod (64:Int)) fun z_9 =>
needs (0<=z_9) <|
bindI (shlI .u64 x_8 z_9) fun z_10 =>
∃ K_11:List Value->Heap->Prop,(
bindI (x.tmod (64:Int)) fun z_14 =>
bcase (decide (z_14 > (0:Int))) (
bindI (IntKind.i64.wrap (z_6+(1:Int))) fun z_15 =>
K_11 [.bool (decide (z_15<(rown:Int)))] h) <|
K_11 [.bool false] h)/\∀ (h_12:Heap) (u_13:Nat->Value) (x_16:Bool),K_11 [.bool x_16] h_12->(
bcase x_16 (
bindI (IntKind.i64.wrap (z_6+(1:Int))) fun z_17 =>
needs (0<=z_17/\z_17<(rown:Int)) <|
ptr row fun a_18 =>
ldI h_12 (a_18.add (z_17.toNat*1)) .u64 fun x_19 =>
bindI (x.tmod (64:Int)) fun z_20 =>
bindI (IntKind.i64.wrap ((64:Int)-z_20)) fun z_21 =>
needs (0<=z_21) <|
bindI (shrI .u64 x_19 z_21) fun z_22 =>
bindI (bitI .or .u64 z_10 z_22) fun z_23 =>
K (.int .u64 z_23) h_12) <|
K (.int .u64 z_10) h_12)
def bitmap_last (C:CallP) (w:Int) (h:Heap) (K:VK) (Kp:PK):Prop :=
bindI (w.tmod (64:Int)) fun z_1 =>
bindI (IntKind.i64.wrap ((64:Int)-z_1)) fun z_2 =>
bindI (z_2.tmod (64:Int)) fun z_3 =>
needs (0<=z_3) <|
bindI (shlI .u64 (18446744073709551615:Int) z_3) fun z_4 =>
K (.int .u64 z_4) h
def bitmap_operations_c1 (C:CallP) (d:Int) (s:Int) (h:Heap) (K:VK) (Kp:PK):Prop :=
bindI (bitI .or .u64 d s) fun z_1 =>
K (.int .u64 z_1) h
def bitmap_operations_c2 (C:CallP) (d:Int) (s:Int) (h:Heap) (K:VK) (Kp:PK):Prop :=
bindI (bitI .and .u64 d s) fun z_1 =>
K (.int .u64 z_1) h
def bitmap_operations_c3 (C:CallP) (d:Int) (s:Int) (h:Heap) (K:VK) (Kp:PK):Prop :=
bindI (bitI .xor .u64 d s) fun z_1 =>
K (.int .u64 z_1) h
def bitmap_operations_c4 (C:CallP) (d:Int) (s:Int) (h:Heap) (K:VK) (Kp:PK):Prop :=
bindI (bitI .xor .u64 d s) fun z_1 =>
bindI (bitI .xor .u64 IntKind.u64.max z_1) fun z_2 =>
K (.int .u64 z_2) h
def bitmap_operations_c5 (C:CallP) (d:Int) (s:Int) (h:Heap) (K:VK) (Kp:PK):Prop :=
K (.int .u64 s) h
def bitmap_Equal (C:CallP) (a_1:Int) (a_2:Int) (a_3:Option Addr) (a_3n:Nat) (a_3c:Nat) (b_4:Int) (b_5:Int) (b_6:Option Addr) (b_6n:Nat) (b_6c:Nat) (h:Heap) (K:VK) (Kp:PK):Prop :=
newC h [.int .i64 a_1, .int .i64 a_2, .slice a_3 a_3n a_3c] T_api_Bitmap fun r_7 h_8 =>
newC h_8 [.int .i64 b_4, .int .i64 b_5, .slice b_6 b_6n b_6c] T_api_Bitmap fun r_9 h_10 =>
ldI h_10 ((⟨r_7,0,none⟩:Addr).add 0) .i64 fun x_11 =>
ldI h_10 ((⟨r_7,0,none⟩:Addr).add 1) .i64 fun x_12 =>
ldS h_10 ((⟨r_7,0,none⟩:Addr).add 2) fun x_13 x_13n x_13c =>
C F_bitmap_Check #[.agg #[.int .i64 x_11, .int .i64 x_12, .slice x_13 x_13n x_13c]] h_10 (fun v_14 h_15 =>
∃ (r_16:Bool),v_14 = .bool r_16/\(
bcase r_16 (
ldI h_15 ((⟨r_9,0,none⟩:Addr).add 0) .i64 fun x_17 =>
ldI h_15 ((⟨r_9,0,none⟩:Addr).add 1) .i64 fun x_18 =>
ldS h_15 ((⟨r_9,0,none⟩:Addr).add 2) fun x_19 x_19n x_19c =>
C F_bitmap_Check #[.agg #[.int .i64 x_17, .int .i64 x_18, .slice x_19 x_19n x_19c]] h_15 (fun v_20 h_21 =>
∃ (r_22:Bool),v_20 = .bool r_22/\(
bcase r_22 (
ldI h_21 ((⟨r_7,0,none⟩:Addr).add 0) .i64 fun x_23 =>
ldI h_21 ((⟨r_9,0,none⟩:Addr).add 0) .i64 fun x_24 =>
bcase (x_23 == x_24) (
ldI h_21 ((⟨r_7,0,none⟩:Addr).add 1) .i64 fun x_25 =>
ldI h_21 ((⟨r_9,0,none⟩:Addr).add 1) .i64 fun x_26 =>
bcase (x_25 == x_26) (
ldS h_21 ((⟨r_7,0,none⟩:Addr).add 2) fun x_27 x_27n x_27c =>
ldS h_21 ((⟨r_9,0,none⟩:Addr).add 2) fun x_28 x_28n x_28c =>
C F_slices_Equal_uint64_uint64 #[.slice x_27 x_27n x_27c, .slice x_28 x_28n x_28c] h_21 (fun v_29 h_30 =>
∃ (r_31:Bool),v_29 = .bool r_31/\(
K (.bool r_31) h_30)) (Kp)) <|
K (.bool false) h_21) <|
K (.bool false) h_21) <|
K (.bool false) h_21)) (Kp)) <|
K (.bool false) h_15)) (Kp)
def bitmap_Map_Size (C:CallP) (m:Option Addr) (h:Heap) (K:VK) (Kp:PK):Prop :=
ptr m fun a_1 =>
ptr m fun a_2 =>
ldI h (a_1.add 0) .i64 fun x_3 =>
ldI h (a_2.add 1) .i64 fun x_4 =>
K (.tuple #[.int .i64 x_3, .int .i64 x_4]) h
def bitmap_Map_Get (C:CallP) (m:Option Addr) (x:Int) (y:Int) (h:Heap) (K:VK) (Kp:PK):Prop :=
C F_bitmap_Map_inside #[.pointer m, .int .i64 x, .int .i64 y] h (fun v_1 h_2 =>
∃ (r_3:Bool),v_1 = .bool r_3/\(
bcase (!r_3) (
K (.int .i64 0) h_2) <|
ptr m fun a_4 =>
ptr m fun a_5 =>
bindI (IntKind.i64.wrap (x.tdiv (64:Int))) fun z_6 =>
bindI (x.tmod (64:Int)) fun z_7 =>
bindI (IntKind.i64.wrap ((63:Int)-z_7)) fun z_8 =>
ldS h_2 (a_4.add 3) fun x_9 x_9n x_9c =>
ldI h_2 (a_5.add 2) .i64 fun x_10 =>
bindI (IntKind.i64.wrap (y*x_10)) fun z_11 =>
bindI (IntKind.i64.wrap (z_11+z_6)) fun z_12 =>
needs (0<=z_12/\z_12<(x_9n:Int)) <|
ptr x_9 fun a_13 =>
ldI h_2 (a_13.add (z_12.toNat*1)) .u64 fun x_14 =>
needs (0<=z_8) <|
bindI (shrI .u64 x_14 z_8) fun z_15 =>
bindI (bitI .and .u64 z_15 (1:Int)) fun z_16 =>
bindI (IntKind.i64.wrap z_16) fun z_17 =>
K (.int .i64 z_17) h_2)) (Kp)
def bitmap_Map_Set (C:CallP) (m:Option Addr) (x:Int) (y:Int) (bit:Int) (h:Heap) (K:VK) (Kp:PK):Prop :=
C F_bitmap_Map_inside #[.pointer m, .int .i64 x, .int .i64 y] h (fun v_1 h_2 =>
∃ (r_3:Bool),v_1 = .bool r_3/\(
bcase (!r_3) (
K (.int .i64 22) h_2) <|
bcase (bit != (0:Int)) (
bcase (bit != (1:Int)) (
K (.int .i64 23) h_2) <|
C F_bitmap_Map_put #[.pointer m, .int .i64 x, .int .i64 y, .int .i64 bit] h_2 (fun v_4 h_5 =>
K (.int .i64 0) h_5) (Kp)) <|
C F_bitmap_Map_put #[.pointer m, .int .i64 x, .int .i64 y, .int .i64 bit] h_2 (fun v_6 h_7 =>
K (.int .i64 0) h_7) (Kp))) (Kp)
def bitmap_Map_inside (C:CallP) (m:Option Addr) (x:Int) (y:Int) (h:Heap) (K:VK) (Kp:PK):Prop :=
bcase (decide (x≥(0:Int))) (
ptr m fun a_1 =>
ldI h (a_1.add 0) .i64 fun x_2 =>
bcase (decide (x<x_2)) (
bcase (decide (y≥(0:Int))) (
ptr m fun a_3 =>
ldI h (a_3.add 1) .i64 fun x_4 =>
K (.bool (decide (y<x_4))) h) <|
K (.bool false) h) <|
K (.bool false) h) <|
K (.bool false) h
def bitmap_Map_put (C:CallP) (m:Option Addr) (x:Int) (y:Int) (bit:Int) (h:Heap) (K:VK) (Kp:PK):Prop :=
ptr m fun a_1 =>
ptr m fun a_2 =>
bindI (IntKind.i64.wrap (x.tdiv (64:Int))) fun z_3 =>
ldS h (a_1.add 3) fun x_4 x_4n x_4c =>
ldI h (a_2.add 2) .i64 fun x_5 =>
bindI (IntKind.i64.wrap (y*x_5)) fun z_6 =>
bindI (IntKind.i64.wrap (z_6+z_3)) fun z_7 =>
needs (0<=z_7/\z_7<(x_4n:Int)) <|
ptr x_4 fun a_8 =>
bindI (x.tmod (64:Int)) fun z_9 =>
bindI (IntKind.i64.wrap ((63:Int)-z_9)) fun z_10 =>
needs (0<=z_10) <|
bindI (shlI .u64 (1:Int) z_10) fun z_11 =>
bindI (IntKind.u64.wrap bit) fun z_12 =>
bindI (x.tmod (64:Int)) fun z_13 =>
bindI (IntKind.i64.wrap ((63:Int)-z_13)) fun z_14 =>
needs (0<=z_14) <|
bindI (shlI .u64 z_12 z_14) fun z_15 =>
ldI h (a_8.add (z_7.toNat*1)) .u64 fun x_16 =>
bindI (bitI .andNot .u64 x_16 z_11) fun z_17 =>
bindI (bitI .or .u64 z_17 z_15) fun z_18 =>
stV h (a_8.add (z_7.toNat*1)) (.int .u64 z_18) fun h_19 =>
K (.tuple #[]) h_19
end Go.Den.YtbknfejmdekhpaaGreat
namespace Go.Den.YtbknfejmdekhpaaGreat
open Go Go.Den
theorem call_bitmap_New {w:Int} {h':Int} {h:Heap} {K:VK} {Kp:PK} (H:bitmap_New (CallsHP Go.Proofs.Tryz.prog) w h' h K Kp):CallsHP Go.Proofs.Tryz.prog F_bitmap_New #[.int .i64 w, .int .i64 h'] h K Kp :=
 callsHP_ofE (Hints.mk (fun i=>none) (fun i=>none) (fun i=>none) []) (by kernel_rfl) Go.Proofs.Tryz.func58 (by kernel_rfl) (fun C=>bitmap_New C w h' h K Kp) (fun C=>by kernel_rfl) H
theorem call_bitmap_Map_Fill {m:Option Addr} {x:Int} {y:Int} {w:Int} {h':Int} {bit:Int} {h:Heap} {K:VK} {Kp:PK} (H:bitmap_Map_Fill (CallsHP Go.Proofs.Tryz.prog) m x y w h' bit h K Kp):CallsHP Go.Proofs.Tryz.prog F_bitmap_Map_Fill #[.pointer m, .int .i64 x, .int .i64 y, .int .i64 w, .int .i64 h', .int .i64 bit] h K Kp :=
 callsHP_ofE (Hints.mk (fun i=>bif Nat.beq i 17 then some ([20], .take 0 <| .take 1 <| .take 2 <| .take 4 <| .take 5 <| .take 6 <| .take 7 <| .take 10 <| .take 14 <| .take 15 <| .take 16 <| .take 3 <| .take 8 <| .take 9 <| .take 11 <| .take 12 <| .take 13 <| .go 17 <| .take 18 <| .take 19 <| .bar 20 [] <| .done) else (bif Nat.beq i 19 then some ([20], .take 0 <| .take 1 <| .take 2 <| .take 4 <| .take 5 <| .take 6 <| .take 7 <| .take 10 <| .take 14 <| .take 15 <| .take 16 <| .take 3 <| .take 8 <| .take 9 <| .take 11 <| .take 12 <| .take 13 <| .go 17 <| .take 18 <| .take 19 <| .bar 20 [] <| .done) else (none))) (fun i=>bif Nat.beq i 12 then some ([(16, .int .i64)],42535295865117307896028337781552119808) else (bif Nat.beq i 15 then some ([(17, .int .i64)],42535295865117289043455894450390302720) else (none))) (fun i=>bif Nat.beq i 5 then some ([],4294709248) else (none)) []) (by kernel_rfl) Go.Proofs.Tryz.func59 (by kernel_rfl) (fun C=>bitmap_Map_Fill C m x y w h' bit h K Kp) (fun C=>by kernel_rfl) H
theorem call_bitmap_From {b_1:Int} {b_2:Int} {b_3:Option Addr} {b_3n:Nat} {b_3c:Nat} {h:Heap} {K:VK} {Kp:PK} (H:bitmap_From (CallsHP Go.Proofs.Tryz.prog) b_1 b_2 b_3 b_3n b_3c h K Kp):CallsHP Go.Proofs.Tryz.prog F_bitmap_From #[.agg #[.int .i64 b_1, .int .i64 b_2, .slice b_3 b_3n b_3c]] h K Kp :=
 callsHP_ofE (Hints.mk (fun i=>bif Nat.beq i 3 then some ([12], .take 0 <| .take 2 <| .take 4 <| .take 8 <| .take 1 <| .take 3 <| .take 5 <| .take 6 <| .take 7 <| .take 9 <| .go 10 <| .take 11 <| .bar 12 [] <| .take 13 <| .take 14 <| .done) else (none)) (fun i=>none) (fun i=>none) []) (by kernel_rfl) Go.Proofs.Tryz.func60 (by kernel_rfl) (fun C=>bitmap_From C b_1 b_2 b_3 b_3n b_3c h K Kp) (fun C=>by kernel_rfl) H
theorem call_bitmap_Map_Blit {m:Option Addr} {src:Option Addr} {sx:Int} {sy:Int} {w:Int} {h':Int} {dx:Int} {dy:Int} {op:Int} {h:Heap} {K:VK} {Kp:PK} (H:bitmap_Map_Blit (CallsHP Go.Proofs.Tryz.prog) m src sx sy w h' dx dy op h K Kp):CallsHP Go.Proofs.Tryz.prog F_bitmap_Map_Blit #[.pointer m, .pointer src, .int .i64 sx, .int .i64 sy, .int .i64 w, .int .i64 h', .int .i64 dx, .int .i64 dy, .int .i64 op] h K Kp :=
 callsHP_ofE (Hints.mk (fun i=>bif Nat.beq i 7 then some ([11], .take 0 <| .take 1 <| .take 2 <| .take 3 <| .take 5 <| .take 6 <| .take 7 <| .take 8 <| .take 10 <| .take 4 <| .take 9 <| .bar 11 [] <| .take 12 <| .take 13 <| .take 14 <| .take 15 <| .take 16 <| .take 17 <| .take 18 <| .done) else (bif Nat.beq i 8 then some ([11], .take 0 <| .take 1 <| .take 2 <| .take 3 <| .take 5 <| .take 6 <| .take 7 <| .take 8 <| .take 10 <| .take 4 <| .take 9 <| .bar 11 [] <| .take 12 <| .take 13 <| .take 14 <| .take 15 <| .take 16 <| .take 17 <| .take 18 <| .done) else (bif Nat.beq i 19 then some ([19], .take 0 <| .take 1 <| .take 2 <| .take 3 <| .take 5 <| .take 6 <| .take 7 <| .take 8 <| .take 9 <| .take 12 <| .take 13 <| .take 14 <| .take 15 <| .take 4 <| .take 10 <| .take 11 <| .take 16 <| .take 17 <| .take 18 <| .bar 19 [] <| .done) else (bif Nat.beq i 23 then some ([], .take 0 <| .take 1 <| .take 2 <| .take 4 <| .take 5 <| .take 6 <| .take 7 <| .take 8 <| .take 9 <| .take 12 <| .take 3 <| .take 10 <| .take 11 <| .take 13 <| .take 14 <| .take 15 <| .done) else (bif Nat.beq i 25 then some ([23], .take 0 <| .take 1 <| .take 2 <| .take 4 <| .take 6 <| .take 7 <| .take 8 <| .take 10 <| .take 11 <| .take 12 <| .take 13 <| .take 14 <| .take 15 <| .take 16 <| .take 19 <| .take 3 <| .take 5 <| .take 9 <| .go 17 <| .go 18 <| .take 20 <| .take 21 <| .take 22 <| .bar 23 [] <| .done) else (none)))))) (fun i=>bif Nat.beq i 14 then some ([(91, .int .i64)],12259964326927110866866776214726593390379152427735580672) else (bif Nat.beq i 21 then some ([(23, .int .i64)],6129982163463552711174452741093529027478097034647437312) else (none))) (fun i=>bif Nat.beq i 18 then some ([(21, .int .i64)],2515494159827892718595022520320) else (none)) []) (by kernel_rfl) Go.Proofs.Tryz.func61 (by kernel_rfl) (fun C=>bitmap_Map_Blit C m src sx sy w h' dx dy op h K Kp) (fun C=>by kernel_rfl) H
theorem call_bitmap_Map_Plain {m:Option Addr} {h:Heap} {K:VK} {Kp:PK} (H:bitmap_Map_Plain (CallsHP Go.Proofs.Tryz.prog) m h K Kp):CallsHP Go.Proofs.Tryz.prog F_bitmap_Map_Plain #[.pointer m] h K Kp :=
 callsHP_ofE (Hints.mk (fun i=>bif Nat.beq i 1 then some ([14], .take 0 <| .take 1 <| .take 2 <| .take 4 <| .take 5 <| .take 6 <| .take 8 <| .take 9 <| .take 10 <| .take 3 <| .take 7 <| .take 11 <| .go 12 <| .take 13 <| .bar 14 [] <| .done) else (none)) (fun i=>none) (fun i=>none) []) (by kernel_rfl) Go.Proofs.Tryz.func62 (by kernel_rfl) (fun C=>bitmap_Map_Plain C m h K Kp) (fun C=>by kernel_rfl) H
theorem call_bitmap_Check {b_1:Int} {b_2:Int} {b_3:Option Addr} {b_3n:Nat} {b_3c:Nat} {h:Heap} {K:VK} {Kp:PK} (H:bitmap_Check (CallsHP Go.Proofs.Tryz.prog) b_1 b_2 b_3 b_3n b_3c h K Kp):CallsHP Go.Proofs.Tryz.prog F_bitmap_Check #[.agg #[.int .i64 b_1, .int .i64 b_2, .slice b_3 b_3n b_3c]] h K Kp :=
 callsHP_ofE (Hints.mk (fun i=>bif Nat.beq i 9 then some ([], .take 0 <| .take 2 <| .take 3 <| .take 4 <| .take 5 <| .take 6 <| .take 7 <| .take 10 <| .take 1 <| .take 8 <| .take 9 <| .take 11 <| .go 12 <| .take 13 <| .take 14 <| .done) else (none)) (fun i=>bif Nat.beq i 7 then some ([(25, .int .i64)],17592152490004) else (none)) (fun i=>none) []) (by kernel_rfl) Go.Proofs.Tryz.func76 (by kernel_rfl) (fun C=>bitmap_Check C b_1 b_2 b_3 b_3n b_3c h K Kp) (fun C=>by kernel_rfl) H
theorem call_bitmap_sized {w:Int} {h':Int} {h:Heap} {K:VK} {Kp:PK} (H:bitmap_sized (CallsHP Go.Proofs.Tryz.prog) w h' h K Kp):CallsHP Go.Proofs.Tryz.prog F_bitmap_sized #[.int .i64 w, .int .i64 h'] h K Kp :=
 callsHP_ofE (Hints.mk (fun i=>none) (fun i=>none) (fun i=>none) []) (by kernel_rfl) Go.Proofs.Tryz.func109 (by kernel_rfl) (fun C=>bitmap_sized C w h' h K Kp) (fun C=>by kernel_rfl) H
theorem call_bitmap_cut {off:Int} {n:Int} {size:Int} {h:Heap} {K:VK} {Kp:PK} (H:bitmap_cut (CallsHP Go.Proofs.Tryz.prog) off n size h K Kp):CallsHP Go.Proofs.Tryz.prog F_bitmap_cut #[.int .i64 off, .int .i64 n, .int .i64 size] h K Kp :=
 callsHP_ofE (Hints.mk (fun i=>none) (fun i=>none) (fun i=>bif Nat.beq i 4 then some ([(8, .bool)],261888) else (none)) []) (by kernel_rfl) Go.Proofs.Tryz.func110 (by kernel_rfl) (fun C=>bitmap_cut C off n size h K Kp) (fun C=>by kernel_rfl) H
theorem call_bitmap_mask {i:Int} {x:Int} {n:Int} {h:Heap} {K:VK} {Kp:PK} (H:bitmap_mask (CallsHP Go.Proofs.Tryz.prog) i x n h K Kp):CallsHP Go.Proofs.Tryz.prog F_bitmap_mask #[.int .i64 i, .int .i64 x, .int .i64 n] h K Kp :=
 callsHP_ofE (Hints.mk (fun i=>bif Nat.beq i 2 then some ([], .take 0 <| .take 1 <| .take 2 <| .take 3 <| .take 4 <| .take 5 <| .done) else (none)) (fun i=>none) (fun i=>none) []) (by kernel_rfl) Go.Proofs.Tryz.func111 (by kernel_rfl) (fun C=>bitmap_mask C i x n h K Kp) (fun C=>by kernel_rfl) H
theorem call_bitmap_both {a:Int} {asv:Int} {b:Int} {bs:Int} {n:Int} {h:Heap} {K:VK} {Kp:PK} (H:bitmap_both (CallsHP Go.Proofs.Tryz.prog) a asv b bs n h K Kp):CallsHP Go.Proofs.Tryz.prog F_bitmap_both #[.int .i64 a, .int .i64 asv, .int .i64 b, .int .i64 bs, .int .i64 n] h K Kp :=
 callsHP_ofE (Hints.mk (fun i=>none) (fun i=>none) (fun i=>none) []) (by kernel_rfl) Go.Proofs.Tryz.func112 (by kernel_rfl) (fun C=>bitmap_both C a asv b bs n h K Kp) (fun C=>by kernel_rfl) H
theorem call_bitmap_operations  {h:Heap} {K:VK} {Kp:PK} (H:bitmap_operations (CallsHP Go.Proofs.Tryz.prog)  h K Kp):CallsHP Go.Proofs.Tryz.prog F_bitmap_operations #[] h K Kp :=
 callsHP_ofE (Hints.mk (fun i=>none) (fun i=>none) (fun i=>none) []) (by kernel_rfl) Go.Proofs.Tryz.func113 (by kernel_rfl) (fun C=>bitmap_operations C  h K Kp) (fun C=>by kernel_rfl) H
theorem call_bitmap_word {row:Option Addr} {rown:Nat} {rowc:Nat} {x:Int} {h:Heap} {K:VK} {Kp:PK} (H:bitmap_word (CallsHP Go.Proofs.Tryz.prog) row rown rowc x h K Kp):CallsHP Go.Proofs.Tryz.prog F_bitmap_word #[.slice row rown rowc, .int .i64 x] h K Kp :=
 callsHP_ofE (Hints.mk (fun i=>none) (fun i=>none) (fun i=>bif Nat.beq i 8 then some ([(36, .bool)],137304735744) else (none)) []) (by kernel_rfl) Go.Proofs.Tryz.func114 (by kernel_rfl) (fun C=>bitmap_word C row rown rowc x h K Kp) (fun C=>by kernel_rfl) H
theorem call_bitmap_last {w:Int} {h:Heap} {K:VK} {Kp:PK} (H:bitmap_last (CallsHP Go.Proofs.Tryz.prog) w h K Kp):CallsHP Go.Proofs.Tryz.prog F_bitmap_last #[.int .i64 w] h K Kp :=
 callsHP_ofE (Hints.mk (fun i=>none) (fun i=>none) (fun i=>none) []) (by kernel_rfl) Go.Proofs.Tryz.func119 (by kernel_rfl) (fun C=>bitmap_last C w h K Kp) (fun C=>by kernel_rfl) H
theorem call_bitmap_operations_c1 {d:Int} {s:Int} {h:Heap} {K:VK} {Kp:PK} (H:bitmap_operations_c1 (CallsHP Go.Proofs.Tryz.prog) d s h K Kp):CallsHP Go.Proofs.Tryz.prog F_bitmap_operations_c1 #[.int .u64 d, .int .u64 s] h K Kp :=
 callsHP_ofE (Hints.mk (fun i=>none) (fun i=>none) (fun i=>none) []) (by kernel_rfl) Go.Proofs.Tryz.func158 (by kernel_rfl) (fun C=>bitmap_operations_c1 C d s h K Kp) (fun C=>by kernel_rfl) H
theorem call_bitmap_operations_c2 {d:Int} {s:Int} {h:Heap} {K:VK} {Kp:PK} (H:bitmap_operations_c2 (CallsHP Go.Proofs.Tryz.prog) d s h K Kp):CallsHP Go.Proofs.Tryz.prog F_bitmap_operations_c2 #[.int .u64 d, .int .u64 s] h K Kp :=
 callsHP_ofE (Hints.mk (fun i=>none) (fun i=>none) (fun i=>none) []) (by kernel_rfl) Go.Proofs.Tryz.func159 (by kernel_rfl) (fun C=>bitmap_operations_c2 C d s h K Kp) (fun C=>by kernel_rfl) H
theorem call_bitmap_operations_c3 {d:Int} {s:Int} {h:Heap} {K:VK} {Kp:PK} (H:bitmap_operations_c3 (CallsHP Go.Proofs.Tryz.prog) d s h K Kp):CallsHP Go.Proofs.Tryz.prog F_bitmap_operations_c3 #[.int .u64 d, .int .u64 s] h K Kp :=
 callsHP_ofE (Hints.mk (fun i=>none) (fun i=>none) (fun i=>none) []) (by kernel_rfl) Go.Proofs.Tryz.func160 (by kernel_rfl) (fun C=>bitmap_operations_c3 C d s h K Kp) (fun C=>by kernel_rfl) H
theorem call_bitmap_operations_c4 {d:Int} {s:Int} {h:Heap} {K:VK} {Kp:PK} (H:bitmap_operations_c4 (CallsHP Go.Proofs.Tryz.prog) d s h K Kp):CallsHP Go.Proofs.Tryz.prog F_bitmap_operations_c4 #[.int .u64 d, .int .u64 s] h K Kp :=
 callsHP_ofE (Hints.mk (fun i=>none) (fun i=>none) (fun i=>none) []) (by kernel_rfl) Go.Proofs.Tryz.func161 (by kernel_rfl) (fun C=>bitmap_operations_c4 C d s h K Kp) (fun C=>by kernel_rfl) H
theorem call_bitmap_operations_c5 {d:Int} {s:Int} {h:Heap} {K:VK} {Kp:PK} (H:bitmap_operations_c5 (CallsHP Go.Proofs.Tryz.prog) d s h K Kp):CallsHP Go.Proofs.Tryz.prog F_bitmap_operations_c5 #[.int .u64 d, .int .u64 s] h K Kp :=
 callsHP_ofE (Hints.mk (fun i=>none) (fun i=>none) (fun i=>none) []) (by kernel_rfl) Go.Proofs.Tryz.func162 (by kernel_rfl) (fun C=>bitmap_operations_c5 C d s h K Kp) (fun C=>by kernel_rfl) H
theorem call_bitmap_Equal {a_1:Int} {a_2:Int} {a_3:Option Addr} {a_3n:Nat} {a_3c:Nat} {b_4:Int} {b_5:Int} {b_6:Option Addr} {b_6n:Nat} {b_6c:Nat} {h:Heap} {K:VK} {Kp:PK} (H:bitmap_Equal (CallsHP Go.Proofs.Tryz.prog) a_1 a_2 a_3 a_3n a_3c b_4 b_5 b_6 b_6n b_6c h K Kp):CallsHP Go.Proofs.Tryz.prog F_bitmap_Equal #[.agg #[.int .i64 a_1, .int .i64 a_2, .slice a_3 a_3n a_3c], .agg #[.int .i64 b_4, .int .i64 b_5, .slice b_6 b_6n b_6c]] h K Kp :=
 callsHP_ofE (Hints.mk (fun i=>none) (fun i=>none) (fun i=>none) []) (by kernel_rfl) Go.Proofs.Tryz.func171 (by kernel_rfl) (fun C=>bitmap_Equal C a_1 a_2 a_3 a_3n a_3c b_4 b_5 b_6 b_6n b_6c h K Kp) (fun C=>by kernel_rfl) H
theorem call_bitmap_Map_Size {m:Option Addr} {h:Heap} {K:VK} {Kp:PK} (H:bitmap_Map_Size (CallsHP Go.Proofs.Tryz.prog) m h K Kp):CallsHP Go.Proofs.Tryz.prog F_bitmap_Map_Size #[.pointer m] h K Kp :=
 callsHP_ofE (Hints.mk (fun i=>bif Nat.beq i 1 then some ([], .take 0 <| .take 1 <| .take 2 <| .take 4 <| .take 5 <| .take 6 <| .take 3 <| .take 8 <| .take 7 <| .take 9 <| .done) else (none)) (fun i=>none) (fun i=>none) []) (by kernel_rfl) Go.Proofs.Tryz.func201 (by kernel_rfl) (fun C=>bitmap_Map_Size C m h K Kp) (fun C=>by kernel_rfl) H
theorem call_bitmap_Map_Get {m:Option Addr} {x:Int} {y:Int} {h:Heap} {K:VK} {Kp:PK} (H:bitmap_Map_Get (CallsHP Go.Proofs.Tryz.prog) m x y h K Kp):CallsHP Go.Proofs.Tryz.prog F_bitmap_Map_Get #[.pointer m, .int .i64 x, .int .i64 y] h K Kp :=
 callsHP_ofE (Hints.mk (fun i=>bif Nat.beq i 3 then some ([], .take 0 <| .take 1 <| .take 2 <| .take 4 <| .take 5 <| .take 6 <| .take 7 <| .take 10 <| .take 11 <| .take 15 <| .take 16 <| .take 17 <| .take 3 <| .take 8 <| .take 9 <| .take 12 <| .take 13 <| .take 14 <| .take 18 <| .take 19 <| .take 20 <| .take 21 <| .done) else (none)) (fun i=>none) (fun i=>none) []) (by kernel_rfl) Go.Proofs.Tryz.func203 (by kernel_rfl) (fun C=>bitmap_Map_Get C m x y h K Kp) (fun C=>by kernel_rfl) H
theorem call_bitmap_Map_Set {m:Option Addr} {x:Int} {y:Int} {bit:Int} {h:Heap} {K:VK} {Kp:PK} (H:bitmap_Map_Set (CallsHP Go.Proofs.Tryz.prog) m x y bit h K Kp):CallsHP Go.Proofs.Tryz.prog F_bitmap_Map_Set #[.pointer m, .int .i64 x, .int .i64 y, .int .i64 bit] h K Kp :=
 callsHP_ofE (Hints.mk (fun i=>none) (fun i=>none) (fun i=>none) []) (by kernel_rfl) Go.Proofs.Tryz.func205 (by kernel_rfl) (fun C=>bitmap_Map_Set C m x y bit h K Kp) (fun C=>by kernel_rfl) H
theorem call_bitmap_Map_inside {m:Option Addr} {x:Int} {y:Int} {h:Heap} {K:VK} {Kp:PK} (H:bitmap_Map_inside (CallsHP Go.Proofs.Tryz.prog) m x y h K Kp):CallsHP Go.Proofs.Tryz.prog F_bitmap_Map_inside #[.pointer m, .int .i64 x, .int .i64 y] h K Kp :=
 callsHP_ofE (Hints.mk (fun i=>none) (fun i=>none) (fun i=>none) []) (by kernel_rfl) Go.Proofs.Tryz.func208 (by kernel_rfl) (fun C=>bitmap_Map_inside C m x y h K Kp) (fun C=>by kernel_rfl) H
theorem call_bitmap_Map_put {m:Option Addr} {x:Int} {y:Int} {bit:Int} {h:Heap} {K:VK} {Kp:PK} (H:bitmap_Map_put (CallsHP Go.Proofs.Tryz.prog) m x y bit h K Kp):CallsHP Go.Proofs.Tryz.prog F_bitmap_Map_put #[.pointer m, .int .i64 x, .int .i64 y, .int .i64 bit] h K Kp :=
 callsHP_ofE (Hints.mk (fun i=>bif Nat.beq i 0 then some ([], .take 0 <| .take 1 <| .take 2 <| .take 4 <| .take 5 <| .take 6 <| .take 7 <| .take 10 <| .take 11 <| .take 3 <| .take 8 <| .take 9 <| .take 12 <| .take 13 <| .take 14 <| .done) else (bif Nat.beq i 1 then some ([17], .take 0 <| .take 1 <| .take 2 <| .take 4 <| .take 5 <| .take 6 <| .take 7 <| .take 9 <| .take 10 <| .take 11 <| .take 12 <| .take 13 <| .take 14 <| .take 3 <| .take 8 <| .take 15 <| .take 16 <| .bar 17 [] <| .done) else (none))) (fun i=>none) (fun i=>none) []) (by kernel_rfl) Go.Proofs.Tryz.func209 (by kernel_rfl) (fun C=>bitmap_Map_put C m x y bit h K Kp) (fun C=>by kernel_rfl) H
end Go.Den.YtbknfejmdekhpaaGreat
namespace Go.Den.YtbknfejmdekhpaaGreat
open Go Go.Den
def burinref0_CopyText (C:CallP) (t_1:Int) (t_2:Int) (t_3:Int) (t_4:Int) (t_5:Int) (t_6:Bool) (t_7:Int) (t_8:Int) (t_9:Option Addr) (t_9n:Nat) (t_9c:Nat) (h:Heap) (K:VK) (Kp:PK):Prop :=
newC h [.int .i64 t_1, .int .i64 t_2, .int .i64 t_3, .int .i64 t_4, .int .i64 t_5, .bool t_6, .int .i64 t_7, .int .i64 t_8, .slice t_9 t_9n t_9c] T_api_Text fun r_10 h_11 =>
newC h_11 [.int .i64 0, .int .i64 0, .int .i64 0, .int .i64 0, .int .i64 0, .bool false, .int .i64 0, .int .i64 0, .slice none 0 0] T_api_Text fun r_12 h_13 =>
ldI h_13 ((⟨r_10,0,none⟩:Addr).add 0) .i64 fun x_14 =>
ldI h_13 ((⟨r_10,0,none⟩:Addr).add 1) .i64 fun x_15 =>
ldI h_13 ((⟨r_10,0,none⟩:Addr).add 2) .i64 fun x_16 =>
ldI h_13 ((⟨r_10,0,none⟩:Addr).add 3) .i64 fun x_17 =>
ldI h_13 ((⟨r_10,0,none⟩:Addr).add 4) .i64 fun x_18 =>
ldB h_13 ((⟨r_10,0,none⟩:Addr).add 5) fun x_19 =>
ldI h_13 ((⟨r_10,0,none⟩:Addr).add 6) .i64 fun x_20 =>
ldI h_13 ((⟨r_10,0,none⟩:Addr).add 7) .i64 fun x_21 =>
ldS h_13 ((⟨r_10,0,none⟩:Addr).add 8) fun x_22 x_22n x_22c =>
newC h_13 [.int .i64 0, .int .i64 0, .int .i64 0, .int .i64 0, .int .i64 0, .bool false, .int .i64 0, .int .i64 0, .slice none 0 0] T_api_Text fun r_23 h_24 =>
stVs h_24 (⟨r_23,0,none⟩:Addr) 0 [.int .i64 x_14, .int .i64 x_15, .int .i64 x_16, .int .i64 x_17, .int .i64 x_18, .bool x_19, .int .i64 x_20, .int .i64 x_21, .slice x_22 x_22n x_22c] fun h_25 =>
stV h_25 ((⟨r_23,0,none⟩:Addr).add 8) (.slice none 0 0) fun h_26 =>
∃ J_27:Nat->List Value->Heap->Prop,(∃ n_29,J_27 n_29 [.int .i64 0] h_26)/\∀ (n_29:Nat) (h_30:Heap) (u_31:Nat->Value) (i_32:Int),J_27 n_29 [.int .i64 i_32] h_30->(
ldS h_30 ((⟨r_10,0,none⟩:Addr).add 8) fun x_33 x_33n x_33c =>
bcase (decide (i_32<(x_33n:Int))) (
ldS h_30 ((⟨r_10,0,none⟩:Addr).add 8) fun x_34 x_34n x_34c =>
needs (0<=i_32/\i_32<(x_34n:Int)) <|
ptr x_34 fun a_35 =>
ldI h_30 ((a_35.add (i_32.toNat*7)).add 0) .i64 fun x_36 =>
ldI h_30 ((a_35.add (i_32.toNat*7)).add 1) .i64 fun x_37 =>
ldI h_30 ((a_35.add (i_32.toNat*7)).add 2) .i64 fun x_38 =>
ldB h_30 ((a_35.add (i_32.toNat*7)).add 3) fun x_39 =>
ldI h_30 ((a_35.add (i_32.toNat*7)).add 4) .i64 fun x_40 =>
ldI h_30 ((a_35.add (i_32.toNat*7)).add 5) .i64 fun x_41 =>
ldS h_30 ((a_35.add (i_32.toNat*7)).add 6) fun x_42 x_42n x_42c =>
newC h_30 [.int .i64 0, .int .i64 0, .int .i64 0, .bool false, .int .i64 0, .int .i64 0, .slice none 0 0] T_api_Instance fun r_43 h_44 =>
stV h_44 ((⟨r_43,0,none⟩:Addr).add 0) (.int .i64 x_36) fun h_45 =>
stV h_45 ((⟨r_43,0,none⟩:Addr).add 1) (.int .i64 x_37) fun h_46 =>
stV h_46 ((⟨r_43,0,none⟩:Addr).add 2) (.int .i64 x_38) fun h_47 =>
stV h_47 ((⟨r_43,0,none⟩:Addr).add 3) (.bool x_39) fun h_48 =>
stV h_48 ((⟨r_43,0,none⟩:Addr).add 4) (.int .i64 x_40) fun h_49 =>
stV h_49 ((⟨r_43,0,none⟩:Addr).add 5) (.int .i64 x_41) fun h_50 =>
stV h_50 ((⟨r_43,0,none⟩:Addr).add 6) (.slice x_42 x_42n x_42c) fun h_51 =>
ldI h_51 (((⟨r_43,0,none⟩:Addr).add 4).add 0) .i64 fun x_52 =>
ldI h_51 (((⟨r_43,0,none⟩:Addr).add 4).add 1) .i64 fun x_53 =>
ldS h_51 (((⟨r_43,0,none⟩:Addr).add 4).add 2) fun x_54 x_54n x_54c =>
C F_burinref0_CopyBitmap #[.agg #[.int .i64 x_52, .int .i64 x_53, .slice x_54 x_54n x_54c]] h_51 (fun v_55 h_56 =>
∃ (r_57:Int) (r_58:Int) (r_59:Option Addr) (r_59n:Nat) (r_59c:Nat),v_55 = .agg #[.int .i64 r_57, .int .i64 r_58, .slice r_59 r_59n r_59c]/\(
stV h_56 (((⟨r_43,0,none⟩:Addr).add 4).add 0) (.int .i64 r_57) fun h_60 =>
stV h_60 (((⟨r_43,0,none⟩:Addr).add 4).add 1) (.int .i64 r_58) fun h_61 =>
stV h_61 (((⟨r_43,0,none⟩:Addr).add 4).add 2) (.slice r_59 r_59n r_59c) fun h_62 =>
ldS h_62 ((⟨r_23,0,none⟩:Addr).add 8) fun x_63 x_63n x_63c =>
ldI h_62 ((⟨r_43,0,none⟩:Addr).add 0) .i64 fun x_64 =>
ldI h_62 ((⟨r_43,0,none⟩:Addr).add 1) .i64 fun x_65 =>
ldI h_62 ((⟨r_43,0,none⟩:Addr).add 2) .i64 fun x_66 =>
ldB h_62 ((⟨r_43,0,none⟩:Addr).add 3) fun x_67 =>
ldI h_62 ((⟨r_43,0,none⟩:Addr).add 4) .i64 fun x_68 =>
ldI h_62 ((⟨r_43,0,none⟩:Addr).add 5) .i64 fun x_69 =>
ldS h_62 ((⟨r_43,0,none⟩:Addr).add 6) fun x_70 x_70n x_70c =>
newC h_62 [.int .i64 x_64, .int .i64 x_65, .int .i64 x_66, .bool x_67, .int .i64 x_68, .int .i64 x_69, .slice x_70 x_70n x_70c] T_api_Instance fun r_71 h_72 =>
appC h_72 T_api_Instance 7 72 [.int .i64 0, .int .i64 0, .int .i64 0, .bool false, .int .i64 0, .int .i64 0, .slice none 0 0] x_63 (x_63n) (x_63c) (some ⟨r_71,0,none⟩) (1) fun q_73 q_73n q_73c h_74 =>
stV h_74 ((⟨r_23,0,none⟩:Addr).add 8) (.slice q_73 q_73n q_73c) fun h_75 =>
bindI (IntKind.i64.wrap (i_32+(1:Int))) fun z_76 =>
∃ m_28,m_28<n_29/\J_27 m_28 [.int .i64 z_76] h_75)) (Kp)) <|
ldI h_30 ((⟨r_23,0,none⟩:Addr).add 0) .i64 fun x_77 =>
ldI h_30 ((⟨r_23,0,none⟩:Addr).add 1) .i64 fun x_78 =>
ldI h_30 ((⟨r_23,0,none⟩:Addr).add 2) .i64 fun x_79 =>
ldI h_30 ((⟨r_23,0,none⟩:Addr).add 3) .i64 fun x_80 =>
ldI h_30 ((⟨r_23,0,none⟩:Addr).add 4) .i64 fun x_81 =>
ldB h_30 ((⟨r_23,0,none⟩:Addr).add 5) fun x_82 =>
ldI h_30 ((⟨r_23,0,none⟩:Addr).add 6) .i64 fun x_83 =>
ldI h_30 ((⟨r_23,0,none⟩:Addr).add 7) .i64 fun x_84 =>
ldS h_30 ((⟨r_23,0,none⟩:Addr).add 8) fun x_85 x_85n x_85c =>
stVs h_30 (⟨r_12,0,none⟩:Addr) 0 [.int .i64 x_77, .int .i64 x_78, .int .i64 x_79, .int .i64 x_80, .int .i64 x_81, .bool x_82, .int .i64 x_83, .int .i64 x_84, .slice x_85 x_85n x_85c] fun h_86 =>
ldI h_86 ((⟨r_12,0,none⟩:Addr).add 0) .i64 fun r_87 =>
ldI h_86 ((⟨r_12,0,none⟩:Addr).add 1) .i64 fun r_88 =>
ldI h_86 ((⟨r_12,0,none⟩:Addr).add 2) .i64 fun r_89 =>
ldI h_86 ((⟨r_12,0,none⟩:Addr).add 3) .i64 fun r_90 =>
ldI h_86 ((⟨r_12,0,none⟩:Addr).add 4) .i64 fun r_91 =>
ldB h_86 ((⟨r_12,0,none⟩:Addr).add 5) fun r_92 =>
ldI h_86 ((⟨r_12,0,none⟩:Addr).add 6) .i64 fun r_93 =>
ldI h_86 ((⟨r_12,0,none⟩:Addr).add 7) .i64 fun r_94 =>
ldS h_86 ((⟨r_12,0,none⟩:Addr).add 8) fun r_95 r_95n r_95c =>
K (.agg #[.int .i64 r_87, .int .i64 r_88, .int .i64 r_89, .int .i64 r_90, .int .i64 r_91, .bool r_92, .int .i64 r_93, .int .i64 r_94, .slice r_95 r_95n r_95c]) h_86)
def burinref0_EqBitmap (C:CallP) (a_1:Int) (a_2:Int) (a_3:Option Addr) (a_3n:Nat) (a_3c:Nat) (b_4:Int) (b_5:Int) (b_6:Option Addr) (b_6n:Nat) (b_6c:Nat) (h:Heap) (K:VK) (Kp:PK):Prop :=
newC h [.int .i64 a_1, .int .i64 a_2, .slice a_3 a_3n a_3c] T_api_Bitmap fun r_7 h_8 =>
newC h_8 [.int .i64 b_4, .int .i64 b_5, .slice b_6 b_6n b_6c] T_api_Bitmap fun r_9 h_10 =>
ldI h_10 ((⟨r_7,0,none⟩:Addr).add 0) .i64 fun x_11 =>
ldI h_10 ((⟨r_9,0,none⟩:Addr).add 0) .i64 fun x_12 =>
bcase (x_11 == x_12) (
ldI h_10 ((⟨r_7,0,none⟩:Addr).add 1) .i64 fun x_13 =>
ldI h_10 ((⟨r_9,0,none⟩:Addr).add 1) .i64 fun x_14 =>
bcase (x_13 == x_14) (
ldS h_10 ((⟨r_7,0,none⟩:Addr).add 2) fun x_15 x_15n x_15c =>
ldS h_10 ((⟨r_9,0,none⟩:Addr).add 2) fun x_16 x_16n x_16c =>
C F_burinref0_EqWords #[.slice x_15 x_15n x_15c, .slice x_16 x_16n x_16c] h_10 (fun v_17 h_18 =>
∃ (r_19:Bool),v_17 = .bool r_19/\(
K (.bool r_19) h_18)) (Kp)) <|
K (.bool false) h_10) <|
K (.bool false) h_10
def burinref0_May (C:CallP) (b_1:Int) (b_2:Int) (b_3:Option Addr) (b_3n:Nat) (b_3c:Nat) (h:Heap) (K:VK) (Kp:PK):Prop :=
newC h [.int .i64 b_1, .int .i64 b_2, .slice b_3 b_3n b_3c] T_api_Bitmap fun r_4 h_5 =>
ldI h_5 ((⟨r_4,0,none⟩:Addr).add 0) .i64 fun x_6 =>
ldI h_5 ((⟨r_4,0,none⟩:Addr).add 1) .i64 fun x_7 =>
C F_burinref0_Size #[.int .i64 x_6, .int .i64 x_7] h_5 (fun v_8 h_9 =>
∃ (r_10:Bool),v_8 = .bool r_10/\(
bcase (!r_10) (
hext h_9 h_9/\(
K (.bool false) h_9)) <|
ldS h_9 ((⟨r_4,0,none⟩:Addr).add 2) fun x_11 x_11n x_11c =>
ldI h_9 ((⟨r_4,0,none⟩:Addr).add 1) .i64 fun x_12 =>
ldI h_9 ((⟨r_4,0,none⟩:Addr).add 0) .i64 fun x_13 =>
C F_burinref0_words #[.int .i64 x_13] h_9 (fun v_14 h_15 =>
∃ (r_16:Int),v_14 = .int .i64 r_16/\(
hext h_9 h_15/\(
bindI (IntKind.i64.wrap (x_12*r_16)) fun z_17 =>
bcase ((x_11n:Int) != z_17) (
K (.bool false) h_15) <|
ldI h_15 ((⟨r_4,0,none⟩:Addr).add 0) .i64 fun x_18 =>
bindI (x_18.tmod (64:Int)) fun z_19 =>
bcase (z_19 == (0:Int)) (
K (.bool true) h_15) <|
∃ J_20:Nat->List Value->Heap->Prop,(∃ n_22,J_20 n_22 [.int .i64 0] h_15)/\∀ (n_22:Nat) (h_23:Heap) (u_24:Nat->Value) (y_25:Int),J_20 n_22 [.int .i64 y_25] h_23->(
ldI h_23 ((⟨r_4,0,none⟩:Addr).add 1) .i64 fun x_26 =>
bcase (decide (y_25<x_26)) (
bindI (IntKind.i64.wrap (y_25+(1:Int))) fun z_27 =>
ldS h_23 ((⟨r_4,0,none⟩:Addr).add 2) fun x_28 x_28n x_28c =>
ldI h_23 ((⟨r_4,0,none⟩:Addr).add 0) .i64 fun x_29 =>
ldI h_23 ((⟨r_4,0,none⟩:Addr).add 0) .i64 fun x_30 =>
bindI (x_30.tmod (64:Int)) fun z_31 =>
bindI (IntKind.u64.wrap z_31) fun z_32 =>
C F_burinref0_words #[.int .i64 x_29] h_23 (fun v_33 h_34 =>
∃ (r_35:Int),v_33 = .int .i64 r_35/\(
hext h_23 h_34/\(
bindI (IntKind.i64.wrap (z_27*r_35)) fun z_36 =>
bindI (IntKind.i64.wrap (z_36-(1:Int))) fun z_37 =>
needs (0<=z_37/\z_37<(x_28n:Int)) <|
ptr x_28 fun a_38 =>
ldI h_34 (a_38.add (z_37.toNat*1)) .u64 fun x_39 =>
needs (0<=z_32) <|
bindI (shlI .u64 x_39 z_32) fun z_40 =>
bcase (z_40 != (0:Int)) (
K (.bool false) h_34) <|
bindI (IntKind.i64.wrap (y_25+(1:Int))) fun z_41 =>
∃ m_21,m_21<n_22/\J_20 m_21 [.int .i64 z_41] h_34))) (Kp)) <|
K (.bool true) h_23)))) (Kp))) (Kp)
def burinref0_Get (C:CallP) (b_1:Int) (b_2:Int) (b_3:Option Addr) (b_3n:Nat) (b_3c:Nat) (x:Int) (y:Int) (h:Heap) (K:VK) (Kp:PK):Prop :=
newC h [.int .i64 b_1, .int .i64 b_2, .slice b_3 b_3n b_3c] T_api_Bitmap fun r_4 h_5 =>
bcase (decide (x<(0:Int))) (
K (.int .i64 0) h_5) <|
bcase (decide (y<(0:Int))) (
K (.int .i64 0) h_5) <|
ldI h_5 ((⟨r_4,0,none⟩:Addr).add 0) .i64 fun x_6 =>
bcase (decide (x≥x_6)) (
K (.int .i64 0) h_5) <|
ldI h_5 ((⟨r_4,0,none⟩:Addr).add 1) .i64 fun x_7 =>
bcase (decide (y≥x_7)) (
K (.int .i64 0) h_5) <|
bindI (IntKind.i64.wrap (x.tdiv (64:Int))) fun z_8 =>
bindI (x.tmod (64:Int)) fun z_9 =>
bindI (IntKind.i64.wrap ((63:Int)-z_9)) fun z_10 =>
bindI (IntKind.u64.wrap z_10) fun z_11 =>
ldS h_5 ((⟨r_4,0,none⟩:Addr).add 2) fun x_12 x_12n x_12c =>
ldI h_5 ((⟨r_4,0,none⟩:Addr).add 0) .i64 fun x_13 =>
C F_burinref0_words #[.int .i64 x_13] h_5 (fun v_14 h_15 =>
∃ (r_16:Int),v_14 = .int .i64 r_16/\(
hext h_5 h_15/\(
bindI (IntKind.i64.wrap (y*r_16)) fun z_17 =>
bindI (IntKind.i64.wrap (z_17+z_8)) fun z_18 =>
needs (0<=z_18/\z_18<(x_12n:Int)) <|
ptr x_12 fun a_19 =>
ldI h_15 (a_19.add (z_18.toNat*1)) .u64 fun x_20 =>
needs (0<=z_11) <|
bindI (shrI .u64 x_20 z_11) fun z_21 =>
bindI (bitI .and .u64 z_21 (1:Int)) fun z_22 =>
bindI (IntKind.i64.wrap z_22) fun z_23 =>
K (.int .i64 z_23) h_15))) (Kp)
def burinref0_CopyBitmap (C:CallP) (b_1:Int) (b_2:Int) (b_3:Option Addr) (b_3n:Nat) (b_3c:Nat) (h:Heap) (K:VK) (Kp:PK):Prop :=
newC h [.int .i64 b_1, .int .i64 b_2, .slice b_3 b_3n b_3c] T_api_Bitmap fun r_4 h_5 =>
newC h_5 [.int .i64 0, .int .i64 0, .slice none 0 0] T_api_Bitmap fun r_6 h_7 =>
ldI h_7 ((⟨r_4,0,none⟩:Addr).add 0) .i64 fun x_8 =>
ldI h_7 ((⟨r_4,0,none⟩:Addr).add 1) .i64 fun x_9 =>
ldS h_7 ((⟨r_4,0,none⟩:Addr).add 2) fun x_10 x_10n x_10c =>
appC h_7 T_uint64 1 8 [.int .u64 0] none (0) (0) x_10 (x_10n) fun q_11 q_11n q_11c h_12 =>
hext h_7 h_12/\(
stV h_12 ((⟨r_6,0,none⟩:Addr).add 0) (.int .i64 x_8) fun h_13 =>
stV h_13 ((⟨r_6,0,none⟩:Addr).add 1) (.int .i64 x_9) fun h_14 =>
stV h_14 ((⟨r_6,0,none⟩:Addr).add 2) (.slice q_11 q_11n q_11c) fun h_15 =>
ldI h_15 ((⟨r_6,0,none⟩:Addr).add 0) .i64 fun r_16 =>
ldI h_15 ((⟨r_6,0,none⟩:Addr).add 1) .i64 fun r_17 =>
ldS h_15 ((⟨r_6,0,none⟩:Addr).add 2) fun r_18 r_18n r_18c =>
K (.agg #[.int .i64 r_16, .int .i64 r_17, .slice r_18 r_18n r_18c]) h_15)
def burinref0_Size (C:CallP) (w:Int) (h':Int) (h:Heap) (K:VK) (Kp:PK):Prop :=
bcase (decide (w≥(1:Int))) (
bcase (decide (h'≥(1:Int))) (
bcase (decide (w<=(1048576:Int))) (
needs (IntKind.i64=IntKind.i64/\w≠0) <|
bindI (IntKind.i64.wrap ((1048576:Int).tdiv w)) fun z_1 =>
K (.bool (decide (h'<=z_1))) h) <|
K (.bool false) h) <|
K (.bool false) h) <|
K (.bool false) h
def burinref0_EqWords (C:CallP) (a:Option Addr) (an:Nat) (ac:Nat) (b:Option Addr) (bn:Nat) (bc:Nat) (h:Heap) (K:VK) (Kp:PK):Prop :=
bcase ((an:Int) != (bn:Int)) (
K (.bool false) h) <|
∃ J_1:Nat->List Value->Heap->Prop,(∃ n_3,J_1 n_3 [.int .i64 0] h)/\∀ (n_3:Nat) (h_4:Heap) (u_5:Nat->Value) (i_6:Int),J_1 n_3 [.int .i64 i_6] h_4->(
bcase (decide (i_6<(an:Int))) (
needs (0<=i_6/\i_6<(an:Int)) <|
ptr a fun a_7 =>
needs (0<=i_6/\i_6<(bn:Int)) <|
ptr b fun a_8 =>
ldI h_4 (a_7.add (i_6.toNat*1)) .u64 fun x_9 =>
ldI h_4 (a_8.add (i_6.toNat*1)) .u64 fun x_10 =>
bcase (x_9 != x_10) (
K (.bool false) h_4) <|
bindI (IntKind.i64.wrap (i_6+(1:Int))) fun z_11 =>
∃ m_2,m_2<n_3/\J_1 m_2 [.int .i64 z_11] h_4) <|
K (.bool true) h_4)
def burinref0_words (C:CallP) (w:Int) (h:Heap) (K:VK) (Kp:PK):Prop :=
bindI (IntKind.i64.wrap (w+(63:Int))) fun z_1 =>
bindI (IntKind.i64.wrap (z_1.tdiv (64:Int))) fun z_2 =>
K (.int .i64 z_2) h
end Go.Den.YtbknfejmdekhpaaGreat
namespace Go.Den.YtbknfejmdekhpaaGreat
open Go Go.Den
theorem call_burinref0_CopyText {t_1:Int} {t_2:Int} {t_3:Int} {t_4:Int} {t_5:Int} {t_6:Bool} {t_7:Int} {t_8:Int} {t_9:Option Addr} {t_9n:Nat} {t_9c:Nat} {h:Heap} {K:VK} {Kp:PK} (H:burinref0_CopyText (CallsHP Go.Proofs.Tryz.prog) t_1 t_2 t_3 t_4 t_5 t_6 t_7 t_8 t_9 t_9n t_9c h K Kp):CallsHP Go.Proofs.Tryz.prog F_burinref0_CopyText #[.agg #[.int .i64 t_1, .int .i64 t_2, .int .i64 t_3, .int .i64 t_4, .int .i64 t_5, .bool t_6, .int .i64 t_7, .int .i64 t_8, .slice t_9 t_9n t_9c]] h K Kp :=
 callsHP_ofE (Hints.mk (fun i=>none) (fun i=>bif Nat.beq i 4 then some ([(4, .int .i64)],1073741616) else (none)) (fun i=>none) []) (by kernel_rfl) Go.Proofs.Tryz.func13 (by kernel_rfl) (fun C=>burinref0_CopyText C t_1 t_2 t_3 t_4 t_5 t_6 t_7 t_8 t_9 t_9n t_9c h K Kp) (fun C=>by kernel_rfl) H
theorem call_burinref0_EqBitmap {a_1:Int} {a_2:Int} {a_3:Option Addr} {a_3n:Nat} {a_3c:Nat} {b_4:Int} {b_5:Int} {b_6:Option Addr} {b_6n:Nat} {b_6c:Nat} {h:Heap} {K:VK} {Kp:PK} (H:burinref0_EqBitmap (CallsHP Go.Proofs.Tryz.prog) a_1 a_2 a_3 a_3n a_3c b_4 b_5 b_6 b_6n b_6c h K Kp):CallsHP Go.Proofs.Tryz.prog F_burinref0_EqBitmap #[.agg #[.int .i64 a_1, .int .i64 a_2, .slice a_3 a_3n a_3c], .agg #[.int .i64 b_4, .int .i64 b_5, .slice b_6 b_6n b_6c]] h K Kp :=
 callsHP_ofE (Hints.mk (fun i=>none) (fun i=>none) (fun i=>none) []) (by kernel_rfl) Go.Proofs.Tryz.func21 (by kernel_rfl) (fun C=>burinref0_EqBitmap C a_1 a_2 a_3 a_3n a_3c b_4 b_5 b_6 b_6n b_6c h K Kp) (fun C=>by kernel_rfl) H
theorem call_burinref0_May {b_1:Int} {b_2:Int} {b_3:Option Addr} {b_3n:Nat} {b_3c:Nat} {h:Heap} {K:VK} {Kp:PK} (H:burinref0_May (CallsHP Go.Proofs.Tryz.prog) b_1 b_2 b_3 b_3n b_3c h K Kp):CallsHP Go.Proofs.Tryz.prog F_burinref0_May #[.agg #[.int .i64 b_1, .int .i64 b_2, .slice b_3 b_3n b_3c]] h K Kp :=
 callsHP_ofE (Hints.mk (fun i=>bif Nat.beq i 1 then some ([4,14], .take 0 <| .take 2 <| .take 1 <| .take 3 <| .bar 4 [] <| .take 5 <| .take 6 <| .take 7 <| .take 10 <| .take 12 <| .take 8 <| .take 9 <| .take 11 <| .take 13 <| .go 14 <| .take 15 <| .take 16 <| .take 17 <| .done) else (bif Nat.beq i 8 then some ([], .take 0 <| .take 2 <| .take 3 <| .take 4 <| .take 11 <| .take 1 <| .take 5 <| .take 12 <| .take 13 <| .take 14 <| .go 6 <| .take 7 <| .take 8 <| .take 9 <| .take 10 <| .take 15 <| .take 16 <| .done) else (none))) (fun i=>bif Nat.beq i 6 then some ([(3, .int .i64)],562949886312460) else (none)) (fun i=>none) []) (by kernel_rfl) Go.Proofs.Tryz.func36 (by kernel_rfl) (fun C=>burinref0_May C b_1 b_2 b_3 b_3n b_3c h K Kp) (fun C=>by kernel_rfl) H
theorem call_burinref0_Get {b_1:Int} {b_2:Int} {b_3:Option Addr} {b_3n:Nat} {b_3c:Nat} {x:Int} {y:Int} {h:Heap} {K:VK} {Kp:PK} (H:burinref0_Get (CallsHP Go.Proofs.Tryz.prog) b_1 b_2 b_3 b_3n b_3c x y h K Kp):CallsHP Go.Proofs.Tryz.prog F_burinref0_Get #[.agg #[.int .i64 b_1, .int .i64 b_2, .slice b_3 b_3n b_3c], .int .i64 x, .int .i64 y] h K Kp :=
 callsHP_ofE (Hints.mk (fun i=>bif Nat.beq i 3 then some ([], .take 0 <| .take 2 <| .take 3 <| .take 7 <| .take 8 <| .take 12 <| .take 13 <| .take 14 <| .take 15 <| .take 1 <| .take 4 <| .go 5 <| .take 6 <| .take 9 <| .take 10 <| .take 11 <| .take 16 <| .take 17 <| .take 18 <| .take 19 <| .done) else (none)) (fun i=>none) (fun i=>none) []) (by kernel_rfl) Go.Proofs.Tryz.func37 (by kernel_rfl) (fun C=>burinref0_Get C b_1 b_2 b_3 b_3n b_3c x y h K Kp) (fun C=>by kernel_rfl) H
theorem call_burinref0_CopyBitmap {b_1:Int} {b_2:Int} {b_3:Option Addr} {b_3n:Nat} {b_3c:Nat} {h:Heap} {K:VK} {Kp:PK} (H:burinref0_CopyBitmap (CallsHP Go.Proofs.Tryz.prog) b_1 b_2 b_3 b_3n b_3c h K Kp):CallsHP Go.Proofs.Tryz.prog F_burinref0_CopyBitmap #[.agg #[.int .i64 b_1, .int .i64 b_2, .slice b_3 b_3n b_3c]] h K Kp :=
 callsHP_ofE (Hints.mk (fun i=>bif Nat.beq i 2 then some ([9], .take 0 <| .take 2 <| .take 4 <| .take 5 <| .take 1 <| .take 3 <| .take 6 <| .go 7 <| .take 8 <| .bar 9 [] <| .done) else (none)) (fun i=>none) (fun i=>none) []) (by kernel_rfl) Go.Proofs.Tryz.func38 (by kernel_rfl) (fun C=>burinref0_CopyBitmap C b_1 b_2 b_3 b_3n b_3c h K Kp) (fun C=>by kernel_rfl) H
theorem call_burinref0_Size {w:Int} {h':Int} {h:Heap} {K:VK} {Kp:PK} (H:burinref0_Size (CallsHP Go.Proofs.Tryz.prog) w h' h K Kp):CallsHP Go.Proofs.Tryz.prog F_burinref0_Size #[.int .i64 w, .int .i64 h'] h K Kp :=
 callsHP_ofE (Hints.mk (fun i=>none) (fun i=>none) (fun i=>none) []) (by kernel_rfl) Go.Proofs.Tryz.func42 (by kernel_rfl) (fun C=>burinref0_Size C w h' h K Kp) (fun C=>by kernel_rfl) H
theorem call_burinref0_EqWords {a:Option Addr} {an:Nat} {ac:Nat} {b:Option Addr} {bn:Nat} {bc:Nat} {h:Heap} {K:VK} {Kp:PK} (H:burinref0_EqWords (CallsHP Go.Proofs.Tryz.prog) a an ac b bn bc h K Kp):CallsHP Go.Proofs.Tryz.prog F_burinref0_EqWords #[.slice a an ac, .slice b bn bc] h K Kp :=
 callsHP_ofE (Hints.mk (fun i=>bif Nat.beq i 6 then some ([], .take 0 <| .take 1 <| .take 2 <| .take 4 <| .take 5 <| .take 6 <| .take 3 <| .take 7 <| .take 8 <| .done) else (none)) (fun i=>bif Nat.beq i 4 then some ([(5, .int .i64)],67106864) else (none)) (fun i=>none) []) (by kernel_rfl) Go.Proofs.Tryz.func70 (by kernel_rfl) (fun C=>burinref0_EqWords C a an ac b bn bc h K Kp) (fun C=>by kernel_rfl) H
theorem call_burinref0_words {w:Int} {h:Heap} {K:VK} {Kp:PK} (H:burinref0_words (CallsHP Go.Proofs.Tryz.prog) w h K Kp):CallsHP Go.Proofs.Tryz.prog F_burinref0_words #[.int .i64 w] h K Kp :=
 callsHP_ofE (Hints.mk (fun i=>none) (fun i=>none) (fun i=>none) []) (by kernel_rfl) Go.Proofs.Tryz.func89 (by kernel_rfl) (fun C=>burinref0_words C w h K Kp) (fun C=>by kernel_rfl) H
end Go.Den.YtbknfejmdekhpaaGreat
namespace Go.Den.YtbknfejmdekhpaaGreat
open Go Go.Den
def slices_Clone_api_Instance_api_Instance (C:CallP) (s:Option Addr) (sn:Nat) (sc:Nat) (h:Heap) (K:VK) (Kp:PK):Prop :=
bcase (Option.isNone s) (
K (.slice none 0 0) h) <|
newC h [] T_api_Instance fun r_1 h_2 =>
appC h_2 T_api_Instance 7 72 [.int .i64 0, .int .i64 0, .int .i64 0, .bool false, .int .i64 0, .int .i64 0, .slice none 0 0] (some ⟨r_1,0,none⟩) (0) (0) s (sn) fun q_3 q_3n q_3c h_4 =>
K (.slice q_3 q_3n q_3c) h_4
def slices_Clone_uint64_uint64 (C:CallP) (s:Option Addr) (sn:Nat) (sc:Nat) (h:Heap) (K:VK) (Kp:PK):Prop :=
bcase (Option.isNone s) (
K (.slice none 0 0) h) <|
newC h [] T_uint64 fun r_1 h_2 =>
appC h_2 T_uint64 1 8 [.int .u64 0] (some ⟨r_1,0,none⟩) (0) (0) s (sn) fun q_3 q_3n q_3c h_4 =>
K (.slice q_3 q_3n q_3c) h_4
def slices_SortStableFunc_api_Instance_api_Instance (C:CallP) (x:Option Addr) (xn:Nat) (xc:Nat) (cmp:Value) (h:Heap) (K:VK) (Kp:PK):Prop :=
C F_slices_stableCmpFunc_api_Instance #[.slice x xn xc, .int .i64 (xn:Int),cmp] h (fun v_1 h_2 =>
K (.tuple #[]) h_2) (Kp)
def slices_ContainsFunc_api_Bitmap_api_Bitmap (C:CallP) (s:Option Addr) (sn:Nat) (sc:Nat) (f:Value) (h:Heap) (K:VK) (Kp:PK):Prop :=
C F_slices_IndexFunc_api_Bitmap_api_Bitmap #[.slice s sn sc,f] h (fun v_1 h_2 =>
∃ (r_3:Int),v_1 = .int .i64 r_3/\(
K (.bool (decide (r_3≥(0:Int)))) h_2)) (Kp)
def slices_stableCmpFunc_api_Instance (C:CallP) (data:Option Addr) (datan:Nat) (datac:Nat) (n:Int) (cmp:Value) (h:Heap) (K:VK) (Kp:PK):Prop :=
∃ J_1:Nat->List Value->Heap->Prop,(∃ n_3,J_1 n_3 [.int .i64 0, .int .i64 20] h)/\∀ (n_3:Nat) (h_4:Heap) (u_5:Nat->Value) (a_6:Int) (b_7:Int),J_1 n_3 [.int .i64 a_6, .int .i64 b_7] h_4->(
bcase (decide (b_7<=n)) (
C F_slices_insertionSortCmpFunc_api_Instance #[.slice data datan datac, .int .i64 a_6, .int .i64 b_7,cmp] h_4 (fun v_8 h_9 =>
bindI (IntKind.i64.wrap (b_7+(20:Int))) fun z_10 =>
∃ m_2,m_2<n_3/\J_1 m_2 [.int .i64 b_7, .int .i64 z_10] h_9) (Kp)) <|
C F_slices_insertionSortCmpFunc_api_Instance #[.slice data datan datac, .int .i64 a_6, .int .i64 n,cmp] h_4 (fun v_11 h_12 =>
∃ J_13:Nat->List Value->Heap->Prop,(∃ n_15,J_13 n_15 [.int .i64 20] h_12)/\∀ (n_15:Nat) (h_16:Heap) (u_17:Nat->Value) (blockSize_18:Int),J_13 n_15 [.int .i64 blockSize_18] h_16->(
bcase (decide (blockSize_18<n)) (
bindI (IntKind.i64.wrap ((2:Int)*blockSize_18)) fun z_19 =>
∃ J_20:Nat->List Value->Heap->Prop,(∃ n_22,J_20 n_22 [.int .i64 0, .int .i64 z_19] h_16)/\∀ (n_22:Nat) (h_23:Heap) (u_24:Nat->Value) (a_25:Int) (b_26:Int),J_20 n_22 [.int .i64 a_25, .int .i64 b_26] h_23->(
bcase (decide (b_26<=n)) (
bindI (IntKind.i64.wrap (a_25+blockSize_18)) fun z_27 =>
C F_slices_symMergeCmpFunc_api_Instance #[.slice data datan datac, .int .i64 a_25, .int .i64 z_27, .int .i64 b_26,cmp] h_23 (fun v_28 h_29 =>
bindI (IntKind.i64.wrap ((2:Int)*blockSize_18)) fun z_30 =>
bindI (IntKind.i64.wrap (b_26+z_30)) fun z_31 =>
∃ m_21,m_21<n_22/\J_20 m_21 [.int .i64 b_26, .int .i64 z_31] h_29) (Kp)) <|
bindI (IntKind.i64.wrap (a_25+blockSize_18)) fun z_32 =>
bcase (decide (z_32<n)) (
C F_slices_symMergeCmpFunc_api_Instance #[.slice data datan datac, .int .i64 a_25, .int .i64 z_32, .int .i64 n,cmp] h_23 (fun v_33 h_34 =>
bindI (IntKind.i64.wrap (blockSize_18*(2:Int))) fun z_35 =>
∃ m_14,m_14<n_15/\J_13 m_14 [.int .i64 z_35] h_34) (Kp)) <|
bindI (IntKind.i64.wrap (blockSize_18*(2:Int))) fun z_36 =>
∃ m_14,m_14<n_15/\J_13 m_14 [.int .i64 z_36] h_23)) <|
K (.tuple #[]) h_16)) (Kp))
def slices_IndexFunc_api_Bitmap_api_Bitmap (C:CallP) (s:Option Addr) (sn:Nat) (sc:Nat) (f:Value) (h:Heap) (K:VK) (Kp:PK):Prop :=
∃ J_1:Nat->List Value->Heap->Prop,(∃ n_3,J_1 n_3 [.int .i64 0] h)/\∀ (n_3:Nat) (h_4:Heap) (u_5:Nat->Value) (x_6:Int),J_1 n_3 [.int .i64 x_6] h_4->(
bcase (decide (x_6<(sn:Int))) (
needs (0<=x_6/\x_6<(sn:Int)) <|
ptr s fun a_7 =>
ldI h_4 ((a_7.add (x_6.toNat*3)).add 0) .i64 fun x_8 =>
ldI h_4 ((a_7.add (x_6.toNat*3)).add 1) .i64 fun x_9 =>
ldS h_4 ((a_7.add (x_6.toNat*3)).add 2) fun x_10 x_10n x_10c =>
callD C (Kp) f [.agg #[.int .i64 x_8, .int .i64 x_9, .slice x_10 x_10n x_10c]] h_4 fun v_11 h_12 =>
∃ (r_13:Bool),v_11 = .bool r_13/\(
bcase r_13 (
K (.int .i64 x_6) h_12) <|
bindI (IntKind.i64.wrap (x_6+(1:Int))) fun z_14 =>
∃ m_2,m_2<n_3/\J_1 m_2 [.int .i64 z_14] h_12)) <|
K (.int .i64 (-1)) h_4)
def slices_ContainsFunc_api_Instance_api_Instance (C:CallP) (s:Option Addr) (sn:Nat) (sc:Nat) (f:Value) (h:Heap) (K:VK) (Kp:PK):Prop :=
C F_slices_IndexFunc_api_Instance_api_Instance #[.slice s sn sc,f] h (fun v_1 h_2 =>
∃ (r_3:Int),v_1 = .int .i64 r_3/\(
K (.bool (decide (r_3≥(0:Int)))) h_2)) (Kp)
def slices_insertionSortCmpFunc_api_Instance (C:CallP) (data:Option Addr) (datan:Nat) (datac:Nat) (a:Int) (b:Int) (cmp:Value) (h:Heap) (K:VK) (Kp:PK):Prop :=
bindI (IntKind.i64.wrap (a+(1:Int))) fun z_1 =>
∃ J_2:Nat->List Value->Heap->Prop,(∃ n_4,J_2 n_4 [.int .i64 z_1] h)/\∀ (n_4:Nat) (h_5:Heap) (u_6:Nat->Value) (i_7:Int),J_2 n_4 [.int .i64 i_7] h_5->(
bcase (decide (i_7<b)) (
∃ J_8:Nat->List Value->Heap->Prop,(∃ n_10,J_8 n_10 [.int .i64 i_7] h_5)/\∀ (n_10:Nat) (h_11:Heap) (u_12:Nat->Value) (j_13:Int),J_8 n_10 [.int .i64 j_13] h_11->(
bcase (decide (j_13 > a)) (
needs (0<=j_13/\j_13<(datan:Int)) <|
ptr data fun a_14 =>
bindI (IntKind.i64.wrap (j_13-(1:Int))) fun z_15 =>
needs (0<=z_15/\z_15<(datan:Int)) <|
ptr data fun a_16 =>
ldI h_11 ((a_14.add (j_13.toNat*7)).add 0) .i64 fun x_17 =>
ldI h_11 ((a_14.add (j_13.toNat*7)).add 1) .i64 fun x_18 =>
ldI h_11 ((a_14.add (j_13.toNat*7)).add 2) .i64 fun x_19 =>
ldB h_11 ((a_14.add (j_13.toNat*7)).add 3) fun x_20 =>
ldI h_11 ((a_14.add (j_13.toNat*7)).add 4) .i64 fun x_21 =>
ldI h_11 ((a_14.add (j_13.toNat*7)).add 5) .i64 fun x_22 =>
ldS h_11 ((a_14.add (j_13.toNat*7)).add 6) fun x_23 x_23n x_23c =>
ldI h_11 ((a_16.add (z_15.toNat*7)).add 0) .i64 fun x_24 =>
ldI h_11 ((a_16.add (z_15.toNat*7)).add 1) .i64 fun x_25 =>
ldI h_11 ((a_16.add (z_15.toNat*7)).add 2) .i64 fun x_26 =>
ldB h_11 ((a_16.add (z_15.toNat*7)).add 3) fun x_27 =>
ldI h_11 ((a_16.add (z_15.toNat*7)).add 4) .i64 fun x_28 =>
ldI h_11 ((a_16.add (z_15.toNat*7)).add 5) .i64 fun x_29 =>
ldS h_11 ((a_16.add (z_15.toNat*7)).add 6) fun x_30 x_30n x_30c =>
callD C (Kp) cmp [.agg #[.int .i64 x_17, .int .i64 x_18, .int .i64 x_19, .bool x_20, .int .i64 x_21, .int .i64 x_22, .slice x_23 x_23n x_23c], .agg #[.int .i64 x_24, .int .i64 x_25, .int .i64 x_26, .bool x_27, .int .i64 x_28, .int .i64 x_29, .slice x_30 x_30n x_30c]] h_11 fun v_31 h_32 =>
∃ (r_33:Int),v_31 = .int .i64 r_33/\(
bcase (decide (r_33<(0:Int))) (
bindI (IntKind.i64.wrap (j_13-(1:Int))) fun z_34 =>
bindI (IntKind.i64.wrap (j_13-(1:Int))) fun z_35 =>
needs (0<=z_35/\z_35<(datan:Int)) <|
ptr data fun a_36 =>
needs (0<=j_13/\j_13<(datan:Int)) <|
ptr data fun a_37 =>
ldI h_32 ((a_36.add (z_35.toNat*7)).add 0) .i64 fun x_38 =>
ldI h_32 ((a_36.add (z_35.toNat*7)).add 1) .i64 fun x_39 =>
ldI h_32 ((a_36.add (z_35.toNat*7)).add 2) .i64 fun x_40 =>
ldB h_32 ((a_36.add (z_35.toNat*7)).add 3) fun x_41 =>
ldI h_32 ((a_36.add (z_35.toNat*7)).add 4) .i64 fun x_42 =>
ldI h_32 ((a_36.add (z_35.toNat*7)).add 5) .i64 fun x_43 =>
ldS h_32 ((a_36.add (z_35.toNat*7)).add 6) fun x_44 x_44n x_44c =>
ldI h_32 ((a_37.add (j_13.toNat*7)).add 0) .i64 fun x_45 =>
ldI h_32 ((a_37.add (j_13.toNat*7)).add 1) .i64 fun x_46 =>
ldI h_32 ((a_37.add (j_13.toNat*7)).add 2) .i64 fun x_47 =>
ldB h_32 ((a_37.add (j_13.toNat*7)).add 3) fun x_48 =>
ldI h_32 ((a_37.add (j_13.toNat*7)).add 4) .i64 fun x_49 =>
ldI h_32 ((a_37.add (j_13.toNat*7)).add 5) .i64 fun x_50 =>
ldS h_32 ((a_37.add (j_13.toNat*7)).add 6) fun x_51 x_51n x_51c =>
needs (0<=j_13/\j_13<(datan:Int)) <|
ptr data fun a_52 =>
stV h_32 ((a_52.add (j_13.toNat*7)).add 0) (.int .i64 x_38) fun h_53 =>
stV h_53 ((a_52.add (j_13.toNat*7)).add 1) (.int .i64 x_39) fun h_54 =>
stV h_54 ((a_52.add (j_13.toNat*7)).add 2) (.int .i64 x_40) fun h_55 =>
stV h_55 ((a_52.add (j_13.toNat*7)).add 3) (.bool x_41) fun h_56 =>
stV h_56 ((a_52.add (j_13.toNat*7)).add 4) (.int .i64 x_42) fun h_57 =>
stV h_57 ((a_52.add (j_13.toNat*7)).add 5) (.int .i64 x_43) fun h_58 =>
stV h_58 ((a_52.add (j_13.toNat*7)).add 6) (.slice x_44 x_44n x_44c) fun h_59 =>
needs (0<=z_34/\z_34<(datan:Int)) <|
ptr data fun a_60 =>
stV h_59 ((a_60.add (z_34.toNat*7)).add 0) (.int .i64 x_45) fun h_61 =>
stV h_61 ((a_60.add (z_34.toNat*7)).add 1) (.int .i64 x_46) fun h_62 =>
stV h_62 ((a_60.add (z_34.toNat*7)).add 2) (.int .i64 x_47) fun h_63 =>
stV h_63 ((a_60.add (z_34.toNat*7)).add 3) (.bool x_48) fun h_64 =>
stV h_64 ((a_60.add (z_34.toNat*7)).add 4) (.int .i64 x_49) fun h_65 =>
stV h_65 ((a_60.add (z_34.toNat*7)).add 5) (.int .i64 x_50) fun h_66 =>
stV h_66 ((a_60.add (z_34.toNat*7)).add 6) (.slice x_51 x_51n x_51c) fun h_67 =>
bindI (IntKind.i64.wrap (j_13-(1:Int))) fun z_68 =>
∃ m_9,m_9<n_10/\J_8 m_9 [.int .i64 z_68] h_67) <|
bindI (IntKind.i64.wrap (i_7+(1:Int))) fun z_69 =>
∃ m_3,m_3<n_4/\J_2 m_3 [.int .i64 z_69] h_32)) <|
bindI (IntKind.i64.wrap (i_7+(1:Int))) fun z_70 =>
∃ m_3,m_3<n_4/\J_2 m_3 [.int .i64 z_70] h_11)) <|
K (.tuple #[]) h_5)
def slices_symMergeCmpFunc_api_Instance (C:CallP) (data:Option Addr) (datan:Nat) (datac:Nat) (a:Int) (m:Int) (b:Int) (cmp:Value) (h:Heap) (K:VK) (Kp:PK):Prop :=
bindI (IntKind.i64.wrap (m-a)) fun z_1 =>
bcase (z_1 == (1:Int)) (
∃ J_2:Nat->List Value->Heap->Prop,(∃ n_4,J_2 n_4 [.int .i64 m, .int .i64 b] h)/\∀ (n_4:Nat) (h_5:Heap) (u_6:Nat->Value) (i_7:Int) (j_8:Int),J_2 n_4 [.int .i64 i_7, .int .i64 j_8] h_5->(
bcase (decide (i_7<j_8)) (
bindI (IntKind.i64.wrap (i_7+j_8)) fun z_9 =>
bindI (IntKind.u64.wrap z_9) fun z_10 =>
bindI (shrI .u64 z_10 (1:Int)) fun z_11 =>
bindI (IntKind.i64.wrap z_11) fun z_12 =>
needs (0<=z_12/\z_12<(datan:Int)) <|
ptr data fun a_13 =>
needs (0<=a/\a<(datan:Int)) <|
ptr data fun a_14 =>
ldI h_5 ((a_13.add (z_12.toNat*7)).add 0) .i64 fun x_15 =>
ldI h_5 ((a_13.add (z_12.toNat*7)).add 1) .i64 fun x_16 =>
ldI h_5 ((a_13.add (z_12.toNat*7)).add 2) .i64 fun x_17 =>
ldB h_5 ((a_13.add (z_12.toNat*7)).add 3) fun x_18 =>
ldI h_5 ((a_13.add (z_12.toNat*7)).add 4) .i64 fun x_19 =>
ldI h_5 ((a_13.add (z_12.toNat*7)).add 5) .i64 fun x_20 =>
ldS h_5 ((a_13.add (z_12.toNat*7)).add 6) fun x_21 x_21n x_21c =>
ldI h_5 ((a_14.add (a.toNat*7)).add 0) .i64 fun x_22 =>
ldI h_5 ((a_14.add (a.toNat*7)).add 1) .i64 fun x_23 =>
ldI h_5 ((a_14.add (a.toNat*7)).add 2) .i64 fun x_24 =>
ldB h_5 ((a_14.add (a.toNat*7)).add 3) fun x_25 =>
ldI h_5 ((a_14.add (a.toNat*7)).add 4) .i64 fun x_26 =>
ldI h_5 ((a_14.add (a.toNat*7)).add 5) .i64 fun x_27 =>
ldS h_5 ((a_14.add (a.toNat*7)).add 6) fun x_28 x_28n x_28c =>
callD C (Kp) cmp [.agg #[.int .i64 x_15, .int .i64 x_16, .int .i64 x_17, .bool x_18, .int .i64 x_19, .int .i64 x_20, .slice x_21 x_21n x_21c], .agg #[.int .i64 x_22, .int .i64 x_23, .int .i64 x_24, .bool x_25, .int .i64 x_26, .int .i64 x_27, .slice x_28 x_28n x_28c]] h_5 fun v_29 h_30 =>
∃ (r_31:Int),v_29 = .int .i64 r_31/\(
bcase (decide (r_31<(0:Int))) (
bindI (IntKind.i64.wrap (z_12+(1:Int))) fun z_32 =>
∃ m_3,m_3<n_4/\J_2 m_3 [.int .i64 z_32, .int .i64 j_8] h_30) <|
∃ m_3,m_3<n_4/\J_2 m_3 [.int .i64 i_7, .int .i64 z_12] h_30)) <|
∃ J_33:Nat->List Value->Heap->Prop,(∃ n_35,J_33 n_35 [.int .i64 a] h_5)/\∀ (n_35:Nat) (h_36:Heap) (u_37:Nat->Value) (k_38:Int),J_33 n_35 [.int .i64 k_38] h_36->(
bindI (IntKind.i64.wrap (i_7-(1:Int))) fun z_39 =>
bcase (decide (k_38<z_39)) (
bindI (IntKind.i64.wrap (k_38+(1:Int))) fun z_40 =>
bindI (IntKind.i64.wrap (k_38+(1:Int))) fun z_41 =>
needs (0<=z_41/\z_41<(datan:Int)) <|
ptr data fun a_42 =>
needs (0<=k_38/\k_38<(datan:Int)) <|
ptr data fun a_43 =>
ldI h_36 ((a_42.add (z_41.toNat*7)).add 0) .i64 fun x_44 =>
ldI h_36 ((a_42.add (z_41.toNat*7)).add 1) .i64 fun x_45 =>
ldI h_36 ((a_42.add (z_41.toNat*7)).add 2) .i64 fun x_46 =>
ldB h_36 ((a_42.add (z_41.toNat*7)).add 3) fun x_47 =>
ldI h_36 ((a_42.add (z_41.toNat*7)).add 4) .i64 fun x_48 =>
ldI h_36 ((a_42.add (z_41.toNat*7)).add 5) .i64 fun x_49 =>
ldS h_36 ((a_42.add (z_41.toNat*7)).add 6) fun x_50 x_50n x_50c =>
ldI h_36 ((a_43.add (k_38.toNat*7)).add 0) .i64 fun x_51 =>
ldI h_36 ((a_43.add (k_38.toNat*7)).add 1) .i64 fun x_52 =>
ldI h_36 ((a_43.add (k_38.toNat*7)).add 2) .i64 fun x_53 =>
ldB h_36 ((a_43.add (k_38.toNat*7)).add 3) fun x_54 =>
ldI h_36 ((a_43.add (k_38.toNat*7)).add 4) .i64 fun x_55 =>
ldI h_36 ((a_43.add (k_38.toNat*7)).add 5) .i64 fun x_56 =>
ldS h_36 ((a_43.add (k_38.toNat*7)).add 6) fun x_57 x_57n x_57c =>
needs (0<=k_38/\k_38<(datan:Int)) <|
ptr data fun a_58 =>
stV h_36 ((a_58.add (k_38.toNat*7)).add 0) (.int .i64 x_44) fun h_59 =>
stV h_59 ((a_58.add (k_38.toNat*7)).add 1) (.int .i64 x_45) fun h_60 =>
stV h_60 ((a_58.add (k_38.toNat*7)).add 2) (.int .i64 x_46) fun h_61 =>
stV h_61 ((a_58.add (k_38.toNat*7)).add 3) (.bool x_47) fun h_62 =>
stV h_62 ((a_58.add (k_38.toNat*7)).add 4) (.int .i64 x_48) fun h_63 =>
stV h_63 ((a_58.add (k_38.toNat*7)).add 5) (.int .i64 x_49) fun h_64 =>
stV h_64 ((a_58.add (k_38.toNat*7)).add 6) (.slice x_50 x_50n x_50c) fun h_65 =>
needs (0<=z_40/\z_40<(datan:Int)) <|
ptr data fun a_66 =>
stV h_65 ((a_66.add (z_40.toNat*7)).add 0) (.int .i64 x_51) fun h_67 =>
stV h_67 ((a_66.add (z_40.toNat*7)).add 1) (.int .i64 x_52) fun h_68 =>
stV h_68 ((a_66.add (z_40.toNat*7)).add 2) (.int .i64 x_53) fun h_69 =>
stV h_69 ((a_66.add (z_40.toNat*7)).add 3) (.bool x_54) fun h_70 =>
stV h_70 ((a_66.add (z_40.toNat*7)).add 4) (.int .i64 x_55) fun h_71 =>
stV h_71 ((a_66.add (z_40.toNat*7)).add 5) (.int .i64 x_56) fun h_72 =>
stV h_72 ((a_66.add (z_40.toNat*7)).add 6) (.slice x_57 x_57n x_57c) fun h_73 =>
bindI (IntKind.i64.wrap (k_38+(1:Int))) fun z_74 =>
∃ m_34,m_34<n_35/\J_33 m_34 [.int .i64 z_74] h_73) <|
K (.tuple #[]) h_36))) <|
bindI (IntKind.i64.wrap (b-m)) fun z_75 =>
bcase (z_75 == (1:Int)) (
∃ J_76:Nat->List Value->Heap->Prop,(∃ n_78,J_76 n_78 [.int .i64 a, .int .i64 m] h)/\∀ (n_78:Nat) (h_79:Heap) (u_80:Nat->Value) (i_81:Int) (j_82:Int),J_76 n_78 [.int .i64 i_81, .int .i64 j_82] h_79->(
bcase (decide (i_81<j_82)) (
bindI (IntKind.i64.wrap (i_81+j_82)) fun z_83 =>
bindI (IntKind.u64.wrap z_83) fun z_84 =>
bindI (shrI .u64 z_84 (1:Int)) fun z_85 =>
bindI (IntKind.i64.wrap z_85) fun z_86 =>
needs (0<=m/\m<(datan:Int)) <|
ptr data fun a_87 =>
needs (0<=z_86/\z_86<(datan:Int)) <|
ptr data fun a_88 =>
ldI h_79 ((a_87.add (m.toNat*7)).add 0) .i64 fun x_89 =>
ldI h_79 ((a_87.add (m.toNat*7)).add 1) .i64 fun x_90 =>
ldI h_79 ((a_87.add (m.toNat*7)).add 2) .i64 fun x_91 =>
ldB h_79 ((a_87.add (m.toNat*7)).add 3) fun x_92 =>
ldI h_79 ((a_87.add (m.toNat*7)).add 4) .i64 fun x_93 =>
ldI h_79 ((a_87.add (m.toNat*7)).add 5) .i64 fun x_94 =>
ldS h_79 ((a_87.add (m.toNat*7)).add 6) fun x_95 x_95n x_95c =>
ldI h_79 ((a_88.add (z_86.toNat*7)).add 0) .i64 fun x_96 =>
ldI h_79 ((a_88.add (z_86.toNat*7)).add 1) .i64 fun x_97 =>
ldI h_79 ((a_88.add (z_86.toNat*7)).add 2) .i64 fun x_98 =>
ldB h_79 ((a_88.add (z_86.toNat*7)).add 3) fun x_99 =>
ldI h_79 ((a_88.add (z_86.toNat*7)).add 4) .i64 fun x_100 =>
ldI h_79 ((a_88.add (z_86.toNat*7)).add 5) .i64 fun x_101 =>
ldS h_79 ((a_88.add (z_86.toNat*7)).add 6) fun x_102 x_102n x_102c =>
callD C (Kp) cmp [.agg #[.int .i64 x_89, .int .i64 x_90, .int .i64 x_91, .bool x_92, .int .i64 x_93, .int .i64 x_94, .slice x_95 x_95n x_95c], .agg #[.int .i64 x_96, .int .i64 x_97, .int .i64 x_98, .bool x_99, .int .i64 x_100, .int .i64 x_101, .slice x_102 x_102n x_102c]] h_79 fun v_103 h_104 =>
∃ (r_105:Int),v_103 = .int .i64 r_105/\(
bcase (!(decide (r_105<(0:Int)))) (
bindI (IntKind.i64.wrap (z_86+(1:Int))) fun z_106 =>
∃ m_77,m_77<n_78/\J_76 m_77 [.int .i64 z_106, .int .i64 j_82] h_104) <|
∃ m_77,m_77<n_78/\J_76 m_77 [.int .i64 i_81, .int .i64 z_86] h_104)) <|
∃ J_107:Nat->List Value->Heap->Prop,(∃ n_109,J_107 n_109 [.int .i64 m] h_79)/\∀ (n_109:Nat) (h_110:Heap) (u_111:Nat->Value) (k_112:Int),J_107 n_109 [.int .i64 k_112] h_110->(
bcase (decide (k_112 > i_81)) (
bindI (IntKind.i64.wrap (k_112-(1:Int))) fun z_113 =>
bindI (IntKind.i64.wrap (k_112-(1:Int))) fun z_114 =>
needs (0<=z_114/\z_114<(datan:Int)) <|
ptr data fun a_115 =>
needs (0<=k_112/\k_112<(datan:Int)) <|
ptr data fun a_116 =>
ldI h_110 ((a_115.add (z_114.toNat*7)).add 0) .i64 fun x_117 =>
ldI h_110 ((a_115.add (z_114.toNat*7)).add 1) .i64 fun x_118 =>
ldI h_110 ((a_115.add (z_114.toNat*7)).add 2) .i64 fun x_119 =>
ldB h_110 ((a_115.add (z_114.toNat*7)).add 3) fun x_120 =>
ldI h_110 ((a_115.add (z_114.toNat*7)).add 4) .i64 fun x_121 =>
ldI h_110 ((a_115.add (z_114.toNat*7)).add 5) .i64 fun x_122 =>
ldS h_110 ((a_115.add (z_114.toNat*7)).add 6) fun x_123 x_123n x_123c =>
ldI h_110 ((a_116.add (k_112.toNat*7)).add 0) .i64 fun x_124 =>
ldI h_110 ((a_116.add (k_112.toNat*7)).add 1) .i64 fun x_125 =>
ldI h_110 ((a_116.add (k_112.toNat*7)).add 2) .i64 fun x_126 =>
ldB h_110 ((a_116.add (k_112.toNat*7)).add 3) fun x_127 =>
ldI h_110 ((a_116.add (k_112.toNat*7)).add 4) .i64 fun x_128 =>
ldI h_110 ((a_116.add (k_112.toNat*7)).add 5) .i64 fun x_129 =>
ldS h_110 ((a_116.add (k_112.toNat*7)).add 6) fun x_130 x_130n x_130c =>
needs (0<=k_112/\k_112<(datan:Int)) <|
ptr data fun a_131 =>
stV h_110 ((a_131.add (k_112.toNat*7)).add 0) (.int .i64 x_117) fun h_132 =>
stV h_132 ((a_131.add (k_112.toNat*7)).add 1) (.int .i64 x_118) fun h_133 =>
stV h_133 ((a_131.add (k_112.toNat*7)).add 2) (.int .i64 x_119) fun h_134 =>
stV h_134 ((a_131.add (k_112.toNat*7)).add 3) (.bool x_120) fun h_135 =>
stV h_135 ((a_131.add (k_112.toNat*7)).add 4) (.int .i64 x_121) fun h_136 =>
stV h_136 ((a_131.add (k_112.toNat*7)).add 5) (.int .i64 x_122) fun h_137 =>
stV h_137 ((a_131.add (k_112.toNat*7)).add 6) (.slice x_123 x_123n x_123c) fun h_138 =>
needs (0<=z_113/\z_113<(datan:Int)) <|
ptr data fun a_139 =>
stV h_138 ((a_139.add (z_113.toNat*7)).add 0) (.int .i64 x_124) fun h_140 =>
stV h_140 ((a_139.add (z_113.toNat*7)).add 1) (.int .i64 x_125) fun h_141 =>
stV h_141 ((a_139.add (z_113.toNat*7)).add 2) (.int .i64 x_126) fun h_142 =>
stV h_142 ((a_139.add (z_113.toNat*7)).add 3) (.bool x_127) fun h_143 =>
stV h_143 ((a_139.add (z_113.toNat*7)).add 4) (.int .i64 x_128) fun h_144 =>
stV h_144 ((a_139.add (z_113.toNat*7)).add 5) (.int .i64 x_129) fun h_145 =>
stV h_145 ((a_139.add (z_113.toNat*7)).add 6) (.slice x_130 x_130n x_130c) fun h_146 =>
bindI (IntKind.i64.wrap (k_112-(1:Int))) fun z_147 =>
∃ m_108,m_108<n_109/\J_107 m_108 [.int .i64 z_147] h_146) <|
K (.tuple #[]) h_110))) <|
bindI (IntKind.i64.wrap (a+b)) fun z_148 =>
bindI (IntKind.u64.wrap z_148) fun z_149 =>
bindI (shrI .u64 z_149 (1:Int)) fun z_150 =>
bindI (IntKind.i64.wrap z_150) fun z_151 =>
bindI (IntKind.i64.wrap (z_151+m)) fun z_152 =>
∃ K_153:List Value->Heap->Prop,(
bcase (decide (m > z_151)) (
bindI (IntKind.i64.wrap (z_152-b)) fun z_156 =>
K_153 [.int .i64 z_156, .int .i64 z_151] h) <|
K_153 [.int .i64 a, .int .i64 m] h)/\∀ (h_154:Heap) (u_155:Nat->Value) (start_157:Int) (r_158:Int),K_153 [.int .i64 start_157, .int .i64 r_158] h_154->(
bindI (IntKind.i64.wrap (z_152-(1:Int))) fun z_159 =>
∃ J_160:Nat->List Value->Heap->Prop,(∃ n_162,J_160 n_162 [.int .i64 start_157, .int .i64 r_158] h_154)/\∀ (n_162:Nat) (h_163:Heap) (u_164:Nat->Value) (start_165:Int) (r_166:Int),J_160 n_162 [.int .i64 start_165, .int .i64 r_166] h_163->(
bcase (decide (start_165<r_166)) (
bindI (IntKind.i64.wrap (start_165+r_166)) fun z_167 =>
bindI (IntKind.u64.wrap z_167) fun z_168 =>
bindI (shrI .u64 z_168 (1:Int)) fun z_169 =>
bindI (IntKind.i64.wrap z_169) fun z_170 =>
bindI (IntKind.i64.wrap (z_159-z_170)) fun z_171 =>
needs (0<=z_171/\z_171<(datan:Int)) <|
ptr data fun a_172 =>
needs (0<=z_170/\z_170<(datan:Int)) <|
ptr data fun a_173 =>
ldI h_163 ((a_172.add (z_171.toNat*7)).add 0) .i64 fun x_174 =>
ldI h_163 ((a_172.add (z_171.toNat*7)).add 1) .i64 fun x_175 =>
ldI h_163 ((a_172.add (z_171.toNat*7)).add 2) .i64 fun x_176 =>
ldB h_163 ((a_172.add (z_171.toNat*7)).add 3) fun x_177 =>
ldI h_163 ((a_172.add (z_171.toNat*7)).add 4) .i64 fun x_178 =>
ldI h_163 ((a_172.add (z_171.toNat*7)).add 5) .i64 fun x_179 =>
ldS h_163 ((a_172.add (z_171.toNat*7)).add 6) fun x_180 x_180n x_180c =>
ldI h_163 ((a_173.add (z_170.toNat*7)).add 0) .i64 fun x_181 =>
ldI h_163 ((a_173.add (z_170.toNat*7)).add 1) .i64 fun x_182 =>
ldI h_163 ((a_173.add (z_170.toNat*7)).add 2) .i64 fun x_183 =>
ldB h_163 ((a_173.add (z_170.toNat*7)).add 3) fun x_184 =>
ldI h_163 ((a_173.add (z_170.toNat*7)).add 4) .i64 fun x_185 =>
ldI h_163 ((a_173.add (z_170.toNat*7)).add 5) .i64 fun x_186 =>
ldS h_163 ((a_173.add (z_170.toNat*7)).add 6) fun x_187 x_187n x_187c =>
callD C (Kp) cmp [.agg #[.int .i64 x_174, .int .i64 x_175, .int .i64 x_176, .bool x_177, .int .i64 x_178, .int .i64 x_179, .slice x_180 x_180n x_180c], .agg #[.int .i64 x_181, .int .i64 x_182, .int .i64 x_183, .bool x_184, .int .i64 x_185, .int .i64 x_186, .slice x_187 x_187n x_187c]] h_163 fun v_188 h_189 =>
∃ (r_190:Int),v_188 = .int .i64 r_190/\(
bcase (!(decide (r_190<(0:Int)))) (
bindI (IntKind.i64.wrap (z_170+(1:Int))) fun z_191 =>
∃ m_161,m_161<n_162/\J_160 m_161 [.int .i64 z_191, .int .i64 r_166] h_189) <|
∃ m_161,m_161<n_162/\J_160 m_161 [.int .i64 start_165, .int .i64 z_170] h_189)) <|
bindI (IntKind.i64.wrap (z_152-start_165)) fun z_192 =>
∃ K_193:List Value->Heap->Prop,(
bcase (decide (start_165<m)) (
bcase (decide (m<z_192)) (
C F_slices_rotateCmpFunc_api_Instance #[.slice data datan datac, .int .i64 start_165, .int .i64 m, .int .i64 z_192,cmp] h_163 (fun v_196 h_197 =>
K_193 [] h_197) (Kp)) <|
K_193 [] h_163) <|
K_193 [] h_163)/\∀ (h_194:Heap) (u_195:Nat->Value) ,K_193 [] h_194->(
∃ K_198:List Value->Heap->Prop,(
bcase (decide (a<start_165)) (
bcase (decide (start_165<z_151)) (
C F_slices_symMergeCmpFunc_api_Instance #[.slice data datan datac, .int .i64 a, .int .i64 start_165, .int .i64 z_151,cmp] h_194 (fun v_201 h_202 =>
K_198 [] h_202) (Kp)) <|
K_198 [] h_194) <|
K_198 [] h_194)/\∀ (h_199:Heap) (u_200:Nat->Value) ,K_198 [] h_199->(
bcase (decide (z_151<z_192)) (
bcase (decide (z_192<b)) (
C F_slices_symMergeCmpFunc_api_Instance #[.slice data datan datac, .int .i64 z_151, .int .i64 z_192, .int .i64 b,cmp] h_199 (fun v_203 h_204 =>
K (.tuple #[]) h_204) (Kp)) <|
K (.tuple #[]) h_199) <|
K (.tuple #[]) h_199))))
def slices_IndexFunc_api_Instance_api_Instance (C:CallP) (s:Option Addr) (sn:Nat) (sc:Nat) (f:Value) (h:Heap) (K:VK) (Kp:PK):Prop :=
∃ J_1:Nat->List Value->Heap->Prop,(∃ n_3,J_1 n_3 [.int .i64 0] h)/\∀ (n_3:Nat) (h_4:Heap) (u_5:Nat->Value) (x_6:Int),J_1 n_3 [.int .i64 x_6] h_4->(
bcase (decide (x_6<(sn:Int))) (
needs (0<=x_6/\x_6<(sn:Int)) <|
ptr s fun a_7 =>
ldI h_4 ((a_7.add (x_6.toNat*7)).add 0) .i64 fun x_8 =>
ldI h_4 ((a_7.add (x_6.toNat*7)).add 1) .i64 fun x_9 =>
ldI h_4 ((a_7.add (x_6.toNat*7)).add 2) .i64 fun x_10 =>
ldB h_4 ((a_7.add (x_6.toNat*7)).add 3) fun x_11 =>
ldI h_4 ((a_7.add (x_6.toNat*7)).add 4) .i64 fun x_12 =>
ldI h_4 ((a_7.add (x_6.toNat*7)).add 5) .i64 fun x_13 =>
ldS h_4 ((a_7.add (x_6.toNat*7)).add 6) fun x_14 x_14n x_14c =>
callD C (Kp) f [.agg #[.int .i64 x_8, .int .i64 x_9, .int .i64 x_10, .bool x_11, .int .i64 x_12, .int .i64 x_13, .slice x_14 x_14n x_14c]] h_4 fun v_15 h_16 =>
∃ (r_17:Bool),v_15 = .bool r_17/\(
bcase r_17 (
K (.int .i64 x_6) h_16) <|
bindI (IntKind.i64.wrap (x_6+(1:Int))) fun z_18 =>
∃ m_2,m_2<n_3/\J_1 m_2 [.int .i64 z_18] h_16)) <|
K (.int .i64 (-1)) h_4)
def slices_rotateCmpFunc_api_Instance (C:CallP) (data:Option Addr) (datan:Nat) (datac:Nat) (a:Int) (m:Int) (b:Int) (cmp:Value) (h:Heap) (K:VK) (Kp:PK):Prop :=
bindI (IntKind.i64.wrap (m-a)) fun z_1 =>
bindI (IntKind.i64.wrap (b-m)) fun z_2 =>
∃ J_3:Nat->List Value->Heap->Prop,(∃ n_5,J_3 n_5 [.int .i64 z_1, .int .i64 z_2] h)/\∀ (n_5:Nat) (h_6:Heap) (u_7:Nat->Value) (i_8:Int) (j_9:Int),J_3 n_5 [.int .i64 i_8, .int .i64 j_9] h_6->(
bcase (i_8 != j_9) (
bcase (decide (i_8 > j_9)) (
bindI (IntKind.i64.wrap (m-i_8)) fun z_10 =>
C F_slices_swapRangeCmpFunc_api_Instance #[.slice data datan datac, .int .i64 z_10, .int .i64 m, .int .i64 j_9,cmp] h_6 (fun v_11 h_12 =>
bindI (IntKind.i64.wrap (i_8-j_9)) fun z_13 =>
∃ m_4,m_4<n_5/\J_3 m_4 [.int .i64 z_13, .int .i64 j_9] h_12) (Kp)) <|
bindI (IntKind.i64.wrap (m-i_8)) fun z_14 =>
bindI (IntKind.i64.wrap (m+j_9)) fun z_15 =>
bindI (IntKind.i64.wrap (z_15-i_8)) fun z_16 =>
C F_slices_swapRangeCmpFunc_api_Instance #[.slice data datan datac, .int .i64 z_14, .int .i64 z_16, .int .i64 i_8,cmp] h_6 (fun v_17 h_18 =>
bindI (IntKind.i64.wrap (j_9-i_8)) fun z_19 =>
∃ m_4,m_4<n_5/\J_3 m_4 [.int .i64 i_8, .int .i64 z_19] h_18) (Kp)) <|
bindI (IntKind.i64.wrap (m-i_8)) fun z_20 =>
C F_slices_swapRangeCmpFunc_api_Instance #[.slice data datan datac, .int .i64 z_20, .int .i64 m, .int .i64 i_8,cmp] h_6 (fun v_21 h_22 =>
K (.tuple #[]) h_22) (Kp))
def slices_Equal_uint64_uint64 (C:CallP) (s1:Option Addr) (s1n:Nat) (s1c:Nat) (s2:Option Addr) (s2n:Nat) (s2c:Nat) (h:Heap) (K:VK) (Kp:PK):Prop :=
bcase ((s1n:Int) != (s2n:Int)) (
K (.bool false) h) <|
∃ J_1:Nat->List Value->Heap->Prop,(∃ n_3,J_1 n_3 [.int .i64 0] h)/\∀ (n_3:Nat) (h_4:Heap) (u_5:Nat->Value) (x_6:Int),J_1 n_3 [.int .i64 x_6] h_4->(
bcase (decide (x_6<(s1n:Int))) (
needs (0<=x_6/\x_6<(s1n:Int)) <|
ptr s1 fun a_7 =>
needs (0<=x_6/\x_6<(s2n:Int)) <|
ptr s2 fun a_8 =>
ldI h_4 (a_7.add (x_6.toNat*1)) .u64 fun x_9 =>
ldI h_4 (a_8.add (x_6.toNat*1)) .u64 fun x_10 =>
bcase (x_9 != x_10) (
K (.bool false) h_4) <|
bindI (IntKind.i64.wrap (x_6+(1:Int))) fun z_11 =>
∃ m_2,m_2<n_3/\J_1 m_2 [.int .i64 z_11] h_4) <|
K (.bool true) h_4)
def slices_swapRangeCmpFunc_api_Instance (C:CallP) (data:Option Addr) (datan:Nat) (datac:Nat) (a:Int) (b:Int) (n:Int) (cmp:Value) (h:Heap) (K:VK) (Kp:PK):Prop :=
∃ J_1:Nat->List Value->Heap->Prop,(∃ n_3,J_1 n_3 [.int .i64 0] h)/\∀ (n_3:Nat) (h_4:Heap) (u_5:Nat->Value) (i_6:Int),J_1 n_3 [.int .i64 i_6] h_4->(
bcase (decide (i_6<n)) (
bindI (IntKind.i64.wrap (a+i_6)) fun z_7 =>
bindI (IntKind.i64.wrap (b+i_6)) fun z_8 =>
bindI (IntKind.i64.wrap (b+i_6)) fun z_9 =>
needs (0<=z_9/\z_9<(datan:Int)) <|
ptr data fun a_10 =>
bindI (IntKind.i64.wrap (a+i_6)) fun z_11 =>
needs (0<=z_11/\z_11<(datan:Int)) <|
ptr data fun a_12 =>
ldI h_4 ((a_10.add (z_9.toNat*7)).add 0) .i64 fun x_13 =>
ldI h_4 ((a_10.add (z_9.toNat*7)).add 1) .i64 fun x_14 =>
ldI h_4 ((a_10.add (z_9.toNat*7)).add 2) .i64 fun x_15 =>
ldB h_4 ((a_10.add (z_9.toNat*7)).add 3) fun x_16 =>
ldI h_4 ((a_10.add (z_9.toNat*7)).add 4) .i64 fun x_17 =>
ldI h_4 ((a_10.add (z_9.toNat*7)).add 5) .i64 fun x_18 =>
ldS h_4 ((a_10.add (z_9.toNat*7)).add 6) fun x_19 x_19n x_19c =>
ldI h_4 ((a_12.add (z_11.toNat*7)).add 0) .i64 fun x_20 =>
ldI h_4 ((a_12.add (z_11.toNat*7)).add 1) .i64 fun x_21 =>
ldI h_4 ((a_12.add (z_11.toNat*7)).add 2) .i64 fun x_22 =>
ldB h_4 ((a_12.add (z_11.toNat*7)).add 3) fun x_23 =>
ldI h_4 ((a_12.add (z_11.toNat*7)).add 4) .i64 fun x_24 =>
ldI h_4 ((a_12.add (z_11.toNat*7)).add 5) .i64 fun x_25 =>
ldS h_4 ((a_12.add (z_11.toNat*7)).add 6) fun x_26 x_26n x_26c =>
needs (0<=z_7/\z_7<(datan:Int)) <|
ptr data fun a_27 =>
stV h_4 ((a_27.add (z_7.toNat*7)).add 0) (.int .i64 x_13) fun h_28 =>
stV h_28 ((a_27.add (z_7.toNat*7)).add 1) (.int .i64 x_14) fun h_29 =>
stV h_29 ((a_27.add (z_7.toNat*7)).add 2) (.int .i64 x_15) fun h_30 =>
stV h_30 ((a_27.add (z_7.toNat*7)).add 3) (.bool x_16) fun h_31 =>
stV h_31 ((a_27.add (z_7.toNat*7)).add 4) (.int .i64 x_17) fun h_32 =>
stV h_32 ((a_27.add (z_7.toNat*7)).add 5) (.int .i64 x_18) fun h_33 =>
stV h_33 ((a_27.add (z_7.toNat*7)).add 6) (.slice x_19 x_19n x_19c) fun h_34 =>
needs (0<=z_8/\z_8<(datan:Int)) <|
ptr data fun a_35 =>
stV h_34 ((a_35.add (z_8.toNat*7)).add 0) (.int .i64 x_20) fun h_36 =>
stV h_36 ((a_35.add (z_8.toNat*7)).add 1) (.int .i64 x_21) fun h_37 =>
stV h_37 ((a_35.add (z_8.toNat*7)).add 2) (.int .i64 x_22) fun h_38 =>
stV h_38 ((a_35.add (z_8.toNat*7)).add 3) (.bool x_23) fun h_39 =>
stV h_39 ((a_35.add (z_8.toNat*7)).add 4) (.int .i64 x_24) fun h_40 =>
stV h_40 ((a_35.add (z_8.toNat*7)).add 5) (.int .i64 x_25) fun h_41 =>
stV h_41 ((a_35.add (z_8.toNat*7)).add 6) (.slice x_26 x_26n x_26c) fun h_42 =>
bindI (IntKind.i64.wrap (i_6+(1:Int))) fun z_43 =>
∃ m_2,m_2<n_3/\J_1 m_2 [.int .i64 z_43] h_42) <|
K (.tuple #[]) h_4)
end Go.Den.YtbknfejmdekhpaaGreat
namespace Go.Den.YtbknfejmdekhpaaGreat
open Go Go.Den
theorem call_slices_Clone_api_Instance_api_Instance {s:Option Addr} {sn:Nat} {sc:Nat} {h:Heap} {K:VK} {Kp:PK} (H:slices_Clone_api_Instance_api_Instance (CallsHP Go.Proofs.Tryz.prog) s sn sc h K Kp):CallsHP Go.Proofs.Tryz.prog F_slices_Clone_api_Instance_api_Instance #[.slice s sn sc] h K Kp :=
 callsHP_ofE (Hints.mk (fun i=>none) (fun i=>none) (fun i=>none) []) (by kernel_rfl) Go.Proofs.Tryz.func64 (by kernel_rfl) (fun C=>slices_Clone_api_Instance_api_Instance C s sn sc h K Kp) (fun C=>by kernel_rfl) H
theorem call_slices_Clone_uint64_uint64 {s:Option Addr} {sn:Nat} {sc:Nat} {h:Heap} {K:VK} {Kp:PK} (H:slices_Clone_uint64_uint64 (CallsHP Go.Proofs.Tryz.prog) s sn sc h K Kp):CallsHP Go.Proofs.Tryz.prog F_slices_Clone_uint64_uint64 #[.slice s sn sc] h K Kp :=
 callsHP_ofE (Hints.mk (fun i=>none) (fun i=>none) (fun i=>none) []) (by kernel_rfl) Go.Proofs.Tryz.func65 (by kernel_rfl) (fun C=>slices_Clone_uint64_uint64 C s sn sc h K Kp) (fun C=>by kernel_rfl) H
theorem call_slices_SortStableFunc_api_Instance_api_Instance {x:Option Addr} {xn:Nat} {xc:Nat} {cmp:Value} {h:Heap} {K:VK} {Kp:PK} (H:slices_SortStableFunc_api_Instance_api_Instance (CallsHP Go.Proofs.Tryz.prog) x xn xc cmp h K Kp):CallsHP Go.Proofs.Tryz.prog F_slices_SortStableFunc_api_Instance_api_Instance #[.slice x xn xc,cmp] h K Kp :=
 callsHP_ofE (Hints.mk (fun i=>none) (fun i=>none) (fun i=>none) []) (by kernel_rfl) Go.Proofs.Tryz.func66 (by kernel_rfl) (fun C=>slices_SortStableFunc_api_Instance_api_Instance C x xn xc cmp h K Kp) (fun C=>by kernel_rfl) H
theorem call_slices_ContainsFunc_api_Bitmap_api_Bitmap {s:Option Addr} {sn:Nat} {sc:Nat} {f:Value} {h:Heap} {K:VK} {Kp:PK} (H:slices_ContainsFunc_api_Bitmap_api_Bitmap (CallsHP Go.Proofs.Tryz.prog) s sn sc f h K Kp):CallsHP Go.Proofs.Tryz.prog F_slices_ContainsFunc_api_Bitmap_api_Bitmap #[.slice s sn sc,f] h K Kp :=
 callsHP_ofE (Hints.mk (fun i=>none) (fun i=>none) (fun i=>none) []) (by kernel_rfl) Go.Proofs.Tryz.func74 (by kernel_rfl) (fun C=>slices_ContainsFunc_api_Bitmap_api_Bitmap C s sn sc f h K Kp) (fun C=>by kernel_rfl) H
theorem call_slices_stableCmpFunc_api_Instance {data:Option Addr} {datan:Nat} {datac:Nat} {n:Int} {cmp:Value} {h:Heap} {K:VK} {Kp:PK} (H:slices_stableCmpFunc_api_Instance (CallsHP Go.Proofs.Tryz.prog) data datan datac n cmp h K Kp):CallsHP Go.Proofs.Tryz.prog F_slices_stableCmpFunc_api_Instance #[.slice data datan datac, .int .i64 n,cmp] h K Kp :=
 callsHP_ofE (Hints.mk (fun i=>none) (fun i=>bif Nat.beq i 2 then some ([(7, .int .i64),(8, .int .i64)],8386944) else (bif Nat.beq i 7 then some ([(6, .int .i64)],9223372036586341312) else (bif Nat.beq i 9 then some ([(7, .int .i64),(8, .int .i64)],562941363487104) else (none)))) (fun i=>none) []) (by kernel_rfl) Go.Proofs.Tryz.func116 (by kernel_rfl) (fun C=>slices_stableCmpFunc_api_Instance C data datan datac n cmp h K Kp) (fun C=>by kernel_rfl) H
theorem call_slices_IndexFunc_api_Bitmap_api_Bitmap {s:Option Addr} {sn:Nat} {sc:Nat} {f:Value} {h:Heap} {K:VK} {Kp:PK} (H:slices_IndexFunc_api_Bitmap_api_Bitmap (CallsHP Go.Proofs.Tryz.prog) s sn sc f h K Kp):CallsHP Go.Proofs.Tryz.prog F_slices_IndexFunc_api_Bitmap_api_Bitmap #[.slice s sn sc,f] h K Kp :=
 callsHP_ofE (Hints.mk (fun i=>none) (fun i=>bif Nat.beq i 2 then some ([(8, .int .i64)],524080) else (none)) (fun i=>none) []) (by kernel_rfl) Go.Proofs.Tryz.func118 (by kernel_rfl) (fun C=>slices_IndexFunc_api_Bitmap_api_Bitmap C s sn sc f h K Kp) (fun C=>by kernel_rfl) H
theorem call_slices_ContainsFunc_api_Instance_api_Instance {s:Option Addr} {sn:Nat} {sc:Nat} {f:Value} {h:Heap} {K:VK} {Kp:PK} (H:slices_ContainsFunc_api_Instance_api_Instance (CallsHP Go.Proofs.Tryz.prog) s sn sc f h K Kp):CallsHP Go.Proofs.Tryz.prog F_slices_ContainsFunc_api_Instance_api_Instance #[.slice s sn sc,f] h K Kp :=
 callsHP_ofE (Hints.mk (fun i=>none) (fun i=>none) (fun i=>none) []) (by kernel_rfl) Go.Proofs.Tryz.func137 (by kernel_rfl) (fun C=>slices_ContainsFunc_api_Instance_api_Instance C s sn sc f h K Kp) (fun C=>by kernel_rfl) H
theorem call_slices_insertionSortCmpFunc_api_Instance {data:Option Addr} {datan:Nat} {datac:Nat} {a:Int} {b:Int} {cmp:Value} {h:Heap} {K:VK} {Kp:PK} (H:slices_insertionSortCmpFunc_api_Instance (CallsHP Go.Proofs.Tryz.prog) data datan datac a b cmp h K Kp):CallsHP Go.Proofs.Tryz.prog F_slices_insertionSortCmpFunc_api_Instance #[.slice data datan datac, .int .i64 a, .int .i64 b,cmp] h K Kp :=
 callsHP_ofE (Hints.mk (fun i=>bif Nat.beq i 4 then some ([14], .take 0 <| .take 1 <| .take 2 <| .take 3 <| .take 4 <| .take 5 <| .take 6 <| .take 7 <| .take 9 <| .take 10 <| .take 11 <| .take 12 <| .take 8 <| .take 13 <| .bar 14 [] <| .take 15 <| .take 16 <| .done) else (bif Nat.beq i 6 then some ([15,17], .take 0 <| .take 1 <| .take 2 <| .take 3 <| .take 4 <| .take 5 <| .take 6 <| .take 7 <| .take 8 <| .take 10 <| .take 11 <| .take 12 <| .take 9 <| .take 13 <| .take 14 <| .bar 15 [17] <| .take 16 <| .bar 17 [] <| .done) else (none))) (fun i=>bif Nat.beq i 1 then some ([(8, .int .i64)],9007199254737664) else (bif Nat.beq i 4 then some ([(9, .int .i64)],9007199254479360) else (none))) (fun i=>none) []) (by kernel_rfl) Go.Proofs.Tryz.func163 (by kernel_rfl) (fun C=>slices_insertionSortCmpFunc_api_Instance C data datan datac a b cmp h K Kp) (fun C=>by kernel_rfl) H
theorem call_slices_symMergeCmpFunc_api_Instance {data:Option Addr} {datan:Nat} {datac:Nat} {a:Int} {m:Int} {b:Int} {cmp:Value} {h:Heap} {K:VK} {Kp:PK} (H:slices_symMergeCmpFunc_api_Instance (CallsHP Go.Proofs.Tryz.prog) data datan datac a m b cmp h K Kp):CallsHP Go.Proofs.Tryz.prog F_slices_symMergeCmpFunc_api_Instance #[.slice data datan datac, .int .i64 a, .int .i64 m, .int .i64 b,cmp] h K Kp :=
 callsHP_ofE (Hints.mk (fun i=>bif Nat.beq i 5 then some ([9], .take 0 <| .take 1 <| .take 2 <| .take 3 <| .take 5 <| .take 6 <| .take 7 <| .take 4 <| .take 8 <| .bar 9 [] <| .take 10 <| .done) else (bif Nat.beq i 11 then some ([15,17], .take 0 <| .take 1 <| .take 2 <| .take 3 <| .take 4 <| .take 5 <| .take 6 <| .take 7 <| .take 8 <| .take 10 <| .take 11 <| .take 12 <| .take 9 <| .take 13 <| .take 14 <| .bar 15 [17] <| .take 16 <| .bar 17 [] <| .done) else (bif Nat.beq i 17 then some ([9], .take 0 <| .take 1 <| .take 2 <| .take 3 <| .take 5 <| .take 6 <| .take 7 <| .take 4 <| .take 8 <| .bar 9 [] <| .take 10 <| .take 11 <| .done) else (bif Nat.beq i 23 then some ([15,17], .take 0 <| .take 1 <| .take 2 <| .take 3 <| .take 4 <| .take 5 <| .take 6 <| .take 7 <| .take 8 <| .take 10 <| .take 11 <| .take 12 <| .take 9 <| .take 13 <| .take 14 <| .bar 15 [17] <| .take 16 <| .bar 17 [] <| .done) else (bif Nat.beq i 35 then some ([11], .take 0 <| .take 1 <| .take 2 <| .take 3 <| .take 4 <| .take 5 <| .take 7 <| .take 8 <| .take 9 <| .take 6 <| .take 10 <| .bar 11 [] <| .take 12 <| .take 13 <| .done) else (none)))))) (fun i=>bif Nat.beq i 3 then some ([(10, .int .i64),(11, .int .i64)],18014396362005504) else (bif Nat.beq i 9 then some ([(13, .int .i64)],151115691423031627882496) else (bif Nat.beq i 15 then some ([(14, .int .i64),(15, .int .i64)],162259267157806806474544612753408) else (bif Nat.beq i 21 then some ([(17, .int .i64)],680564409323323268500022431707515977728) else (bif Nat.beq i 33 then some ([(20, .int .i64),(21, .int .i64)],47890484938435180470718404069304177263338029388398592) else (none)))))) (fun i=>bif Nat.beq i 32 then some ([(20, .int .i64),(21, .int .i64)],178057512444517944145699250583176761402458112) else (bif Nat.beq i 41 then some ([],6276718611501464291621199836450878838806450759683488612352) else (bif Nat.beq i 43 then some ([],102837757730839990953921738120411198895004889246654277424775168) else (none)))) []) (by kernel_rfl) Go.Proofs.Tryz.func164 (by kernel_rfl) (fun C=>slices_symMergeCmpFunc_api_Instance C data datan datac a m b cmp h K Kp) (fun C=>by kernel_rfl) H
theorem call_slices_IndexFunc_api_Instance_api_Instance {s:Option Addr} {sn:Nat} {sc:Nat} {f:Value} {h:Heap} {K:VK} {Kp:PK} (H:slices_IndexFunc_api_Instance_api_Instance (CallsHP Go.Proofs.Tryz.prog) s sn sc f h K Kp):CallsHP Go.Proofs.Tryz.prog F_slices_IndexFunc_api_Instance_api_Instance #[.slice s sn sc,f] h K Kp :=
 callsHP_ofE (Hints.mk (fun i=>none) (fun i=>bif Nat.beq i 2 then some ([(8, .int .i64)],524080) else (none)) (fun i=>none) []) (by kernel_rfl) Go.Proofs.Tryz.func178 (by kernel_rfl) (fun C=>slices_IndexFunc_api_Instance_api_Instance C s sn sc f h K Kp) (fun C=>by kernel_rfl) H
theorem call_slices_rotateCmpFunc_api_Instance {data:Option Addr} {datan:Nat} {datac:Nat} {a:Int} {m:Int} {b:Int} {cmp:Value} {h:Heap} {K:VK} {Kp:PK} (H:slices_rotateCmpFunc_api_Instance (CallsHP Go.Proofs.Tryz.prog) data datan datac a m b cmp h K Kp):CallsHP Go.Proofs.Tryz.prog F_slices_rotateCmpFunc_api_Instance #[.slice data datan datac, .int .i64 a, .int .i64 m, .int .i64 b,cmp] h K Kp :=
 callsHP_ofE (Hints.mk (fun i=>none) (fun i=>bif Nat.beq i 2 then some ([(10, .int .i64),(11, .int .i64)],1125899906583552) else (none)) (fun i=>none) []) (by kernel_rfl) Go.Proofs.Tryz.func191 (by kernel_rfl) (fun C=>slices_rotateCmpFunc_api_Instance C data datan datac a m b cmp h K Kp) (fun C=>by kernel_rfl) H
theorem call_slices_Equal_uint64_uint64 {s1:Option Addr} {s1n:Nat} {s1c:Nat} {s2:Option Addr} {s2n:Nat} {s2c:Nat} {h:Heap} {K:VK} {Kp:PK} (H:slices_Equal_uint64_uint64 (CallsHP Go.Proofs.Tryz.prog) s1 s1n s1c s2 s2n s2c h K Kp):CallsHP Go.Proofs.Tryz.prog F_slices_Equal_uint64_uint64 #[.slice s1 s1n s1c, .slice s2 s2n s2c] h K Kp :=
 callsHP_ofE (Hints.mk (fun i=>bif Nat.beq i 6 then some ([], .take 0 <| .take 1 <| .take 2 <| .take 4 <| .take 5 <| .take 6 <| .take 3 <| .take 7 <| .take 8 <| .done) else (none)) (fun i=>bif Nat.beq i 4 then some ([(13, .int .i64)],67100720) else (none)) (fun i=>none) []) (by kernel_rfl) Go.Proofs.Tryz.func197 (by kernel_rfl) (fun C=>slices_Equal_uint64_uint64 C s1 s1n s1c s2 s2n s2c h K Kp) (fun C=>by kernel_rfl) H
theorem call_slices_swapRangeCmpFunc_api_Instance {data:Option Addr} {datan:Nat} {datac:Nat} {a:Int} {b:Int} {n:Int} {cmp:Value} {h:Heap} {K:VK} {Kp:PK} (H:slices_swapRangeCmpFunc_api_Instance (CallsHP Go.Proofs.Tryz.prog) data datan datac a b n cmp h K Kp):CallsHP Go.Proofs.Tryz.prog F_slices_swapRangeCmpFunc_api_Instance #[.slice data datan datac, .int .i64 a, .int .i64 b, .int .i64 n,cmp] h K Kp :=
 callsHP_ofE (Hints.mk (fun i=>bif Nat.beq i 3 then some ([21,23], .take 0 <| .take 1 <| .take 2 <| .take 3 <| .take 4 <| .take 5 <| .take 6 <| .take 7 <| .take 8 <| .take 9 <| .take 10 <| .take 11 <| .take 12 <| .take 14 <| .take 15 <| .take 16 <| .take 17 <| .take 18 <| .take 13 <| .take 19 <| .take 20 <| .bar 21 [23] <| .take 22 <| .bar 23 [] <| .done) else (none)) (fun i=>bif Nat.beq i 1 then some ([(10, .int .i64)],274877905920) else (none)) (fun i=>none) []) (by kernel_rfl) Go.Proofs.Tryz.func206 (by kernel_rfl) (fun C=>slices_swapRangeCmpFunc_api_Instance C data datan datac a b n cmp h K Kp) (fun C=>by kernel_rfl) H
end Go.Den.YtbknfejmdekhpaaGreat
namespace Go.Bm
open Go Go.Den Go.Den.YtbknfejmdekhpaaGreat
abbrev CP:CallP:=CallsHP Go.Proofs.Tryz.prog
abbrev at0 (p:Nat):Option Addr:=some ⟨p,0,none⟩
theorem bcase_dec {p:Prop} [Decidable p] {X Y:Prop} (ht:p->X) (hf:¬ p->Y):bcase (decide p) X Y :=
 bcase_of (fun h=>ht (of_decide_eq_true h)) fun h=>hf (of_decide_eq_false h)
theorem bcase_eq {a b:Int} {X Y:Prop} (ht:a=b->X) (hf:a≠b->Y):bcase (a == b) X Y :=
 bcase_of (fun h=>ht (by simpa using h)) fun h=>hf (by simpa using h)
theorem bcase_ne {a b:Int} {X Y:Prop} (ht:a≠b->X) (hf:a=b->Y):bcase (a != b) X Y :=
 bcase_of (fun h=>ht (by simpa using h)) fun h=>hf (by simpa using h)
theorem bcase_not {b:Bool} {X Y:Prop} (ht:b=false->X) (hf:b=true->Y):bcase (!b) X Y :=
 bcase_of (fun h=>ht (by simpa using h)) fun h=>hf (by simpa using h)
theorem add_zero' (a:Addr):a.add 0=a:=by unfold Addr.add; rw [if_pos rfl]
theorem rdO_cell {h:Heap} {a:Option Addr} {n:Nat} {cs:List Value} (hr:rdO h a n cs) {i:Nat} {v:Value} (hi:cs[i]? = some v):∃ ad,a=some ad/\hcell h (ad.add i)=some v:=by
 cases a with
 | none=>unfold rdO at hr; rw [hr] at hi; simp at hi
 | some ad=>exact ⟨ad,rfl,hr.2 i v hi⟩
def SizeP (w h:Int):Prop:=1<=w/\1<=h/\w<=1048576/\h<=1048576/\w*h<=1048576
theorem prod_le {w h:Int} (h1:1<=w) (h2:1<=h) (h3:w<=1048576) (h4:h<=1048576):1<=w*h/\w*h<=1099511627776:=by
 constructor
 ·have:=Int.mul_le_mul h1 h2 (by omega) (by omega)
  omega
 ·have:=Int.mul_le_mul h3 h4 (by omega) (by omega)
  omega
theorem sized_ok {h:Heap} {w h':Int} {K:VK} {Kp:PK} (hk:∀ b:Bool,(b=true↔SizeP w h')->K (.bool b) h):CP F_bitmap_sized #[.int .i64 w, .int .i64 h'] h K Kp:=by
 refine call_bitmap_sized ?_
 unfold bitmap_sized
 refine bcase_dec (fun h1=>?_) fun h1=>hk false (by simp [SizeP]; omega)
 refine bcase_dec (fun h2=>?_) fun h2=>hk false (by simp [SizeP]; omega)
 refine bcase_dec (fun h3=>?_) fun h3=>hk false (by simp [SizeP]; omega)
 refine bcase_dec (fun h4=>?_) fun h4=>hk false (by simp [SizeP]; omega)
 obtain ⟨g1,g2⟩:=prod_le h1 h2 h3 h4
 refine bindI_of ((w*h')) (by exact i64_in _ (by omega) (by omega)) ?_
 exact hk _ (by simp [SizeP]; omega)
theorem rsize_ok {h:Heap} {w h':Int} {K:VK} {Kp:PK} (hk:∀ b:Bool,(b=true↔SizeP w h')->K (.bool b) h):CP F_burinref0_Size #[.int .i64 w, .int .i64 h'] h K Kp:=by
 refine call_burinref0_Size ?_
 unfold burinref0_Size
 refine bcase_dec (fun h1=>?_) fun h1=>hk false (by simp [SizeP]; omega)
 refine bcase_dec (fun h2=>?_) fun h2=>hk false (by simp [SizeP]; omega)
 refine bcase_dec (fun h3=>?_) fun h3=>hk false (by simp [SizeP]; omega)
 refine needs_of (by first | exact ⟨rfl,by omega⟩ | exact ⟨trivial,by omega⟩) ?_
 obtain ⟨W,rfl⟩:∃ W:Nat,w=(W:Nat):=⟨w.toNat,by omega⟩
 obtain ⟨X,rfl⟩:∃ X:Nat,h'=(X:Nat):=⟨h'.toNat,by omega⟩
 have hW:1<=W:=by omega
 have hq:=Nat.div_le_self 1048576 W
 obtain ⟨Q,hQ⟩:∃ Q,Q=1048576 / W:=⟨_,rfl⟩
 refine bindI_of (((Q:Nat):Int)) (by exact i64_at _ _ (by rw [hQ]; exact tdiv_nat 1048576 W) (by omega) (by omega)) ?_
 refine hk _ ?_
 rw [decide_eq_true_iff]
 have hm:=Nat.le_div_iff_mul_le (k:=W) (x:=X) (y:=1048576) (by omega)
 unfold SizeP
 constructor
 ·intro h5
  have h6:X<=1048576 / W:=by omega
  have h7:=hm.1 h6
  rw [Nat.mul_comm] at h7
  refine ⟨h1,h2,h3,by omega,?_⟩
  rw [<- Int.natCast_mul]
  omega
 ·rintro ⟨_,_,_,_,h7⟩
  rw [<- Int.natCast_mul] at h7
  have h8:W*X<=1048576:=by omega
  rw [Nat.mul_comm] at h8
  have:=hm.2 h8
  omega
theorem words_ok {h:Heap} {w:Nat} (hw:w<=1048576) {K:VK} {Kp:PK} (hk:K (.int .i64 (wds w:Nat)) h):CP F_burinref0_words #[.int .i64 (w:Nat)] h K Kp:=by
 refine call_burinref0_words ?_
 unfold burinref0_words
 refine bindI_of (((w+63:Nat):Int)) (by exact i64_at _ _ (by omega) (by omega) (by omega)) ?_
 refine bindI_of (((wds w:Nat):Int)) (by exact i64_at _ _ (tdiv_nat (w+63) 64) (by unfold wds; omega) (by unfold wds; omega)) ?_
 exact hk
def padn (w:Nat):Nat:=(64-w % 64) % 64
theorem last_ok {h:Heap} {w:Nat} {K:VK} {Kp:PK} (hk:∀ L:Nat,L<M64->(∀ j,j<64->L.testBit j=decide (padn w<=j))->K (.int .u64 (L:Nat)) h):CP F_bitmap_last #[.int .i64 (w:Nat)] h K Kp:=by
 refine call_bitmap_last ?_
 unfold bitmap_last
 have h64:=Nat.mod_lt w (show 64 > 0 by decide)
 refine bindI_of (((w % 64:Nat):Int)) (by exact tmod_nat w 64) ?_
 refine bindI_of (((64-w % 64:Nat):Int)) (by exact i64_at _ _ (by omega) (by omega) (by omega)) ?_
 refine bindI_of (((padn w:Nat):Int)) (by exact tmod_nat (64-w % 64) 64) ?_
 have hp:padn w<64:=Nat.mod_lt _ (by decide)
 refine needs_of (by omega) ?_
 have hlt:18446744073709551615*2 ^ padn w % M64<M64:=Nat.mod_lt _ (by decide)
 refine bindI_of (((18446744073709551615*2 ^ padn w % M64:Nat):Int)) (by exact shl_of (x:=18446744073709551615) (i:=padn w) (by show padn w<=64; omega) (by simp [IntKind.wrap,IntKind.bits,IntKind.signed])) ?_
 refine hk _ hlt fun j hj=>?_
 rw [M64_pow,Nat.testBit_mod_two_pow,decide_eq_true hj,Bool.true_and,show 18446744073709551615=2 ^ 64-1 from rfl,Nat.testBit_mul_two_pow,Nat.testBit_two_pow_sub_one]
 by_cases h1:padn w<=j
 ·simp [h1]; omega
 ·simp [h1]
def MayP (w h:Int) (ws:List Nat):Prop:=SizeP w h/\ws.length=h.toNat*wds w.toNat/\∀ y,y<h.toNat->ws.getD (y*wds w.toNat+(wds w.toNat-1)) 0 % 2 ^ padn w.toNat=0
theorem mod_zero_bits {v s:Nat}:v % 2 ^ s=0↔∀ j,j<s->v.testBit j=false:=by
 constructor
 ·intro h j hj
  have:=Nat.testBit_mod_two_pow v s j
  rw [h,decide_eq_true hj,Bool.true_and,Nat.zero_testBit] at this
  exact this.symm
 ·intro h
  apply Nat.eq_of_testBit_eq
  intro j
  rw [Nat.testBit_mod_two_pow,Nat.zero_testBit]
  by_cases hj:j<s
  ·rw [h j hj]; simp
  ·simp [hj]
theorem not_last {v L w:Nat} (hv:v<M64) (hL:L<M64) (h:∀ j,j<64->L.testBit j=decide (padn w<=j)):v &&& wnot L=0↔v % 2 ^ padn w=0:=by
 have hp:padn w<64:=Nat.mod_lt _ (by decide)
 rw [mod_zero_bits]
 constructor
 ·intro h1 j hj
  have:(v &&& wnot L).testBit j=false:=by rw [h1]; exact Nat.zero_testBit j
  rw [Nat.testBit_and,wnot_bit hL (by omega),h j (by omega)] at this
  simpa [show ¬ padn w<=j by omega] using this
 ·intro h1
  apply Nat.eq_of_testBit_eq
  intro j
  rw [Nat.zero_testBit,Nat.testBit_and]
  rcases Nat.lt_or_ge j 64 with hj | hj
  ·rw [wnot_bit hL hj,h j hj]
   by_cases h2:padn w<=j
   ·simp [h2]
   ·rw [h1 j (by omega)]; simp
  ·rw [bits_lt hv hj]; simp
theorem size_nat {w h:Int} (hs:SizeP w h):∃ W H:Nat,w=(W:Nat)/\h=(H:Nat)/\1<=W/\W<=1048576/\1<=H/\H<=1048576/\W*H<=1048576:=by
 obtain ⟨h1,h2,h3,h4,h5⟩:=hs
 refine ⟨w.toNat,h.toNat,by omega,by omega,by omega,by omega,by omega,by omega,?_⟩
 have e1:((w.toNat:Nat):Int)=w:=by omega
 have e2:((h.toNat:Nat):Int)=h:=by omega
 have:((w.toNat*h.toNat:Nat):Int)<=1048576:=by rw [Int.natCast_mul,e1,e2]; exact h5
 omega
theorem wds_pos {w:Nat} (h:1<=w):1<=wds w:=by unfold wds; omega
theorem wds_le {w:Nat} (h:1<=w):wds w<=w:=by unfold wds; omega
theorem hw_le {W H:Nat} (h1:1<=W) (h:W*H<=1048576):H*wds W<=1048576 :=
 Nat.le_trans (Nat.mul_le_mul_left H (wds_le h1)) (by rw [Nat.mul_comm]; exact h)
theorem check_ok {hB:Heap} {w h':Int} {q:Option Addr} {c:Nat} {ws:List Nat} (hr:rdO hB q (ws.length*1) (u64s ws)) (hw:W64 ws) (hl:ws.length<140737488351300) {K:VK} {Kp:PK}
  (hk:∀ (b:Bool) h,(b=true↔MayP w h' ws)->hext hB h->K (.bool b) h):CP F_bitmap_Check #[.agg #[.int .i64 w, .int .i64 h', .slice q ws.length c]] hB K Kp:=by
 refine call_bitmap_Check ?_
 unfold bitmap_Check
 have H:=Hp.nil hB []
 refine newC_hp H fun r h H=>?_
 try simp only [ptr_some_eq,add_mk,Nat.zero_add,Nat.add_zero]
 refine ldI_of (H.cell 0 rfl rfl) ?_
 refine ldI_of (H.cell 0 rfl rfl) ?_
 refine sized_ok fun b hb=>?_
 refine ⟨_,rfl,?_⟩
 refine bcase_not (fun h1=>?_) fun h1=>?_
 ·refine hk false _ ⟨(fun h=>Bool.noConfusion h),fun hm=>?_⟩ H.hext
  have:=hb.2 hm.1
  rw [h1] at this; cases this
 obtain ⟨W,X,rfl,rfl,hW1,hW2,hX1,hX2,hWX⟩:=size_nat (hb.1 h1)
 have hwd:=wds_pos hW1
 have hwl:=wds_le hW1
 have hhw:=hw_le hW1 hWX
 refine ldI_of (H.cell 0 rfl rfl) ?_
 refine bindI_of (((W+63:Nat):Int)) (by exact i64_at _ _ (by omega) (by omega) (by omega)) ?_
 refine bindI_of (((wds W:Nat):Int)) (by exact i64_at _ _ (tdiv_nat (W+63) 64) (by unfold wds; omega) (by unfold wds; omega)) ?_
 refine ldS_of (H.cell 0 rfl rfl) ?_
 refine ldI_of (H.cell 0 rfl rfl) ?_
 refine bindI_of (((X*wds W:Nat):Int)) (by exact i64_at _ _ (by rw [Int.natCast_mul]) (by omega) (by omega)) ?_
 refine bcase_ne (fun h2=>?_) fun h2=>?_
 ·exact hk false _ ⟨(fun h=>Bool.noConfusion h),fun hm=>absurd (by exact_mod_cast hm.2.1) h2⟩ H.hext
 have h2:ws.length=X*wds W:=by exact_mod_cast h2
 refine ldI_of (H.cell 0 rfl rfl) ?_
 refine ⟨fun n vs h=>∃ y:Nat,y+n=X/\vs=[.int .i64 (y:Int)]/\Hp hB [] h [⟨r,true,T_api_Bitmap,[.int .i64 (W:Nat), .int .i64 (X:Nat), .slice q ws.length c]⟩]/\∀ y',y'<y->ws.getD (y'*wds W+(wds W-1)) 0 % 2 ^ padn W=0,⟨X,0,by omega,rfl,H,fun y' h=>by omega⟩,?_⟩
 clear H
 rintro n h u x ⟨y,hyn,hx,H,hz⟩
 injection hx with hx
 injection hx with _ hx
 subst hx
 refine bcase_dec (fun h3=>?_) fun h3=>?_
 ·have h3:y<X:=by omega
  have hil:=idx_lt (c:=wds W-1) (wd:=wds W) (y:=y) (h:=X) (by omega) h3
  refine bindI_of (((y*wds W:Nat):Int)) (by exact i64_at _ _ (by rw [Int.natCast_mul]) (by omega) (by omega)) ?_
  refine bindI_of (((y*wds W+wds W:Nat):Int)) (by exact i64_at _ _ (by omega) (by omega) (by omega)) ?_
  refine bindI_of (((y*wds W+(wds W-1):Nat):Int)) (by exact i64_at _ _ (by omega) (by omega) (by omega)) ?_
  refine ldS_of (H.cell 0 rfl rfl) ?_
  refine needs_of (by omega) ?_
  obtain ⟨a,ha,hc⟩:=rdO_cell (H.rdO hr) (u64s_get (getD_get (l:=ws) (i:=y*wds W+(wds W-1)) (by omega)))
  subst ha
  simp only [ptr_some_eq,Int.toNat_natCast,Nat.mul_one]
  refine ldI_of hc ?_
  refine ldI_of (H.cell 0 rfl rfl) ?_
  refine last_ok fun L hL hLb=>?_
  refine ⟨_,rfl,hext.refl _,?_⟩
  have hv:=hw.get (y*wds W+(wds W-1))
  have hnl:=not_last hv hL hLb
  refine bindI_of _ (andNot64 _ _ hv hL) ?_
  refine bcase_ne (fun h4=>?_) fun h4=>?_
  ·exact hk false _ ⟨(fun h=>Bool.noConfusion h),fun hm=>absurd (by exact_mod_cast hnl.2 (hm.2.2 y (by simpa using h3))) h4⟩ H.hext
  ·refine bindI_of (((y+1:Nat):Int)) (by exact i64_at _ _ (by omega) (by omega) (by omega)) ?_
   refine ⟨n-1,by omega,y+1,by omega,rfl,H,fun y' hy'=>?_⟩
   rcases Nat.lt_or_ge y' y with h5 | h5
   ·exact hz y' h5
   ·have:y'=y:=by omega
    subst this
    exact hnl.1 (by exact_mod_cast h4)
 ·have h3:y=X:=by omega
  subst h3
  exact hk true _ ⟨fun _=>⟨hb.1 h1,by simpa using h2,fun y' hy'=>by simpa using hz y' (by simpa using hy')⟩,fun _=>rfl⟩ H.hext
theorem shl_zero {v s:Nat} (hs:s<=64):v*2 ^ s % M64=0↔v % 2 ^ (64-s)=0:=by
 have e:M64=2 ^ (64-s)*2 ^ s:=by rw [<- Nat.pow_add,show 64-s+s=64 by omega]
 rw [e,Nat.mul_mod_mul_right]
 constructor
 ·intro h
  rcases Nat.mul_eq_zero.1 h with h1 | h1
  ·exact h1
  ·have:=Nat.two_pow_pos s; omega
 ·intro h; rw [h,Nat.zero_mul]
theorem may_ok {hB:Heap} {w h':Int} {q:Option Addr} {c:Nat} {ws:List Nat} (hr:rdO hB q (ws.length*1) (u64s ws)) (hw:W64 ws) (hl:ws.length<140737488351300) {K:VK} {Kp:PK}
  (hk:∀ (b:Bool) h,(b=true↔MayP w h' ws)->hext hB h->K (.bool b) h):CP F_burinref0_May #[.agg #[.int .i64 w, .int .i64 h', .slice q ws.length c]] hB K Kp:=by
 refine call_burinref0_May ?_
 unfold burinref0_May
 have H:=Hp.nil hB []
 refine newC_hp H fun r h H=>?_
 try simp only [ptr_some_eq,add_mk,Nat.zero_add,Nat.add_zero]
 refine ldI_of (H.cell 0 rfl rfl) ?_
 refine ldI_of (H.cell 0 rfl rfl) ?_
 refine rsize_ok fun b hb=>?_
 refine ⟨_,rfl,?_⟩
 refine bcase_not (fun h1=>?_) fun h1=>?_
 ·refine ⟨hext.refl _,hk false _ ⟨(fun h=>Bool.noConfusion h),fun hm=>?_⟩ H.hext⟩
  have:=hb.2 hm.1
  rw [h1] at this; cases this
 obtain ⟨W,X,rfl,rfl,hW1,hW2,hX1,hX2,hWX⟩:=size_nat (hb.1 h1)
 have hwd:=wds_pos hW1
 have hwl:=wds_le hW1
 have hhw:=hw_le hW1 hWX
 refine ldS_of (H.cell 0 rfl rfl) ?_
 refine ldI_of (H.cell 0 rfl rfl) ?_
 refine ldI_of (H.cell 0 rfl rfl) ?_
 refine words_ok (by omega) ?_
 refine ⟨_,rfl,hext.refl _,?_⟩
 refine bindI_of (((X*wds W:Nat):Int)) (by exact i64_at _ _ (by rw [Int.natCast_mul]) (by omega) (by omega)) ?_
 refine bcase_ne (fun h2=>?_) fun h2=>?_
 ·exact hk false _ ⟨(fun h=>Bool.noConfusion h),fun hm=>absurd (by exact_mod_cast hm.2.1) h2⟩ H.hext
 have h2:ws.length=X*wds W:=by exact_mod_cast h2
 refine ldI_of (H.cell 0 rfl rfl) ?_
 have h64:=Nat.mod_lt W (show 64 > 0 by decide)
 refine bindI_of (((W % 64:Nat):Int)) (by exact tmod_nat W 64) ?_
 refine bcase_eq (fun h3=>?_) fun h3=>?_
 ·have h3:W % 64=0:=by omega
  refine hk true _ ⟨fun _=>⟨hb.1 h1,by simpa using h2,fun y' hy'=>?_⟩,fun _=>rfl⟩ H.hext
  have:padn W=0:=by unfold padn; rw [h3]
  simp [this,Nat.mod_one]
 have h3:W % 64≠0:=by omega
 have hpad:padn W=64-W % 64:=by unfold padn; omega
 refine ⟨fun n vs h=>∃ y:Nat,y+n=X/\vs=[.int .i64 (y:Int)]/\Hp hB [] h [⟨r,true,T_api_Bitmap,[.int .i64 (W:Nat), .int .i64 (X:Nat), .slice q ws.length c]⟩]/\∀ y',y'<y->ws.getD (y'*wds W+(wds W-1)) 0 % 2 ^ padn W=0,⟨X,0,by omega,rfl,H,fun y' h=>by omega⟩,?_⟩
 clear H
 rintro n h u x ⟨y,hyn,hx,H,hz⟩
 injection hx with hx
 injection hx with _ hx
 subst hx
 refine ldI_of (H.cell 0 rfl rfl) ?_
 refine bcase_dec (fun h4=>?_) fun h4=>?_
 ·have h4:y<X:=by omega
  have hil:=idx_lt (c:=wds W-1) (wd:=wds W) (y:=y) (h:=X) (by omega) h4
  refine bindI_of (((y+1:Nat):Int)) (by exact i64_at _ _ (by omega) (by omega) (by omega)) ?_
  refine ldS_of (H.cell 0 rfl rfl) ?_
  refine ldI_of (H.cell 0 rfl rfl) ?_
  refine ldI_of (H.cell 0 rfl rfl) ?_
  refine bindI_of (((W % 64:Nat):Int)) (by exact tmod_nat W 64) ?_
  refine bindI_of (((W % 64:Nat):Int)) (by exact u64_in _ (by omega) (by omega)) ?_
  refine words_ok (by omega) ?_
  refine ⟨_,rfl,hext.refl _,?_⟩
  have hyw:(y+1)*wds W=y*wds W+wds W:=by rw [Nat.add_mul,Nat.one_mul]
  refine bindI_of (((y*wds W+wds W:Nat):Int)) (by exact i64_at _ _ (by rw [<- Int.natCast_mul,hyw]) (by omega) (by omega)) ?_
  refine bindI_of (((y*wds W+(wds W-1):Nat):Int)) (by exact i64_at _ _ (by omega) (by omega) (by omega)) ?_
  refine needs_of (by omega) ?_
  obtain ⟨a,ha,hc⟩:=rdO_cell (H.rdO hr) (u64s_get (getD_get (l:=ws) (i:=y*wds W+(wds W-1)) (by omega)))
  subst ha
  simp only [ptr_some_eq,Int.toNat_natCast,Nat.mul_one]
  refine ldI_of hc ?_
  refine needs_of (by omega) ?_
  have hv:=hw.get (y*wds W+(wds W-1))
  generalize hvv:ws.getD (y*wds W+(wds W-1)) 0=v at hv ⊢
  refine bindI_of (((v*2 ^ (W % 64) % M64:Nat):Int)) (by exact shl_of (i:=W % 64) (by show W % 64<=64; omega) (by simp [IntKind.wrap,IntKind.bits,IntKind.signed])) ?_
  have hnl:=shl_zero (v:=v) (s:=W % 64) (by omega)
  rw [<- hpad] at hnl
  refine bcase_ne (fun h5=>?_) fun h5=>?_
  ·refine hk false _ ⟨(fun h=>Bool.noConfusion h),fun hm=>absurd (by exact_mod_cast hnl.2 (by rw [<- hvv]; exact hm.2.2 y (by simpa using h4))) h5⟩ H.hext
  ·refine bindI_of (((y+1:Nat):Int)) (by exact i64_at _ _ (by omega) (by omega) (by omega)) ?_
   refine ⟨n-1,by omega,y+1,by omega,rfl,H,fun y' hy'=>?_⟩
   rcases Nat.lt_or_ge y' y with h6 | h6
   ·exact hz y' h6
   ·have:y'=y:=by omega
    subst this
    rw [hvv]
    exact hnl.1 (by exact_mod_cast h5)
 ·have h4:y=X:=by omega
  subst h4
  exact hk true _ ⟨fun _=>⟨hb.1 h1,by simpa using h2,fun y' hy'=>by simpa using hz y' (by simpa using hy')⟩,fun _=>rfl⟩ H.hext
def InI (x:Int):Prop:=-9223372036854775808<=x/\x<9223372036854775808
theorem min_of {a b:Int} {K:Int->Prop} (h:∀ m,(m=a/\a<=b\/m=b/\b<=a)->K m):bindI (minI a b) K:=by
 refine bindI_gen fun m e=>h m ?_
 unfold minI at e
 split at e <;> omega
theorem max_of {a b:Int} {K:Int->Prop} (h:∀ m,(m=a/\b<=a\/m=b/\a<=b)->K m):bindI (maxI a b) K:=by
 refine bindI_gen fun m e=>h m ?_
 unfold maxI at e
 split at e <;> omega
theorem cut_ok {h:Heap} {off n size:Int} (ho:InI off) (hn:InI n) (hs:1<=size/\size<=1048576) {K:VK} {Kp:PK}
  (hk:∀ skip left:Int,(left=0/\skip=0/\(n<=0\/size<=off\/off+n<=0)\/1<=left/\0<=skip/\0<=off+skip/\off+skip+left<=size/\skip+left<=n/\(skip=0\/off+skip=0)/\(off+skip+left=size\/skip+left=n))->K (.tuple #[.int .i64 skip, .int .i64 left]) h) :
  CP F_bitmap_cut #[.int .i64 off, .int .i64 n, .int .i64 size] h K Kp:=by
 refine call_bitmap_cut ?_
 unfold bitmap_cut
 unfold InI at ho hn
 refine ⟨fun vs h'=>h'=h/\vs=[.bool (decide (n<=0\/size<=off\/off+n<=0))],?_,?_⟩
 ·refine bcase_dec (fun h1=>⟨rfl,?_⟩) fun h1=>?_
  ·simp [h1]
  refine bcase_dec (fun h2=>⟨rfl,?_⟩) fun h2=>?_
  ·have:size<=off:=by omega
   simp [this]
  refine bindI_of ((-n)) (by exact i64_at _ _ (by omega) (by omega) (by omega)) ?_
  refine ⟨by first | rfl | trivial,?_⟩
  congr 2
  rw [decide_eq_decide]
  omega
 ·rintro h' u x ⟨rfl,hx⟩
  injection hx with hx
  injection hx with hx
  subst hx
  refine bcase_dec (fun h1=>?_) fun h1=>?_
  ·exact hk 0 0 (.inl ⟨rfl,rfl,h1⟩)
  refine bcase_dec (fun h2=>?_) fun h2=>?_
  ·refine bindI_of ((size-off)) (by exact i64_in _ (by omega) (by omega)) ?_
   refine min_of fun m hm=>?_
   exact hk 0 m (.inr (by omega))
  ·refine bindI_of ((-off)) (by exact i64_at _ _ (by omega) (by omega) (by omega)) ?_
   refine bindI_of ((n+off)) (by exact i64_in _ (by omega) (by omega)) ?_
   refine min_of fun m hm=>?_
   exact hk (-off) m (.inr (by omega))
theorem both_ok {h:Heap} {a asz b bs n:Int} (ha:InI a) (hb:InI b) (hn:InI n) (h1:1<=asz/\asz<=1048576) (h2:1<=bs/\bs<=1048576) {K:VK} {Kp:PK}
  (hk:∀ f t l:Int,((l=0/\∀ k,0<=k->k<n->0<=a+k->a+k<asz->0<=b+k->b+k<bs->False) \/
    1<=l/\t-b=f-a/\0<=f/\f+l<=asz/\0<=t/\t+l<=bs/\a<=f/\f+l<=a+n/\∀ k,0<=k->k<n->0<=a+k->a+k<asz->0<=b+k->b+k<bs->t<=b+k/\b+k<t+l)->K (.tuple #[.int .i64 f, .int .i64 t, .int .i64 l]) h) :
  CP F_bitmap_both #[.int .i64 a, .int .i64 asz, .int .i64 b, .int .i64 bs, .int .i64 n] h K Kp:=by
 refine call_bitmap_both ?_
 unfold bitmap_both
 refine cut_ok ha hn h1 fun s1 l1 c1=>?_
 refine ⟨_,_,rfl,?_⟩
 unfold InI at ha hb hn
 refine bcase_eq (fun h3=>?_) fun h3=>?_
 ·exact hk 0 0 0 (.inl ⟨rfl,fun k _ _ _ _ _ _=>by omega⟩)
 have c1:=c1.resolve_left (by omega)
 refine bindI_of ((9223372036854775807-s1)) (by exact i64_in _ (by omega) (by omega)) ?_
 refine bcase_dec (fun h4=>?_) fun h4=>?_
 ·exact hk 0 0 0 (.inl ⟨rfl,fun k _ _ _ _ _ _=>by omega⟩)
 refine bindI_of ((a+s1)) (by exact i64_in _ (by omega) (by omega)) ?_
 refine bindI_of ((b+s1)) (by exact i64_in _ (by omega) (by omega)) ?_
 refine cut_ok ⟨by omega,by omega⟩ ⟨by omega,by omega⟩ h2 fun s2 l2 c2=>?_
 refine ⟨_,_,rfl,?_⟩
 rcases c2 with ⟨e1,e2,e3⟩ | c2
 ·subst e1 e2
  refine bindI_of ((a+s1)) (by exact i64_at _ _ (by omega) (by omega) (by omega)) ?_
  refine bindI_of ((b+s1)) (by exact i64_at _ _ (by omega) (by omega) (by omega)) ?_
  exact hk _ _ 0 (.inl ⟨rfl,fun k _ _ _ _ _ _=>by omega⟩)
 ·refine bindI_of ((a+s1+s2)) (by exact i64_in _ (by omega) (by omega)) ?_
  refine bindI_of ((b+s1+s2)) (by exact i64_in _ (by omega) (by omega)) ?_
  refine hk _ _ l2 (.inr ⟨by omega,by omega,by omega,by omega,by omega,by omega,by omega,by omega,fun k _ _ _ _ _ _=>by omega⟩)
theorem mask_ok {h:Heap} {i x n:Nat} (hi:64*i<x+n) (hb:x+n<=4194304) {K:VK} {Kp:PK}
  (hk:∀ M:Nat,M<M64->(∀ j,j<64->M.testBit j=decide (x<=64*i+(63-j)/\64*i+(63-j)<x+n))->K (.int .u64 (M:Nat)) h) :
  CP F_bitmap_mask #[.int .i64 (i:Nat), .int .i64 (x:Nat), .int .i64 (n:Nat)] h K Kp:=by
 refine call_bitmap_mask ?_
 unfold bitmap_mask
 refine bindI_of (((64*i:Nat):Int)) (by exact i64_at _ _ (by omega) (by omega) (by omega)) ?_
 refine bindI_of ((((x:Nat):Int)-((64*i:Nat):Int))) (by exact i64_in _ (by omega) (by omega)) ?_
 refine max_of fun m1 hm1=>?_
 obtain ⟨p,rfl⟩:∃ p:Nat,m1=(p:Nat):=⟨m1.toNat,by omega⟩
 refine bindI_of (((x+n:Nat):Int)) (by exact i64_at _ _ (by omega) (by omega) (by omega)) ?_
 refine bindI_of (((64*i:Nat):Int)) (by exact i64_at _ _ (by omega) (by omega) (by omega)) ?_
 refine bindI_of (((x+n-64*i:Nat):Int)) (by exact i64_at _ _ (by omega) (by omega) (by omega)) ?_
 refine min_of fun m2 hm2=>?_
 obtain ⟨q,rfl⟩:∃ q:Nat,m2=(q:Nat):=⟨m2.toNat,by omega⟩
 have hq64:q<=64:=by omega
 have hsh:∀ p:Nat,shrI .u64 (18446744073709551615:Int) (p:Int)=((18446744073709551615 / 2 ^ min p 64:Nat):Int):=by
  intro p
  rcases Nat.lt_or_ge 64 p with h1 | h1
  ·have e:min p 64=64:=by omega
   rw [e]
   have e2:shrI .u64 (18446744073709551615:Int) (p:Int)=shrI .u64 (18446744073709551615:Int) ((64:Nat):Int):=by
    unfold shrI
    rw [Int.toNat_natCast,Int.toNat_natCast]
    have:Nat.min p IntKind.u64.bits=Nat.min 64 IntKind.u64.bits:=by
     show min p 64=min 64 64
     omega
    first | rw [this] | (simp only [Nat.min_def] at this ⊢; rw [this])
   rw [e2]
   exact shr_of (k := .u64) (x:=18446744073709551615) (i:=64) (by decide)
  ·have e:min p 64=p:=by omega
   rw [e]
   exact shr_of (k := .u64) (x:=18446744073709551615) (i:=p) h1
 have hlt:∀ p:Nat,18446744073709551615 / 2 ^ p<M64:=fun p=>Nat.lt_of_le_of_lt (Nat.div_le_self _ _) (by decide)
 refine needs_of (by omega) ?_
 refine bindI_of _ (hsh p) ?_
 refine needs_of (by omega) ?_
 refine bindI_of _ (hsh q) ?_
 refine bindI_of _ (andNot64 _ _ (hlt _) (hlt _)) ?_
 refine hk _ (and_lt (hlt _)) fun j hj=>?_
 rw [Nat.testBit_and,wnot_bit (hlt _) hj,ones_shr (by omega),ones_shr (by omega)]
 rw [<- decide_not,<- Bool.decide_and,decide_eq_decide]
 omega
theorem shr_bit {v s j:Nat}:(v / 2 ^ s).testBit j=v.testBit (j+s):=Nat.testBit_div_two_pow v j
theorem shl_bit {v s j:Nat} (hj:j<64):(v*2 ^ s % M64).testBit j=(decide (s<=j) && v.testBit (j-s)):=by
 rw [M64_pow,Nat.testBit_mod_two_pow,decide_eq_true hj,Bool.true_and,Nat.testBit_mul_two_pow]
theorem u64_wrap (x:Nat):IntKind.u64.wrap (x:Int)=((x % M64:Nat):Int):=by simp [IntKind.wrap,IntKind.bits,IntKind.signed]
theorem word_pos {h:Heap} {q:Option Addr} {c:Nat} {ws:List Nat} (hr:rdO h q (ws.length*1) (u64s ws)) (hw:W64 ws) (hl:ws.length<1048577) {x:Nat} (hx:x<1000000000) {K:VK} {Kp:PK}
  (hk:∀ V:Nat,V<M64->(∀ j,j<64->V.testBit j=rowB ws ((x:Int)+(63-(j:Int))))->K (.int .u64 (V:Nat)) h) :
  CP F_bitmap_word #[.slice q ws.length c, .int .i64 (x:Nat)] h K Kp:=by
 refine call_bitmap_word ?_
 unfold bitmap_word
 simp only [decide_eq_false (show ¬ ((x:Nat):Int)<0 by omega)]
 refine bcase_false rfl ?_
 refine bindI_of (((x / 64:Nat):Int)) (by exact i64_at _ _ (tdiv_nat x 64) (by omega) (by omega)) ?_
 have hrow:∀ j:Nat,j<64->rowB ws ((x:Int)+(63-(j:Int)))=(ws.getD ((x+(63-j)) / 64) 0).testBit (63-(x+(63-j)) % 64):=fun j hj=>by
  unfold rowB
  have:((x:Int)+(63-(j:Int))).toNat=x+(63-j):=by omega
  rw [this,decide_eq_true (by omega),Bool.true_and]
 have hout:∀ i,ws.length<=i->ws.getD i 0=0:=fun i hi=>by rw [List.getD_eq_getElem?_getD,List.getElem?_eq_none hi]; rfl
 refine bcase_dec (fun h1=>?_) fun h1=>?_
 ·refine hk 0 (by decide) fun j hj=>?_
  rw [hrow j hj,hout _ (by omega),Nat.zero_testBit,Nat.zero_testBit]
 have h1:x / 64<ws.length:=by omega
 refine needs_of (by omega) ?_
 obtain ⟨a,ha,hc⟩:=rdO_cell hr (u64s_get (getD_get (l:=ws) (i:=x / 64) h1))
 subst ha
 simp only [ptr_some_eq,Int.toNat_natCast,Nat.mul_one]
 refine ldI_of hc ?_
 have hx64:=Nat.mod_lt x (show 64 > 0 by decide)
 refine bindI_of (((x % 64:Nat):Int)) (by exact tmod_nat x 64) ?_
 refine needs_of (by omega) ?_
 have hv:=hw.get (x / 64)
 refine bindI_of (((ws.getD (x / 64) 0*2 ^ (x % 64) % M64:Nat):Int)) (by exact shl_of (i:=x % 64) (by show x % 64<=64; omega) (u64_wrap _)) ?_
 have hv2:ws.getD (x / 64) 0*2 ^ (x % 64) % M64<M64:=Nat.mod_lt _ (by decide)
 refine ⟨fun vs h'=>h'=h/\vs=[.bool (decide (0<x % 64/\x / 64+1<ws.length))],?_,?_⟩
 ·refine bindI_of (((x % 64:Nat):Int)) (by exact tmod_nat x 64) ?_
  refine bcase_dec (fun h2=>?_) fun h2=>?_
  ·refine bindI_of (((x / 64+1:Nat):Int)) (by exact i64_at _ _ (by omega) (by omega) (by omega)) ?_
   refine ⟨by first | rfl | trivial,?_⟩
   congr 2
   rw [decide_eq_decide]
   omega
  ·refine ⟨by first | rfl | trivial,?_⟩
   congr 2
   rw [eq_comm,decide_eq_false_iff_not]
   omega
 ·rintro h' u y ⟨rfl,hy⟩
  injection hy with hy
  injection hy with hy
  subst hy
  refine bcase_dec (fun h2=>?_) fun h2=>?_
  ·refine bindI_of (((x / 64+1:Nat):Int)) (by exact i64_at _ _ (by omega) (by omega) (by omega)) ?_
   refine needs_of (by omega) ?_
   obtain ⟨a',ha',hc'⟩:=rdO_cell hr (u64s_get (getD_get (l:=ws) (i:=x / 64+1) h2.2))
   injection ha' with ha'
   subst ha'
   refine ldI_of hc' ?_
   refine bindI_of (((x % 64:Nat):Int)) (by exact tmod_nat x 64) ?_
   refine bindI_of (((64-x % 64:Nat):Int)) (by exact i64_at _ _ (by omega) (by omega) (by omega)) ?_
   refine needs_of (by omega) ?_
   have hv3:ws.getD (x / 64+1) 0 / 2 ^ (64-x % 64)<M64:=Nat.lt_of_le_of_lt (Nat.div_le_self _ _) (hw.get _)
   refine bindI_of (((ws.getD (x / 64+1) 0 / 2 ^ (64-x % 64):Nat):Int)) (by exact shr_of (by show 64-x % 64<=64; omega)) ?_
   refine bindI_of _ (or64 _ _ hv2 hv3) ?_
   refine hk _ (or_lt hv2 hv3) fun j hj=>?_
   rw [hrow j hj,Nat.testBit_or,shl_bit hj,shr_bit]
   by_cases h3:x % 64<=j
   ·rw [decide_eq_true h3,Bool.true_and,bits_lt (hw.get _) (show 64<=j+(64-x % 64) by omega),Bool.or_false]
    congr 1
    ·rw [show (x+(63-j)) / 64=x / 64 by omega]
    ·omega
   ·rw [decide_eq_false h3,Bool.false_and,Bool.false_or]
    congr 1
    ·rw [show (x+(63-j)) / 64=x / 64+1 by omega]
    ·omega
  ·refine hk _ hv2 fun j hj=>?_
   rw [hrow j hj,shl_bit hj]
   by_cases h3:x % 64<=j
   ·rw [decide_eq_true h3,Bool.true_and]
    congr 1
    ·rw [show (x+(63-j)) / 64=x / 64 by omega]
    ·omega
   ·rw [decide_eq_false h3,Bool.false_and,hout ((x+(63-j)) / 64) (by omega),Nat.zero_testBit]
theorem word_ok {h:Heap} {q:Option Addr} {c:Nat} {ws:List Nat} (hr:rdO h q (ws.length*1) (u64s ws)) (hw:W64 ws) (hl:ws.length<1048577) {x:Int} (hx:-1000000000<=x/\x<1000000000) {K:VK} {Kp:PK}
  (hk:∀ V:Nat,V<M64->(∀ j,j<64->V.testBit j=rowB ws (x+(63-(j:Int))))->K (.int .u64 (V:Nat)) h) :
  CP F_bitmap_word #[.slice q ws.length c, .int .i64 x] h K Kp:=by
 rcases Int.lt_or_le x 0 with h1 | h1
 ·refine call_bitmap_word ?_
  unfold bitmap_word
  simp only [decide_eq_true h1]
  refine bcase_true rfl ?_
  refine word_pos (x:=0) hr hw hl (by omega) fun V hV hb=>?_
  refine ⟨_,rfl,?_⟩
  obtain ⟨p,hp⟩:∃ p:Nat,x = -(p:Int):=⟨(-x).toNat,by omega⟩
  subst hp
  refine bindI_of (((p:Nat):Int)) (by exact i64_at _ _ (by omega) (by omega) (by omega)) ?_
  refine needs_of (by omega) ?_
  have hs:shrI .u64 (V:Int) (p:Int)=((V / 2 ^ min p 64:Nat):Int):=by
   rcases Nat.lt_or_ge 64 p with h1 | h1
   ·have e:min p 64=64:=by omega
    rw [e]
    have e2:shrI .u64 (V:Int) (p:Int)=shrI .u64 (V:Int) ((64:Nat):Int):=by
     unfold shrI
     rw [Int.toNat_natCast,Int.toNat_natCast]
     have:Nat.min p IntKind.u64.bits=Nat.min 64 IntKind.u64.bits:=by
      show min p 64=min 64 64
      omega
     first | rw [this] | (simp only [Nat.min_def] at this ⊢; rw [this])
    rw [e2]
    exact shr_of (k := .u64) (i:=64) (by decide)
   ·have e:min p 64=p:=by omega
    rw [e]
    exact shr_of (k := .u64) (i:=p) h1
  refine bindI_of _ hs ?_
  refine hk _ (Nat.lt_of_le_of_lt (Nat.div_le_self _ _) hV) fun j hj=>?_
  rw [shr_bit]
  by_cases h2:j+min p 64<64
  ·rw [hb _ h2]
   congr 1
   omega
  ·rw [bits_lt hV (by omega)]
   unfold rowB
   rw [decide_eq_false (by omega),Bool.false_and]
 ·obtain ⟨X,rfl⟩:∃ X:Nat,x=(X:Nat):=⟨x.toNat,by omega⟩
  exact word_pos hr hw hl (by omega) hk
end Go.Bm
namespace Go.Bm
open Go Go.Den Go.Den.YtbknfejmdekhpaaGreat
def mapE (p q w h n c:Nat):Ent:=⟨p,true,T_bitmap_Map,[.int .i64 (w:Nat), .int .i64 (h:Nat), .int .i64 (wds w:Nat), .slice (at0 q) n c]⟩
def mapL (p q w h:Nat) (ws:List Nat) (rest:List Value):List Ent:=[mapE p q w h ws.length (ws.length+rest.length),⟨q,true,T_uint64,u64s ws++rest⟩]
theorem row_rdO {h0 h:Heap} {F:List Nat} {L:List Ent} (H:Hp h0 F h L) (k:Nat) {b:Nat} {w:Bool} {t:TypeId} {xs:List Nat} {rest:List Value} (he:L[k]? = some ⟨b,w,t,u64s xs++rest⟩):rdO h (at0 b) (xs.length*1) (u64s xs):=by
 have h2:=rdO_hp H k (o:=0) (n:=xs.length*1) he (by rw [List.length_append,u64s_length]; omega)
 rw [List.drop_zero,List.take_append_of_le_length (by rw [u64s_length]; omega),List.take_of_length_le (by rw [u64s_length]; omega)] at h2
 exact h2
theorem get_app {R T:List Value} {i:Nat} {v:Value} (h:R[i]? = some v):(R++T)[i]? = some v:=by
 rw [List.getElem?_append_left (List.getElem?_eq_some_iff.1 h).1]; exact h
theorem u64s_setr (ws:List Nat) (rest:List Value) (i v:Nat) (h:i<ws.length):(u64s ws++rest).set i (.int .u64 (v:Int))=u64s (ws.set i v)++rest:=by
 rw [List.set_append_left _ _ (by rw [u64s_length]; exact h),<- u64s_set]
theorem clone_ok {hB:Heap} {q:Option Addr} {c:Nat} {ws:List Nat} (hr:rdO hB q (ws.length*1) (u64s ws)) (h1:1<=ws.length) (hl:ws.length<1048577) {K:VK} {Kp:PK}
  (hk:∀ o rest h,Hp hB [] h [⟨o,true,T_uint64,u64s ws++rest⟩]->K (.slice (at0 o) ws.length (ws.length+rest.length)) h):CP F_slices_Clone_uint64_uint64 #[.slice q ws.length c] hB K Kp:=by
 refine call_slices_Clone_uint64_uint64 ?_
 unfold slices_Clone_uint64_uint64
 have H:=Hp.nil hB []
 obtain ⟨a,ha,_⟩:=rdO_cell hr (u64s_get (getD_get (l:=ws) (i:=0) h1))
 subst ha
 refine bcase_false (by rfl) ?_
 refine newC_hp H fun r h H=>?_
 refine appC_own H 0 (xs:=[]) (rest:=[]) rfl rfl rfl (H.rdO hr) (u64s_length ws) (u64s_cells ws) (by show (0+ws.length)*8<=_; omega) fun o rest h H=>?_
 rw [List.nil_append,List.length_append,u64s_length,List.length_nil,Nat.zero_add]
 exact hk o rest h (H.as (by simp))
theorem newM_ok {hB:Heap} {w h':Int} {K:VK} {Kp:PK}
  (hg:∀ (W X:Nat) p q h,w=(W:Nat)->h'=(X:Nat)->SizeP w h'->Hp hB [] h (mapL p q W X (List.replicate (X*wds W) 0) [])->K (.tuple #[.pointer (at0 p), .int .i64 0]) h)
  (hbad:¬ SizeP w h'->K (.tuple #[.pointer none, .int .i64 20]) hB):CP F_bitmap_New #[.int .i64 w, .int .i64 h'] hB K Kp:=by
 refine call_bitmap_New ?_
 unfold bitmap_New
 have H:=Hp.nil hB []
 refine sized_ok fun b hb=>?_
 refine ⟨_,rfl,?_⟩
 refine bcase_not (fun h1=>?_) fun h1=>?_
 ·exact hbad fun hs=>by rw [hb.2 hs] at h1; cases h1
 obtain ⟨W,X,rfl,rfl,hW1,hW2,hX1,hX2,hWX⟩:=size_nat (hb.1 h1)
 have hhw:=hw_le hW1 hWX
 refine bindI_of (((W+63:Nat):Int)) (by exact i64_at _ _ (by omega) (by omega) (by omega)) ?_
 refine bindI_of (((wds W:Nat):Int)) (by exact i64_at _ _ (tdiv_nat (W+63) 64) (by unfold wds; omega) (by unfold wds; omega)) ?_
 obtain ⟨N,hN⟩:∃ N,N=X*wds W:=⟨_,rfl⟩
 refine bindI_of (((N:Nat):Int)) (by exact i64_at _ _ (by rw [hN,Int.natCast_mul]) (by omega) (by omega)) ?_
 refine needs_of (by simp; omega) ?_
 simp only [Int.toNat_natCast,u64s_zero]
 refine newC_hp H fun q h H=>?_
 refine newC_hp H fun p h H=>?_
 refine hg W X p q _ rfl rfl (hb.1 h1) (H.pick [1,0] (by decide) ?_)
 rw [hN]
 simp [mapL,mapE,u64s]
theorem from_ok {hB:Heap} {w h':Int} {q:Option Addr} {c:Nat} {ws:List Nat} (hr:rdO hB q (ws.length*1) (u64s ws)) (hw:W64 ws) (hl:ws.length<140737488351300) {K:VK} {Kp:PK}
  (hg:∀ (W X:Nat) p q rest h,w=(W:Nat)->h'=(X:Nat)->MayP w h' ws->Hp hB [] h (mapL p q W X ws rest)->K (.tuple #[.pointer (at0 p), .int .i64 0]) h)
  (hbad:∀ h,¬ MayP w h' ws->hext hB h->K (.tuple #[.pointer none, .int .i64 21]) h):CP F_bitmap_From #[.agg #[.int .i64 w, .int .i64 h', .slice q ws.length c]] hB K Kp:=by
 refine call_bitmap_From ?_
 unfold bitmap_From
 have H:=Hp.nil hB []
 refine newC_hp H fun r h H=>?_
 try simp only [ptr_some_eq,add_mk,Nat.zero_add,Nat.add_zero]
 refine ldI_of (H.cell 0 rfl rfl) ?_
 refine ldI_of (H.cell 0 rfl rfl) ?_
 refine ldS_of (H.cell 0 rfl rfl) ?_
 refine check_ok (H.rdO hr) hw hl fun b h2 hb e=>?_
 have H:=H.ext e
 refine ⟨_,rfl,?_⟩
 refine bcase_not (fun h1=>?_) fun h1=>?_
 ·exact hbad _ (fun hs=>by rw [hb.2 hs] at h1; cases h1) H.hext
 have hm:=hb.1 h1
 obtain ⟨W,X,rfl,rfl,hW1,hW2,hX1,hX2,hWX⟩:=size_nat hm.1
 have hhw:=hw_le hW1 hWX
 have hlen:ws.length=X*wds W:=hm.2.1
 have hw1:=wds_pos hW1
 have hpos:1<=X*wds W:=Nat.mul_pos hX1 hw1
 refine ldI_of (H.cell 0 rfl rfl) ?_
 refine ldI_of (H.cell 0 rfl rfl) ?_
 refine ldI_of (H.cell 0 rfl rfl) ?_
 refine bindI_of (((W+63:Nat):Int)) (by exact i64_at _ _ (by omega) (by omega) (by omega)) ?_
 refine bindI_of (((wds W:Nat):Int)) (by exact i64_at _ _ (tdiv_nat (W+63) 64) (by unfold wds; omega) (by unfold wds; omega)) ?_
 refine ldS_of (H.cell 0 rfl rfl) ?_
 refine clone_ok (H.rdO hr) (by omega) (by omega) fun o rest h' H'=>?_
 refine ⟨_,_,_,rfl,H'.hext,?_⟩
 replace H:=H.join H' rfl
 refine newC_hp H fun p h H=>?_
 exact hg W X p o rest _ rfl rfl hm (H.pick [2,1] (by decide) rfl)
theorem plain_ok {h0 h:Heap} {F:List Nat} {L:List Ent} (H:Hp h0 F h L) (kp kq:Nat) {p q W X:Nat} {w:Bool} {ws:List Nat} {rest:List Value} (hp:L[kp]? = some (mapE p q W X ws.length (ws.length+rest.length))) (hq:L[kq]? = some ⟨q,w,T_uint64,u64s ws++rest⟩)
  (h1:1<=ws.length) (hl:ws.length<1048577) {K:VK} {Kp:PK}
  (hk:∀ o orest h',Hp h0 F h' (L++[⟨o,true,T_uint64,u64s ws++orest⟩])->K (.agg #[.int .i64 (W:Nat), .int .i64 (X:Nat), .slice (at0 o) ws.length (ws.length+orest.length)]) h') :
  CP F_bitmap_Map_Plain #[.pointer (at0 p)] h K Kp:=by
 refine call_bitmap_Map_Plain ?_
 unfold bitmap_Map_Plain
 have hkp:kp<L.length:=(List.getElem?_eq_some_iff.1 hp).1
 have hkq:kq<L.length:=(List.getElem?_eq_some_iff.1 hq).1
 refine newC_hp H fun r h H=>?_
 have hp2:(L++[(⟨r,true,T_api_Bitmap,[.int .i64 0, .int .i64 0, .slice none 0 0]⟩:Ent)])[kp]? = some (mapE p q W X ws.length (ws.length+rest.length)):=by rw [List.getElem?_append_left hkp]; exact hp
 have hq2:(L++[(⟨r,true,T_api_Bitmap,[.int .i64 0, .int .i64 0, .slice none 0 0]⟩:Ent)])[kq]? = some ⟨q,w,T_uint64,u64s ws++rest⟩:=by rw [List.getElem?_append_left hkq]; exact hq
 try simp only [ptr_some_eq,add_mk,Nat.zero_add,Nat.add_zero]
 refine ldI_of (H.cell kp hp2 (i:=0) rfl) ?_
 refine ldI_of (H.cell kp hp2 (i:=1) rfl) ?_
 refine ldS_of (H.cell kp hp2 (i:=3) rfl) ?_
 refine clone_ok (row_rdO H kq hq2) h1 hl fun o orest h' H'=>?_
 refine ⟨_,_,_,rfl,H'.hext,?_⟩
 have H:=((H.join H' rfl).swap).rot
 refine stV_hp H 0 rfl (by first | exact Nat.le_of_ble_eq_true rfl | simp) rfl fun h hsz H=>?_
 refine stV_hp H 0 rfl (by first | exact Nat.le_of_ble_eq_true rfl | simp) rfl fun h hsz H=>?_
 refine stV_hp H 0 rfl (by first | exact Nat.le_of_ble_eq_true rfl | simp) rfl fun h hsz H=>?_
 refine ldI_of (H.cell 0 rfl rfl) ?_
 refine ldI_of (H.cell 0 rfl rfl) ?_
 refine ldS_of (H.cell 0 rfl rfl) ?_
 exact hk o orest _ (H.suf (X:=[⟨r,true,T_api_Bitmap,[.int .i64 (W:Nat), .int .i64 (X:Nat), .slice (at0 o) ws.length (ws.length+orest.length)]⟩]))
def Inv (X wd:Nat) (F old:Nat->Nat->Bool) (D:Nat->Bool) (j i:Nat) (R:List Nat):Prop :=
 R.length=X*wd/\W64 R/\∀ y,y<X->∀ x,x<64*wd->pix R wd x y=if D y=true\/y=j/\x / 64<i then F x y else old x y
section
variable {X wd:Nat} {F old:Nat->Nat->Bool} {D:Nat->Bool} {j i:Nat} {R:List Nat}
theorem Inv.word (h:Inv X wd F old D j i R) (hD:D j=false) (hj:j<X) (hi:i<wd) {b:Nat} (hb:b<64):(R.getD (j*wd+i) 0).testBit b=old (64*i+(63-b)) j:=by
 have:=h.2.2 j hj (64*i+(63-b)) (by omega)
 rw [if_neg (by rw [hD]; simp; omega)] at this
 unfold pix at this
 rw [show (64*i+(63-b)) / 64=i by omega,show 63-(64*i+(63-b)) % 64=b by omega] at this
 exact this
theorem Inv.step (h:Inv X wd F old D j i R) (hj:j<X) (hi:i<wd) {v:Nat} (hv:v<M64) (hb:∀ b,b<64->v.testBit b=F (64*i+(63-b)) j):Inv X wd F old D j (i+1) (R.set (j*wd+i) v):=by
 obtain ⟨h1,h2,h3⟩:=h
 refine ⟨by rw [List.length_set]; exact h1,h2.set hv,fun y hy x hx=>?_⟩
 rw [pix_set h1 hi hj hx]
 by_cases h4:y=j/\x / 64=i
 ·rw [if_pos h4,if_pos (.inr ⟨h4.1,by omega⟩),hb _ (by omega),h4.1]
  congr 1
  omega
 ·rw [if_neg h4,h3 y hy x hx]
  have:(D y=true\/y=j/\x / 64<i)↔(D y=true\/y=j/\x / 64<i+1):=by
   constructor
   ·rintro (h5 | ⟨h5,h6⟩)
    ·exact .inl h5
    ·exact .inr ⟨h5,by omega⟩
   ·rintro (h5 | ⟨h5,h6⟩)
    ·exact .inl h5
    ·exact .inr ⟨h5,by
      have:x / 64≠i:=fun e=>h4 ⟨h5,e⟩
      omega⟩
  simp only [this]
theorem Inv.row (h:Inv X wd F old D j i R) (he:∀ x,64*i<=x->x<64*wd->F x j=old x j) {D':Nat->Bool} (hD:∀ y,D' y=true↔D y=true\/y=j) {j' i':Nat} (hs:∀ x,x<64*i'->x<64*wd->F x j'=old x j'):Inv X wd F old D' j' i' R:=by
 obtain ⟨h1,h2,h3⟩:=h
 refine ⟨h1,h2,fun y hy x hx=>?_⟩
 rw [h3 y hy x hx]
 by_cases h4:D y=true
 ·rw [if_pos (.inl h4),if_pos (.inl ((hD y).2 (.inl h4)))]
 by_cases h5:y=j
 ·rw [if_pos (.inl ((hD y).2 (.inr h5)):D' y=true\/_)]
  by_cases h6:x / 64<i
  ·rw [if_pos (.inr ⟨h5,h6⟩)]
  ·rw [if_neg (by rintro (h7 | h7); exact h4 h7; exact h6 h7.2),h5]
   exact (he x (by omega) hx).symm
 ·rw [if_neg (by rintro (h7 | h7); exact h4 h7; exact h5 h7.1)]
  by_cases h6:y=j'/\x / 64<i'
  ·rw [if_pos (.inr h6),h6.1]
   exact (hs x (by omega) hx).symm
  ·rw [if_neg]
   rintro (h7 | h7)
   ·rcases (hD y).1 h7 with h8 | h8
    ·exact h4 h8
    ·exact h5 h8
   ·exact h6 h7
end
theorem mul_cast {a b:Nat}:((a:Int)*(b:Int))=((a*b:Nat):Int):=(Int.natCast_mul a b).symm
theorem fill_ok {h0 h:Heap} {FF:List Nat} {p q W X:Nat} {ws:List Nat} {rest:List Value} (H:Hp h0 FF h (mapL p q W X ws rest)) (hs:SizeP (W:Int) (X:Int)) (hl:ws.length=X*wds W) (hw:W64 ws) {x y w g bit:Int} (hx:InI x) (hy:InI y) (hwi:InI w) (hgi:InI g)
  (hw0:0<=w) (hg0:0<=g) (hbit:bit=0\/bit=1) {K:VK} {Kp:PK}
  (hk:∀ R h',R.length=X*wds W->W64 R->(∀ Y,Y<X->∀ x',x'<64*wds W->pix R (wds W) x' Y=if x<=x'/\(x':Int)<x+w/\x'<W/\y<=Y/\(Y:Int)<y+g then decide (bit=1) else pix ws (wds W) x' Y)->Hp h0 FF h' (mapL p q W X R rest)->K (.int .i64 0) h') :
  CP F_bitmap_Map_Fill #[.pointer (at0 p), .int .i64 x, .int .i64 y, .int .i64 w, .int .i64 g, .int .i64 bit] h K Kp:=by
 refine call_bitmap_Map_Fill ?_
 unfold bitmap_Map_Fill
 obtain ⟨W',X',e1,e2,hW1,hW2,hX1,hX2,hWX⟩:=size_nat hs
 obtain rfl:W=W':=by omega
 obtain rfl:X=X':=by omega
 clear e1 e2
 have hhw:=hw_le hW1 hWX
 have hwl:=wds_le hW1
 refine ⟨fun vs h'=>h'=h,?_,?_⟩
 ·refine bcase_dec (fun h1=>by omega) fun h1=>?_
  refine bcase_dec (fun h2=>by omega) fun h2=>?_
  refine bcase_ne (fun h3=>?_) fun h3=>rfl
  refine bcase_ne (fun h4=>by omega) fun h4=>rfl
 ·rintro h' u rfl
  try simp only [ptr_some_eq,add_mk,Nat.zero_add,Nat.add_zero]
  refine ldI_of (H.cell 0 rfl rfl) ?_
  refine cut_ok hx hwi (by omega) fun s1 l1 c1=>?_
  refine ⟨_,_,rfl,?_⟩
  unfold InI at hx hy hwi hgi
  refine bindI_of ((x+s1)) (by exact i64_in _ (by omega) (by omega)) ?_
  refine ldI_of (H.cell 0 rfl rfl) ?_
  refine cut_ok ⟨by omega,by omega⟩ ⟨by omega,by omega⟩ (by omega) fun s2 l2 c2=>?_
  refine ⟨_,_,rfl,?_⟩
  refine bindI_of ((y+s2)) (by exact i64_in _ (by omega) (by omega)) ?_
  refine bcase_eq (fun h3=>?_) fun h3=>?_
  ·refine hk ws _ hl hw (fun Y hY x' hx'=>?_) H
   rw [if_neg (by omega)]
  refine bcase_eq (fun h4=>?_) fun h4=>?_
  ·refine hk ws _ hl hw (fun Y hY x' hx'=>?_) H
   rw [if_neg (by omega)]
  have c1:=c1.resolve_left (by omega)
  have c2:=c2.resolve_left (by omega)
  obtain ⟨tx,htx⟩:∃ tx:Nat,x+s1=(tx:Nat):=⟨(x+s1).toNat,by omega⟩
  obtain ⟨ty,hty⟩:∃ ty:Nat,y+s2=(ty:Nat):=⟨(y+s2).toNat,by omega⟩
  obtain ⟨wide,rfl⟩:∃ n:Nat,l1=(n:Nat):=⟨l1.toNat,by omega⟩
  obtain ⟨high,rfl⟩:∃ n:Nat,l2=(n:Nat):=⟨l2.toNat,by omega⟩
  rw [htx,hty]
  have hwide:1<=wide/\tx+wide<=W:=by omega
  have hhigh:1<=high/\ty+high<=X:=by omega
  let FF':Nat->Nat->Bool:=fun x' Y=>if tx<=x'/\x'<tx+wide/\ty<=Y/\Y<ty+high then decide (bit=1) else pix ws (wds W) x' Y
  have hF:∀ x' Y,FF' x' Y=if tx<=x'/\x'<tx+wide/\ty<=Y/\Y<ty+high then decide (bit=1) else pix ws (wds W) x' Y:=fun _ _=>rfl
  have hlast:(tx+wide-1) / 64<wds W:=by unfold wds; omega
  refine ⟨fun n vs h=>∃ (j:Nat) (R:List Nat),j+n=ty+high/\ty<=j/\vs=[.int .i64 (j:Int)]/\Inv X (wds W) FF' (pix ws (wds W)) (fun Y=>decide (Y<j)) j (tx / 64) R/\Hp h0 FF h (mapL p q W X R rest),
   ⟨high,ty,ws,by omega,Nat.le_refl _,rfl,⟨hl,hw,fun Y hY x' hx'=>?_⟩,H⟩,?_⟩
  ·simp only [hF,decide_eq_true_eq]
   split
   ·rw [if_neg (by omega)]
   ·rfl
  clear H
  rintro n h u xx ⟨j,R,hjn,hj,hxx,hI,H⟩
  injection hxx with hxx
  injection hxx with _ hxx
  subst hxx
  refine bindI_of (((ty+high:Nat):Int)) (by exact i64_at _ _ (by omega) (by omega) (by omega)) ?_
  refine bcase_dec (fun h5=>?_) fun h5=>?_
  ·have h5:j<ty+high:=by omega
   have hjX:j<X:=by omega
   refine bindI_of (((tx / 64:Nat):Int)) (by exact i64_at _ _ (tdiv_nat tx 64) (by omega) (by omega)) ?_
   refine ⟨fun n vs h=>∃ (i:Nat) (R:List Nat),i+n=(tx+wide-1) / 64+1/\tx / 64<=i/\vs=[.int .i64 (i:Int)]/\Inv X (wds W) FF' (pix ws (wds W)) (fun Y=>decide (Y<j)) j i R/\Hp h0 FF h (mapL p q W X R rest),
    ⟨(tx+wide-1) / 64+1-tx / 64,tx / 64,R,by omega,Nat.le_refl _,rfl,hI,H⟩,?_⟩
   clear H hI
   rintro n2 h u2 xx ⟨i,R,hin,hi,hxx,hI,H⟩
   injection hxx with hxx
   injection hxx with _ hxx
   subst hxx
   refine bindI_of (((tx+wide:Nat):Int)) (by exact i64_at _ _ (by omega) (by omega) (by omega)) ?_
   refine bindI_of (((tx+wide-1:Nat):Int)) (by exact i64_at _ _ (by omega) (by omega) (by omega)) ?_
   refine bindI_of ((((tx+wide-1) / 64:Nat):Int)) (by exact i64_at _ _ (tdiv_nat (tx+wide-1) 64) (by omega) (by omega)) ?_
   refine bcase_dec (fun h6=>?_) fun h6=>?_
   ·have h6:i<=(tx+wide-1) / 64:=by omega
    have hiw:i<wds W:=by omega
    have hidx:=idx_lt hiw hjX
    have hjw:j*wds W<=X*wds W:=Nat.mul_le_mul_right _ (by omega)
    refine ldS_of (H.cell 0 rfl rfl) ?_
    refine ldI_of (H.cell 0 rfl rfl) ?_
    refine bindI_of (((j*wds W:Nat):Int)) (by exact i64_at _ _ mul_cast (by omega) (by omega)) ?_
    refine bindI_of (((j*wds W+i:Nat):Int)) (by exact i64_at _ _ (by omega) (by omega) (by omega)) ?_
    have hRl:=hI.1
    refine needs_of (by omega) ?_
    try simp only [ptr_some_eq,add_mk,Nat.zero_add,Int.toNat_natCast,Nat.mul_one]
    refine ldI_of (H.cell 1 rfl (get_app (u64s_get (getD_get (l:=R) (i:=j*wds W+i) (by omega))))) ?_
    refine mask_ok (by omega) (by omega) fun M hM hMb=>?_
    refine ⟨_,rfl,hext.refl _,?_⟩
    have hv:=hI.2.1.get (j*wds W+i)
    refine bindI_of _ (andNot64 _ _ hv hM) ?_
    refine needs_of (by omega) ?_
    try simp only [ptr_some_eq,add_mk,Nat.zero_add,Int.toNat_natCast,Nat.mul_one]
    refine stV_hp H 1 rfl (by rw [List.length_append,u64s_length]; omega) rfl fun h hsz H=>?_
    rw [u64s_setr _ _ _ _ (by omega)] at H
    have hwb:=fun b (hb:b<64)=>hI.word (by simp) hjX hiw hb
    have hmb:∀ b,b<64->FF' (64*i+(63-b)) j=if M.testBit b=true then decide (bit=1) else (R.getD (j*wds W+i) 0).testBit b:=fun b hb=>by
     rw [hF,hMb b hb,hwb b hb]
     simp only [decide_eq_true_eq]
     by_cases h7:tx<=64*i+(63-b)/\64*i+(63-b)<tx+wide
     ·rw [if_pos ⟨h7.1,h7.2,by omega,by omega⟩,if_pos h7]
     ·rw [if_neg (fun h8=>h7 ⟨h8.1,h8.2.1⟩),if_neg h7]
    have fin:∀ (h:Heap) (v:Nat),v<M64->(∀ b,b<64->v.testBit b=FF' (64*i+(63-b)) j)->Hp h0 FF h (mapL p q W X (R.set (j*wds W+i) v) rest)->∃ m,m<n2/\∃ (i:Nat) (R:List Nat),i+m=(tx+wide-1) / 64+1/\tx / 64<=i/\[Value.int .i64 (((i:Nat):Int))]=[.int .i64 (i:Int)]/\True:=fun _ _ _ _ _=>⟨0,by omega,(tx+wide-1) / 64+1,R,by omega,by omega,rfl,trivial⟩
    clear fin
    rcases hbit with hbit | hbit
    ·subst hbit
     refine bcase_false (by rfl) ?_
     refine bindI_of (((i+1:Nat):Int)) (by exact i64_at _ _ (by omega) (by omega) (by omega)) ?_
     refine ⟨n2-1,by omega,i+1,_,by omega,by omega,rfl,hI.step hjX hiw (v:=R.getD (j*wds W+i) 0 &&& wnot M) (and_lt hv) (fun b hb=>?_),H.as (by simp [mapL,mapE])⟩
     rw [hmb b hb,Nat.testBit_and,wnot_bit hM hb]
     cases M.testBit b <;> simp
    ·subst hbit
     refine bcase_true (by rfl) ?_
     have H:Hp h0 FF h (mapL p q W X (R.set (j*wds W+i) (R.getD (j*wds W+i) 0 &&& wnot M)) rest):=H.as (by simp [mapL,mapE])
     refine ldS_of (H.cell 0 rfl rfl) ?_
     refine ldI_of (H.cell 0 rfl rfl) ?_
     refine bindI_of (((j*wds W:Nat):Int)) (by exact i64_at _ _ mul_cast (by omega) (by omega)) ?_
     refine bindI_of (((j*wds W+i:Nat):Int)) (by exact i64_at _ _ (by omega) (by omega) (by omega)) ?_
     refine needs_of (by rw [List.length_set]; omega) ?_
     try simp only [ptr_some_eq,add_mk,Nat.zero_add,Int.toNat_natCast,Nat.mul_one]
     have hg:(R.set (j*wds W+i) (R.getD (j*wds W+i) 0 &&& wnot M))[j*wds W+i]? = some (R.getD (j*wds W+i) 0 &&& wnot M):=List.getElem?_set_self (by omega)
     refine ldI_of (H.cell 1 rfl (get_app (u64s_get hg))) ?_
     refine mask_ok (by omega) (by omega) fun M' hM' hMb'=>?_
     have hMM:M'=M:=word_ext hM' hM fun b hb=>by rw [hMb b hb,hMb' b hb]
     subst hMM
     refine ⟨_,rfl,hext.refl _,?_⟩
     refine bindI_of _ (or64 _ _ (and_lt hv) hM) ?_
     refine needs_of (by rw [List.length_set]; omega) ?_
     try simp only [ptr_some_eq,add_mk,Nat.zero_add,Int.toNat_natCast,Nat.mul_one]
     refine stV_hp H 1 rfl (by rw [List.length_append,u64s_length,List.length_set]; omega) rfl fun h hsz H=>?_
     rw [u64s_setr _ _ _ _ (by rw [List.length_set]; omega),List.set_set] at H
     refine bindI_of (((i+1:Nat):Int)) (by exact i64_at _ _ (by omega) (by omega) (by omega)) ?_
     refine ⟨n2-1,by omega,i+1,_,by omega,by omega,rfl,hI.step hjX hiw (v:=R.getD (j*wds W+i) 0 &&& wnot M' ||| M') (or_lt (and_lt hv) hM) (fun b hb=>?_),H.as (by simp [mapL,mapE])⟩
     rw [hmb b hb,Nat.testBit_or,Nat.testBit_and,wnot_bit hM hb]
     cases M'.testBit b <;> simp
   ·have h6:(tx+wide-1) / 64<i:=by omega
    refine bindI_of (((j+1:Nat):Int)) (by exact i64_at _ _ (by omega) (by omega) (by omega)) ?_
    refine ⟨n-1,by omega,j+1,R,by omega,by omega,rfl,hI.row (fun x' h7 h8=>?_) (fun Y=>by simp; omega) (fun x' h7 h8=>?_),H⟩
    ·rw [hF,if_neg (by omega)]
    ·rw [hF,if_neg (by omega)]
  ·have h5:j=ty+high:=by omega
   refine hk R _ hI.1 hI.2.1 (fun Y hY x' hx'=>?_) H
   rw [hI.2.2 Y hY x' hx']
   simp only [hF,decide_eq_true_eq]
   by_cases h6:tx<=x'/\x'<tx+wide/\ty<=Y/\Y<ty+high
   ·rw [if_pos (.inl (by omega)),if_pos h6,if_pos (by omega)]
   ·rw [if_neg (show ¬ (x<=x'/\(x':Int)<x+w/\x'<W/\y<=Y/\(Y:Int)<y+g) by omega),if_neg h6]
    split <;> rfl
end Go.Bm
namespace Go.Bm
open Go Go.Den Go.Den.YtbknfejmdekhpaaGreat
def opsV:List Value:=[.func (.func F_bitmap_operations_c1) #[] #[], .func (.func F_bitmap_operations_c2) #[] #[], .func (.func F_bitmap_operations_c3) #[] #[], .func (.func F_bitmap_operations_c4) #[] #[], .func (.func F_bitmap_operations_c5) #[] #[]]
theorem operations_ok {hB:Heap} {K:VK} {Kp:PK} (hk:∀ o h,Hp hB [] h [⟨o,true,T_func_uint64_uint64_uint64,opsV⟩]->K (.slice (at0 o) 5 5) h):CP F_bitmap_operations #[] hB K Kp:=by
 refine call_bitmap_operations ?_
 unfold bitmap_operations
 have H:=Hp.nil hB []
 refine newC_hp H fun o h H=>?_
 exact hk o _ H
theorem does_ok {h:Heap} {op d s:Nat} (hop:op<5) (hd:d<M64) (hs:s<M64) {f:Value} (hf:opsV[op]? = some f) {K:VK} {Kp:PK}
  (hk:∀ v:Nat,v<M64->(∀ b,b<64->v.testBit b=opB op (d.testBit b) (s.testBit b))->K (.int .u64 (v:Nat)) h):callD CP Kp f [.int .u64 (d:Nat), .int .u64 (s:Nat)] h K:=by
 match op,hop with
 | 0,_ =>
  obtain rfl:_=f:=Option.some.inj hf
  refine call_bitmap_operations_c1 ?_
  unfold bitmap_operations_c1
  refine bindI_of _ (or64 _ _ hd hs) (hk _ (or_lt hd hs) fun b hb=>?_)
  rw [Nat.testBit_or]; rfl
 | 1,_ =>
  obtain rfl:_=f:=Option.some.inj hf
  refine call_bitmap_operations_c2 ?_
  unfold bitmap_operations_c2
  refine bindI_of _ (and64 _ _ hd hs) (hk _ (and_lt hd) fun b hb=>?_)
  rw [Nat.testBit_and]; rfl
 | 2,_ =>
  obtain rfl:_=f:=Option.some.inj hf
  refine call_bitmap_operations_c3 ?_
  unfold bitmap_operations_c3
  refine bindI_of _ (xor64 _ _ hd hs) (hk _ (xor_lt hd hs) fun b hb=>?_)
  rw [Nat.testBit_xor]; rfl
 | 3,_ =>
  obtain rfl:_=f:=Option.some.inj hf
  refine call_bitmap_operations_c4 ?_
  unfold bitmap_operations_c4
  refine bindI_of _ (xor64 _ _ hd hs) ?_
  have hm:IntKind.u64.max=((18446744073709551615:Nat):Int):=by decide
  rw [hm]
  refine bindI_of _ (xor64 _ _ (by decide) (xor_lt hd hs)) (hk _ (xor_lt (by decide) (xor_lt hd hs)) fun b hb=>?_)
  rw [Nat.testBit_xor,Nat.testBit_xor,show 18446744073709551615=2 ^ 64-1 from rfl,Nat.testBit_two_pow_sub_one,decide_eq_true hb]
  show (true ^^ (d.testBit b ^^ s.testBit b)) = !(d.testBit b != s.testBit b)
  cases d.testBit b <;> cases s.testBit b <;> rfl
 | 4,_ =>
  obtain rfl:_=f:=Option.some.inj hf
  refine call_bitmap_operations_c5 ?_
  unfold bitmap_operations_c5
  exact hk _ hs fun b hb=>rfl
theorem opB_cell {o op:Nat} {h:Heap} {FF:List Nat} {h0:Heap} {L:List Ent} (H:Hp h0 FF h L) (k:Nat) {w:Bool} (hk:L[k]? = some ⟨o,w,T_func_uint64_uint64_uint64,opsV⟩) (hop:op<5):∃ f,opsV[op]? = some f/\hcell h ⟨o,op,none⟩=some f:=by
 have:op<opsV.length:=hop
 exact ⟨opsV[op],List.getElem?_eq_getElem this,H.cell k hk (List.getElem?_eq_getElem this)⟩
def rowW (S:List Nat) (swd r:Nat):List Nat:=(S.drop (r*swd)).take swd
theorem rowW_len {S:List Nat} {swd r SX:Nat} (hl:S.length=SX*swd) (hr:r<SX):(rowW S swd r).length=swd:=by
 unfold rowW
 rw [List.length_take,List.length_drop,hl]
 have:(r+1)*swd<=SX*swd:=Nat.mul_le_mul_right _ hr
 rw [Nat.add_mul,Nat.one_mul] at this
 omega
theorem rowW_w {S:List Nat} (hw:W64 S) (swd r:Nat):W64 (rowW S swd r):=fun v hv=>hw v (List.mem_of_mem_drop (List.mem_of_mem_take hv))
theorem rowW_pix {S:List Nat} {swd r x:Nat} (hx:x<64*swd):rowB (rowW S swd r) (x:Int)=pix S swd x r:=by
 unfold rowB pix rowW
 rw [decide_eq_true (by omega),Bool.true_and,Int.toNat_natCast]
 congr 1
 rw [List.getD_eq_getElem?_getD,List.getD_eq_getElem?_getD,List.getElem?_take_of_lt (by omega),List.getElem?_drop]
set_option maxHeartbeats 1000000 in
theorem blit_ok {h0 h:Heap} {FF:List Nat} {p q W X p2 q2 W2 X2:Nat} {ws ws2:List Nat} {rest rest2:List Value} (H:Hp h0 FF h (mapL p q W X ws rest++mapL p2 q2 W2 X2 ws2 rest2)) (hs:SizeP (W:Int) (X:Int)) (hl:ws.length=X*wds W) (hw:W64 ws)
  (hs2:SizeP (W2:Int) (X2:Int)) (hl2:ws2.length=X2*wds W2) (hw2:W64 ws2) {sx sy w g dx dy:Int} {op:Nat} (hsx:InI sx) (hsy:InI sy) (hwi:InI w) (hgi:InI g) (hdx:InI dx) (hdy:InI dy) (hw0:0<=w) (hg0:0<=g) (hop:op<5)
  {K:VK} {Kp:PK}
  (hk:∀ R h',R.length=X*wds W->W64 R->(∀ Y,Y<X->∀ x',x'<64*wds W->pix R (wds W) x' Y =
    if dx<=x'/\(x':Int)<dx+w/\x'<W/\dy<=Y/\(Y:Int)<dy+g/\0<=sx+(x'-dx)/\sx+(x'-dx)<W2/\0<=sy+(Y-dy)/\sy+(Y-dy)<X2 then opB op (pix ws (wds W) x' Y) (pix ws2 (wds W2) (sx+(x'-dx)).toNat (sy+(Y-dy)).toNat) else pix ws (wds W) x' Y) ->
   Hp h0 FF h' (mapL p q W X R rest++mapL p2 q2 W2 X2 ws2 rest2)->K (.int .i64 0) h') :
  CP F_bitmap_Map_Blit #[.pointer (at0 p), .pointer (at0 p2), .int .i64 sx, .int .i64 sy, .int .i64 w, .int .i64 g, .int .i64 dx, .int .i64 dy, .int .i64 (op:Nat)] h K Kp:=by
 refine call_bitmap_Map_Blit ?_
 unfold bitmap_Map_Blit
 obtain ⟨W',X',e1,e2,hW1,hW2,hX1,hX2,hWX⟩:=size_nat hs
 obtain rfl:W=W':=by omega
 obtain rfl:X=X':=by omega
 obtain ⟨W',X',e3,e4,hV1,hV2,hY1,hY2,hVY⟩:=size_nat hs2
 obtain rfl:W2=W':=by omega
 obtain rfl:X2=X':=by omega
 clear e1 e2 e3 e4
 have hhw:=hw_le hW1 hWX
 have hwl:=wds_le hW1
 have hhw2:=hw_le hV1 hVY
 have hwl2:=wds_le hV1
 have hwp2:=wds_pos hV1
 refine bcase_false (by rfl) ?_
 refine bcase_dec (fun h1=>by omega) fun h1=>?_
 refine bcase_dec (fun h2=>by omega) fun h2=>?_
 refine bcase_dec (fun h3=>by omega) fun h3=>?_
 refine bcase_dec (fun h4=>by omega) fun h4=>?_
 clear h1 h2 h3 h4
 try simp only [ptr_some_eq,add_mk,Nat.zero_add,Nat.add_zero]
 refine ldI_of (H.cell 2 rfl (i:=0) rfl) ?_
 refine ldI_of (H.cell 0 rfl rfl) ?_
 refine both_ok hsx hdx hwi (by omega) (by omega) fun f1 t1 l1 c1=>?_
 refine ⟨_,_,_,rfl,?_⟩
 refine ldI_of (H.cell 2 rfl (i:=1) rfl) ?_
 refine ldI_of (H.cell 0 rfl rfl) ?_
 refine both_ok hsy hdy hgi (by omega) (by omega) fun f2 t2 l2 c2=>?_
 refine ⟨_,_,_,rfl,?_⟩
 have none:(l1=0\/l2=0)->K (.int .i64 0) h:=fun hz=>by
  refine hk ws _ hl hw (fun Y hY x' hx'=>?_) H
  rw [if_neg]
  rintro ⟨g1,g2,g3,g4,g5,g6,g7,g8,g9⟩
  rcases hz with hz | hz
  ·rcases c1 with ⟨_,c1⟩ | c1
   ·exact c1 (x'-dx) (by omega) (by omega) (by omega) (by omega) (by omega) (by omega)
   ·omega
  ·rcases c2 with ⟨_,c2⟩ | c2
   ·exact c2 (Y-dy) (by omega) (by omega) (by omega) (by omega) (by omega) (by omega)
   ·omega
 refine bcase_eq (fun h3=>none (.inl h3)) fun h3=>?_
 refine bcase_eq (fun h4=>none (.inr h4)) fun h4=>?_
 clear none
 obtain ⟨a1,a2,a3,a4,a5,a6,a7,a8,a9⟩:=c1.resolve_left (fun h=>h3 h.1)
 obtain ⟨b1,b2,b3,b4,b5,b6,b7,b8,b9⟩:=c2.resolve_left (fun h=>h4 h.1)
 clear c1 c2 h3 h4
 obtain ⟨fx,rfl⟩:∃ n:Nat,f1=(n:Nat):=⟨f1.toNat,by omega⟩
 obtain ⟨tx,rfl⟩:∃ n:Nat,t1=(n:Nat):=⟨t1.toNat,by omega⟩
 obtain ⟨wide,rfl⟩:∃ n:Nat,l1=(n:Nat):=⟨l1.toNat,by omega⟩
 obtain ⟨fy,rfl⟩:∃ n:Nat,f2=(n:Nat):=⟨f2.toNat,by omega⟩
 obtain ⟨ty,rfl⟩:∃ n:Nat,t2=(n:Nat):=⟨t2.toNat,by omega⟩
 obtain ⟨high,rfl⟩:∃ n:Nat,l2=(n:Nat):=⟨l2.toNat,by omega⟩
 refine operations_ok fun o h' H'=>?_
 replace H:=H.join H' rfl
 clear H'
 refine ⟨_,_,_,rfl,?_⟩
 refine needs_of (by omega) ?_
 obtain ⟨fv,hfv,hfc⟩:=opB_cell H 4 rfl hop
 simp only [ptr_some_eq,add_mk,Nat.zero_add,Int.toNat_natCast,Nat.mul_one]
 refine ldV_of hfc ?_
 refine ldI_of (H.cell 2 rfl (i:=2) rfl) ?_
 refine needs_of (by simp; omega) ?_
 simp only [Int.toNat_natCast,u64s_zero]
 refine newC_hp H fun rw h H=>?_
 let G:Nat->Nat->Bool:=fun x' Y=>if tx<=x'/\x'<tx+wide/\ty<=Y/\Y<ty+high then opB op (pix ws (wds W) x' Y) (pix ws2 (wds W2) (fx+(x'-tx)) (fy+(Y-ty))) else pix ws (wds W) x' Y
 have hG:∀ x' Y,G x' Y=if tx<=x'/\x'<tx+wide/\ty<=Y/\Y<ty+high then opB op (pix ws (wds W) x' Y) (pix ws2 (wds W2) (fx+(x'-tx)) (fy+(Y-ty))) else pix ws (wds W) x' Y:=fun _ _=>rfl
 have hlast:(tx+wide-1) / 64<wds W:=by unfold wds; omega
 have hsrc:W2<=64*wds W2:=by unfold wds; omega
 let D:Nat->Nat->Bool:=fun n Y=>if fy<ty then decide (ty+(high-n)<=Y/\Y<ty+high) else decide (ty<=Y/\Y<ty+n)
 have hD:∀ n Y,D n Y=true↔(fy<ty/\ty+(high-n)<=Y/\Y<ty+high)\/(¬ fy<ty/\ty<=Y/\Y<ty+n):=fun n Y=>by
  show (if fy<ty then _ else _)=true↔_
  by_cases h1:fy<ty
  ·rw [if_pos h1,decide_eq_true_eq]; omega
  ·rw [if_neg h1,decide_eq_true_eq]; omega
 have hrw0:W64 (List.replicate (wds W2) 0):=W64.zero _
 refine ⟨fun n vs h=>∃ (j J0:Nat) (R rs:List Nat),j+n=high/\vs=[.int .i64 (j:Int)]/\rs.length=wds W2/\Inv X (wds W) G (pix ws (wds W)) (D j) J0 (tx / 64) R/\J0<X /\
   Hp h0 FF h (mapL p q W X R rest++mapL p2 q2 W2 X2 ws2 rest2++[⟨o,true,T_func_uint64_uint64_uint64,opsV⟩]++[⟨rw,true,T_uint64,u64s rs⟩]),
  ⟨high,0,0,ws,List.replicate (wds W2) 0,by omega,rfl,by simp,⟨hl,hw,fun Y hY x' hx'=>?_⟩,by omega,H⟩,?_⟩
 ·by_cases h5:D 0 Y=true\/Y=0/\x' / 64<tx / 64
  ·rw [if_pos h5,hG,if_neg]
   rcases h5 with h5 | h5
   ·have:=(hD 0 Y).1 h5; omega
   ·omega
  ·rw [if_neg h5]
 clear H hrw0
 rintro n h u xx ⟨j,J0,R,rs,hjn,hxx,hrs,hI,hJ0,H⟩
 injection hxx with hxx
 injection hxx with _ hxx
 subst hxx
 refine bcase_dec (fun h5=>?_) fun h5=>?_
 ·have h5:j<high:=by omega
  obtain ⟨jj,hjj⟩:∃ jj:Nat,jj=if fy<ty then high-1-j else j:=⟨_,rfl⟩
  have hjj2:fy<ty/\jj+j+1=high\/¬ fy<ty/\jj=j:=by
   by_cases h1:fy<ty
   ·rw [if_pos h1] at hjj; left; omega
   ·rw [if_neg h1] at hjj; right; exact ⟨h1,hjj⟩
  refine ⟨fun vs h'=>h'=h/\vs=[.int .i64 (jj:Int)],?_,?_⟩
  ·refine bcase_dec (fun h6=>?_) fun h6=>?_
   ·refine bindI_of (((high-1:Nat):Int)) (by exact i64_at _ _ (by omega) (by omega) (by omega)) ?_
    refine bindI_of (((jj:Nat):Int)) (by exact i64_at _ _ (by omega) (by omega) (by omega)) ?_
    exact ⟨by first | rfl | trivial,rfl⟩
   ·have:jj=j:=by omega
    rw [this]
    exact ⟨by first | rfl | trivial,rfl⟩
  ·rintro h' u' x39 ⟨rfl,hx39⟩
   injection hx39 with hx39
   injection hx39 with _ hx39
   subst hx39
   have hjh:jj<high:=by omega
   have hsrow:fy+jj<X2:=by omega
   have hdrow:ty+jj<X:=by omega
   have hrow2:(fy+jj+1)*wds W2<=X2*wds W2:=Nat.mul_le_mul_right _ (by omega)
   have hrow2':(fy+jj+1)*wds W2=(fy+jj)*wds W2+wds W2:=by rw [Nat.add_mul,Nat.one_mul]
   refine bindI_of (((fy+jj:Nat):Int)) (by exact i64_at _ _ (by omega) (by omega) (by omega)) ?_
   try simp only [ptr_some_eq,add_mk,Nat.zero_add,Nat.add_zero]
   refine ldI_of (H.cell 2 rfl (i:=2) rfl) ?_
   refine bindI_of ((((fy+jj)*wds W2:Nat):Int)) (by exact i64_at _ _ mul_cast (by omega) (by omega)) ?_
   generalize hat:(fy+jj)*wds W2=at_ at hrow2 hrow2' ⊢
   refine ldS_of (H.cell 2 rfl (i:=3) rfl) ?_
   refine ldI_of (H.cell 2 rfl (i:=2) rfl) ?_
   refine bindI_of (((at_+wds W2:Nat):Int)) (by exact i64_at _ _ (by omega) (by omega) (by omega)) ?_
   refine ldI_of (H.cell 2 rfl (i:=2) rfl) ?_
   refine bindI_of (((at_+wds W2:Nat):Int)) (by exact i64_at _ _ (by omega) (by omega) (by omega)) ?_
   refine needs_of (by omega) ?_
   refine needs_of (by omega) ?_
   refine needs_of (by omega) ?_
   simp only [Int.toNat_natCast]
   have hsub:subA (at0 q2) (at_+wds W2) at_ 1=some ⟨q2,at_,none⟩:=by
    unfold subA
    rw [if_neg (by omega)]
    show some ((⟨q2,0,none⟩:Addr).add (at_*1))=_
    rw [add_mk]; simp
   rw [hsub]
   have hmin:Nat.min (at_+wds W2-at_) (wds W2)=wds W2:=by
    show min (at_+wds W2-at_) (wds W2)=_
    omega
   have hnew:((u64s ws2++rest2).drop at_).take (wds W2*1)=u64s (rowW ws2 (wds W2) (fy+jj)):=by
    unfold rowW
    rw [hat,Nat.mul_one,List.drop_append_of_le_length (by rw [u64s_length]; omega),List.take_append_of_le_length (by rw [List.length_drop,u64s_length]; omega)]
    unfold u64s
    rw [List.map_take,List.map_drop]
   have hrd:=rdO_hp H 3 (o:=at_) (n:=wds W2*1) rfl (by rw [List.length_append,u64s_length]; omega)
   rw [hnew] at hrd
   have hrl:=rowW_len hl2 hsrow
   refine ⟨_,by rw [hmin]; exact hrd,?_⟩
   refine stVs_all H 5 rfl (by rw [u64s_length,u64s_length,hrl,hrs]) (u64s_cells _) fun h' hsz H=>?_
   have H:Hp h0 FF h' (mapL p q W X R rest++mapL p2 q2 W2 X2 ws2 rest2++[⟨o,true,T_func_uint64_uint64_uint64,opsV⟩]++[⟨rw,true,T_uint64,u64s (rowW ws2 (wds W2) (fy+jj))⟩]):=H
   have hrwp:=fun x (hx:x<64*wds W2)=>rowW_pix (S:=ws2) (swd:=wds W2) (r:=fy+jj) hx
   have hrww:=rowW_w hw2 (wds W2) (fy+jj)
   generalize rowW ws2 (wds W2) (fy+jj)=rw2 at H hrl hrwp hrww
   have hDj:D j (ty+jj)=false:=by
    rw [<- Bool.not_eq_true,hD]; omega
   have hI2:Inv X (wds W) G (pix ws (wds W)) (D j) (ty+jj) (tx / 64) R:=by
    refine ⟨hI.1,hI.2.1,fun Y hY x' hx'=>?_⟩
    rw [hI.2.2 Y hY x' hx']
    have e:∀ Y,x' / 64<tx / 64->G x' Y=pix ws (wds W) x' Y:=fun Y h6=>by rw [hG,if_neg (by omega)]
    by_cases h6:D j Y=true
    ·rw [if_pos (.inl h6),if_pos (.inl h6)]
    ·by_cases h7:x' / 64<tx / 64
     ·have:=e Y h7
      split <;> split <;> first | rfl | exact this | exact this.symm
     ·rw [if_neg (by rintro (h8 | h8); exact h6 h8; exact h7 h8.2),if_neg (by rintro (h8 | h8); exact h6 h8; exact h7 h8.2)]
   clear hI
   refine bindI_of (((tx / 64:Nat):Int)) (by exact i64_at _ _ (tdiv_nat tx 64) (by omega) (by omega)) ?_
   refine ⟨fun n vs h=>∃ (i:Nat) (R:List Nat),i+n=(tx+wide-1) / 64+1/\tx / 64<=i/\vs=[.int .i64 (i:Int)]/\Inv X (wds W) G (pix ws (wds W)) (D j) (ty+jj) i R /\
     Hp h0 FF h (mapL p q W X R rest++mapL p2 q2 W2 X2 ws2 rest2++[⟨o,true,T_func_uint64_uint64_uint64,opsV⟩]++[⟨rw,true,T_uint64,u64s rw2⟩]),
    ⟨(tx+wide-1) / 64+1-tx / 64,tx / 64,R,by omega,Nat.le_refl _,rfl,hI2,H⟩,?_⟩
   clear H hI2
   rintro n2 h u2 xx ⟨i,R,hin,hi,hxx,hI,H⟩
   injection hxx with hxx
   injection hxx with _ hxx
   subst hxx
   refine bindI_of (((tx+wide:Nat):Int)) (by exact i64_at _ _ (by omega) (by omega) (by omega)) ?_
   refine bindI_of (((tx+wide-1:Nat):Int)) (by exact i64_at _ _ (by omega) (by omega) (by omega)) ?_
   refine bindI_of ((((tx+wide-1) / 64:Nat):Int)) (by exact i64_at _ _ (tdiv_nat (tx+wide-1) 64) (by omega) (by omega)) ?_
   refine bcase_dec (fun h6=>?_) fun h6=>?_
   ·have h6:i<=(tx+wide-1) / 64:=by omega
    have hiw:i<wds W:=by omega
    have hidx:=idx_lt hiw hdrow
    have hjw:(ty+jj)*wds W<=X*wds W:=Nat.mul_le_mul_right _ (by omega)
    have hRl:=hI.1
    refine bindI_of (((ty+jj:Nat):Int)) (by exact i64_at _ _ (by omega) (by omega) (by omega)) ?_
    refine ldS_of (H.cell 0 rfl rfl) ?_
    refine ldI_of (H.cell 0 rfl rfl) ?_
    refine bindI_of ((((ty+jj)*wds W:Nat):Int)) (by exact i64_at _ _ mul_cast (by omega) (by omega)) ?_
    refine bindI_of ((((ty+jj)*wds W+i:Nat):Int)) (by exact i64_at _ _ (by omega) (by omega) (by omega)) ?_
    refine needs_of (by omega) ?_
    try simp only [ptr_some_eq,add_mk,Nat.zero_add,Int.toNat_natCast,Nat.mul_one]
    refine mask_ok (by omega) (by omega) fun M hM hMb=>?_
    refine ⟨_,rfl,?_⟩
    refine bindI_of (((64*i:Nat):Int)) (by exact i64_at _ _ (by omega) (by omega) (by omega)) ?_
    refine bindI_of (((fx+64*i:Nat):Int)) (by exact i64_at _ _ (by omega) (by omega) (by omega)) ?_
    refine bindI_of ((((fx+64*i:Nat):Int)-(tx:Nat))) (by exact i64_in _ (by omega) (by omega)) ?_
    have hcell:=H.cell 1 rfl (get_app (u64s_get (getD_get (l:=R) (i:=(ty+jj)*wds W+i) (by omega))))
    have hv:=hI.2.1.get ((ty+jj)*wds W+i)
    refine ldI_of hcell ?_
    refine bindI_of _ (andNot64 _ _ hv hM) ?_
    refine ldI_of hcell ?_
    have hrr:=row_rdO (xs:=rw2) (rest:=[]) H 5 (b:=rw) (w:=true) (t:=T_uint64) (by rw [List.append_nil]; rfl)
    rw [<- hrl]
    refine word_ok hrr hrww (by omega) (by omega) fun V hV hVb=>?_
    refine ⟨_,rfl,hext.refl _,?_⟩
    refine does_ok hop hv hV hfv fun v hvv hvb=>?_
    refine ⟨_,rfl,hext.refl _,?_⟩
    refine bindI_of _ (and64 _ _ hvv hM) ?_
    refine bindI_of _ (or64 _ _ (and_lt hv) (and_lt hvv)) ?_
    refine stV_hp H 1 rfl (by rw [List.length_append,u64s_length]; omega) rfl fun h hsz H=>?_
    rw [u64s_setr _ _ _ _ (by omega)] at H
    refine bindI_of (((i+1:Nat):Int)) (by exact i64_at _ _ (by omega) (by omega) (by omega)) ?_
    refine ⟨n2-1,by omega,i+1,_,by omega,by omega,rfl,hI.step hdrow hiw (v:=R.getD ((ty+jj)*wds W+i) 0 &&& wnot M ||| v &&& M) (or_lt (and_lt hv) (and_lt hvv)) (fun b hb=>?_),H.as (by simp [mapL,mapE])⟩
    have hwb:=hI.word hDj hdrow hiw hb
    rw [Nat.testBit_or,Nat.testBit_and,Nat.testBit_and,wnot_bit hM hb,hvb b hb,hMb b hb,hVb b hb,hwb,hG]
    by_cases h7:tx<=64*i+(63-b)/\64*i+(63-b)<tx+wide
    ·rw [decide_eq_true h7,if_pos ⟨h7.1,h7.2,by omega,by omega⟩]
     have e1:((fx+64*i:Nat):Int)-(tx:Nat)+(63-(b:Int))=((fx+(64*i+(63-b)-tx):Nat):Int):=by omega
     have e2:ty+jj-ty=jj:=by omega
     rw [e1,hrwp _ (by omega),e2]
     simp
    ·rw [decide_eq_false h7,if_neg (fun h8=>h7 ⟨h8.1,h8.2.1⟩)]
     simp
   ·have h6:(tx+wide-1) / 64<i:=by omega
    refine bindI_of (((j+1:Nat):Int)) (by exact i64_at _ _ (by omega) (by omega) (by omega)) ?_
    refine ⟨n-1,by omega,j+1,ty+jj,R,rw2,by omega,rfl,hrl,hI.row (fun x' h7 h8=>?_) (fun Y=>?_) (fun x' h7 h8=>?_),hdrow,H⟩
    ·rw [hG,if_neg (by omega)]
    ·rw [hD,hD]; omega
    ·rw [hG,if_neg (by omega)]
 ·have h5:j=high:=by omega
  subst h5
  refine hk R _ hI.1 hI.2.1 (fun Y hY x' hx'=>?_) (H.pre.pre)
  rw [hI.2.2 Y hY x' hx']
  have e1:(D j Y=true\/Y=J0/\x' / 64<tx / 64)->G x' Y=if tx<=x'/\x'<tx+wide/\ty<=Y/\Y<ty+j then opB op (pix ws (wds W) x' Y) (pix ws2 (wds W2) (fx+(x'-tx)) (fy+(Y-ty))) else pix ws (wds W) x' Y:=fun _=>hG x' Y
  by_cases h6:tx<=x'/\x'<tx+wide/\ty<=Y/\Y<ty+j
  ·rw [if_pos (.inl ((hD j Y).2 (by omega))),hG,if_pos h6,if_pos (by omega)]
   congr 2 <;> omega
  ·have hno:¬ (dx<=x'/\(x':Int)<dx+w/\x'<W/\dy<=Y/\(Y:Int)<dy+g/\0<=sx+(x'-dx)/\sx+(x'-dx)<W2/\0<=sy+(Y-dy)/\sy+(Y-dy)<X2):=by
    rintro ⟨g1,g2,g3,g4,g5,g6,g7,g8,g9⟩
    have k1:=a9 (x'-dx) (by omega) (by omega) (by omega) (by omega) (by omega) (by omega)
    have k2:=b9 (Y-dy) (by omega) (by omega) (by omega) (by omega) (by omega) (by omega)
    exact h6 (by omega)
   rw [if_neg hno]
   split
   ·rw [hG,if_neg h6]
   ·rfl
end Go.Bm
namespace Go.Bm
open Go Go.Den Go.Den.YtbknfejmdekhpaaGreat
def getP (ws:List Nat) (W X:Nat) (x y:Int):Bool:=decide (0<=x/\0<=y/\x<W/\y<X) && pix ws (wds W) x.toNat y.toNat
theorem div_lt_wds {W x:Nat} (h:x<W):x / 64<wds W:=by unfold wds; omega
theorem get_ok {hB:Heap} {q:Option Addr} {c W X:Nat} {ws:List Nat} (hr:rdO hB q (ws.length*1) (u64s ws)) (hw:W64 ws) (hs:SizeP (W:Int) (X:Int)) (hl:ws.length=X*wds W) {x y:Int} {K:VK} {Kp:PK}
  (hk:∀ h,hext hB h->K (.int .i64 ((getP ws W X x y).toNat:Nat)) h):CP F_burinref0_Get #[.agg #[.int .i64 (W:Nat), .int .i64 (X:Nat), .slice q ws.length c], .int .i64 x, .int .i64 y] hB K Kp:=by
 refine call_burinref0_Get ?_
 unfold burinref0_Get
 obtain ⟨W',X',e1,e2,hW1,hW2,hX1,hX2,hWX⟩:=size_nat hs
 obtain rfl:W=W':=by omega
 obtain rfl:X=X':=by omega
 have hhw:=hw_le hW1 hWX
 have hwl:=wds_le hW1
 have H:=Hp.nil hB []
 refine newC_hp H fun r h H=>?_
 have no:∀ h,Hp hB [] h [⟨r,true,T_api_Bitmap,[.int .i64 (W:Nat), .int .i64 (X:Nat), .slice q ws.length c]⟩]->¬ (0<=x/\0<=y/\x<W/\y<X)->K (.int .i64 0) h:=fun h H hno=>by
  have:=hk h H.hext
  unfold getP at this
  rw [decide_eq_false hno] at this
  exact this
 refine bcase_dec (fun h1=>no _ H (by omega)) fun h1=>?_
 refine bcase_dec (fun h2=>no _ H (by omega)) fun h2=>?_
 try simp only [ptr_some_eq,add_mk,Nat.zero_add,Nat.add_zero]
 refine ldI_of (H.cell 0 rfl rfl) ?_
 refine bcase_dec (fun h3=>no _ H (by omega)) fun h3=>?_
 refine ldI_of (H.cell 0 rfl rfl) ?_
 refine bcase_dec (fun h4=>no _ H (by omega)) fun h4=>?_
 obtain ⟨a,rfl⟩:∃ a:Nat,x=(a:Nat):=⟨x.toNat,by omega⟩
 obtain ⟨b,rfl⟩:∃ b:Nat,y=(b:Nat):=⟨y.toNat,by omega⟩
 have haw:=div_lt_wds (show a<W by omega)
 have hidx:=idx_lt haw (show b<X by omega)
 have hbw:b*wds W<=X*wds W:=Nat.mul_le_mul_right _ (by omega)
 have h64:=Nat.mod_lt a (show 64 > 0 by decide)
 refine bindI_of (((a / 64:Nat):Int)) (by exact i64_at _ _ (tdiv_nat a 64) (by omega) (by omega)) ?_
 refine bindI_of (((a % 64:Nat):Int)) (by exact tmod_nat a 64) ?_
 refine bindI_of (((63-a % 64:Nat):Int)) (by exact i64_at _ _ (by omega) (by omega) (by omega)) ?_
 refine bindI_of (((63-a % 64:Nat):Int)) (by exact u64_in _ (by omega) (by omega)) ?_
 refine ldS_of (H.cell 0 rfl rfl) ?_
 refine ldI_of (H.cell 0 rfl rfl) ?_
 refine words_ok (by omega) ?_
 refine ⟨_,rfl,hext.refl _,?_⟩
 refine bindI_of (((b*wds W:Nat):Int)) (by exact i64_at _ _ mul_cast (by omega) (by omega)) ?_
 refine bindI_of (((b*wds W+a / 64:Nat):Int)) (by exact i64_at _ _ (by omega) (by omega) (by omega)) ?_
 refine needs_of (by omega) ?_
 obtain ⟨ad,had,hc⟩:=rdO_cell (H.rdO hr) (u64s_get (getD_get (l:=ws) (i:=b*wds W+a / 64) (by omega)))
 subst had
 simp only [ptr_some_eq,Int.toNat_natCast,Nat.mul_one]
 refine ldI_of hc ?_
 refine needs_of (by omega) ?_
 have hv:=hw.get (b*wds W+a / 64)
 have hres:=hk _ H.hext
 unfold getP pix at hres
 rw [decide_eq_true (by omega),Bool.true_and,Int.toNat_natCast,Int.toNat_natCast] at hres
 generalize ws.getD (b*wds W+a / 64) 0=v at hv hres ⊢
 refine bindI_of (((v / 2 ^ (63-a % 64):Nat):Int)) (by exact shr_of (by show 63-a % 64<=64; omega)) ?_
 have hlt:=Nat.lt_of_le_of_lt (Nat.div_le_self v (2 ^ (63-a % 64))) hv
 refine bindI_of (((v / 2 ^ (63-a % 64) % 2:Nat):Int)) (by exact (and64 _ 1 hlt (by decide)).trans (by rw [Nat.and_one_is_mod])) ?_
 refine bindI_of (((v / 2 ^ (63-a % 64) % 2:Nat):Int)) (by exact i64_in _ (by omega) (by omega)) ?_
 have e:v / 2 ^ (63-a % 64) % 2=(v.testBit (63-a % 64)).toNat:=(Nat.toNat_testBit v _).symm
 rw [e]
 exact hres
theorem pow_bit {j k:Nat}:(2 ^ j).testBit k=decide (j=k):=Nat.testBit_two_pow
theorem eqW_ok {h:Heap} {a b:Option Addr} {ac bc:Nat} {xs ys:List Nat} (ha:rdO h a (xs.length*1) (u64s xs)) (hb:rdO h b (ys.length*1) (u64s ys)) (hlen:xs.length<140737488351300)
  {K:VK} {Kp:PK} (hk:K (.bool (decide (xs=ys))) h):CP F_burinref0_EqWords #[.slice a xs.length ac, .slice b ys.length bc] h K Kp:=by
 refine call_burinref0_EqWords ?_
 unfold burinref0_EqWords
 refine bcase_ne (fun h1=>?_) fun h1=>?_
 ·rw [decide_eq_false (fun e=>h1 (by rw [e]))] at hk
  exact hk
 have h1:xs.length=ys.length:=by omega
 refine ⟨fun n vs h'=>∃ i:Nat,i+n=xs.length/\vs=[.int .i64 (i:Int)]/\h'=h/\∀ j,j<i->xs[j]? = ys[j]?,⟨xs.length,0,by omega,rfl,rfl,fun j hj=>by omega⟩,?_⟩
 rintro n h' u x ⟨i,hin,hx,rfl,he⟩
 injection hx with hx
 injection hx with _ hx
 subst hx
 refine bcase_dec (fun h2=>?_) fun h2=>?_
 ·have h2:i<xs.length:=by omega
  refine needs_of (by omega) ?_
  obtain ⟨p,hp,hc⟩:=rdO_cell ha (u64s_get (getD_get h2))
  obtain ⟨p2,hp2,hc2⟩:=rdO_cell hb (u64s_get (getD_get (show i<ys.length by omega)))
  subst hp hp2
  simp only [ptr_some_eq,Int.toNat_natCast,Nat.mul_one]
  refine needs_of (by omega) ?_
  refine ldI_of hc ?_
  refine ldI_of hc2 ?_
  refine bcase_ne (fun h3=>?_) fun h3=>?_
  ·rw [decide_eq_false (fun e=>h3 (by rw [e]))] at hk
   exact hk
  ·refine bindI_of (((i+1:Nat):Int)) (by exact i64_at _ _ (by omega) (by omega) (by omega)) ?_
   refine ⟨n-1,by omega,i+1,by omega,rfl,by first | rfl | trivial,fun j hj=>?_⟩
   rcases Nat.lt_or_ge j i with h4 | h4
   ·exact he j h4
   ·have:j=i:=by omega
    subst this
    rw [getD_get h2,getD_get (show j<ys.length by omega)]
    congr 1
    omega
 ·have:xs=ys:=by
   apply List.ext_getElem?
   intro j
   rcases Nat.lt_or_ge j i with h4 | h4
   ·exact he j h4
   ·rw [List.getElem?_eq_none (by omega),List.getElem?_eq_none (by omega)]
  rw [decide_eq_true this] at hk
  exact hk
theorem eqB_ok {hB:Heap} {a b:Option Addr} {ac bc:Nat} {w g w' g':Int} {xs ys:List Nat} (ha:rdO hB a (xs.length*1) (u64s xs)) (hb:rdO hB b (ys.length*1) (u64s ys)) (hlen:xs.length<140737488351300)
  {K:VK} {Kp:PK} (hk:∀ h,hext hB h->K (.bool (decide (w=w'/\g=g'/\xs=ys))) h):CP F_burinref0_EqBitmap #[.agg #[.int .i64 w, .int .i64 g, .slice a xs.length ac], .agg #[.int .i64 w', .int .i64 g', .slice b ys.length bc]] hB K Kp:=by
 refine call_burinref0_EqBitmap ?_
 unfold burinref0_EqBitmap
 have H:=Hp.nil hB []
 refine newC_hp H fun r h H=>?_
 refine newC_hp H fun r2 h H=>?_
 try simp only [ptr_some_eq,add_mk,Nat.zero_add,Nat.add_zero]
 refine ldI_of (H.cell 0 rfl rfl) ?_
 refine ldI_of (H.cell 1 rfl rfl) ?_
 have hk:=hk _ H.hext
 refine bcase_eq (fun h1=>?_) fun h1=>?_
 ·refine ldI_of (H.cell 0 rfl rfl) ?_
  refine ldI_of (H.cell 1 rfl rfl) ?_
  refine bcase_eq (fun h2=>?_) fun h2=>?_
  ·refine ldS_of (H.cell 0 rfl rfl) ?_
   refine ldS_of (H.cell 1 rfl rfl) ?_
   refine eqW_ok (H.rdO ha) (H.rdO hb) hlen ?_
   refine ⟨_,rfl,?_⟩
   have e:decide (xs=ys)=decide (w=w'/\g=g'/\xs=ys):=by rw [decide_eq_decide]; simp [h1,h2]
   rw [e]
   exact hk
  ·rw [decide_eq_false (fun e=>h2 e.2.1)] at hk
   exact hk
 ·rw [decide_eq_false (fun e=>h1 e.1)] at hk
  exact hk
end Go.Bm
namespace Go.Bm
open Go Go.Den Go.Den.YtbknfejmdekhpaaGreat
section
variable {h0 h:Heap} {FF:List Nat} {L:List Ent} {p q c W X:Nat} {w:Bool} {ws:List Nat} {rest:List Value} {K:VK} {Kp:PK}
theorem ptr_of {a:Addr} {K:Addr->Prop} (h:K a):ptr (some a) K:=h
theorem Hp.cellA (H:Hp h0 FF h L) (k:Nat) {b i:Nat} {w:Bool} {t:TypeId} {cs:List Value} {v:Value} (he:L[k]? = some ⟨b,w,t,cs⟩) (hv:cs[i]? = some v):hcell h ((⟨b,0,none⟩:Addr).add i)=some v:=by
 rw [add_mk,Nat.zero_add]
 exact H.cell k he hv
theorem msize_ok (H:Hp h0 FF h L) (kp:Nat) (hp:L[kp]? = some (mapE p q W X ws.length c)) (hk:K (.tuple #[.int .i64 (W:Nat), .int .i64 (X:Nat)]) h):CP F_bitmap_Map_Size #[.pointer (at0 p)] h K Kp:=by
 refine call_bitmap_Map_Size ?_
 unfold bitmap_Map_Size
 try simp only [ptr_some_eq,add_mk,Nat.zero_add,Nat.add_zero]
 refine ldI_of (H.cell kp hp (i:=0) rfl) ?_
 refine ldI_of (H.cell kp hp (i:=1) rfl) ?_
 exact hk
theorem minside_ok (H:Hp h0 FF h L) (kp:Nat) (hp:L[kp]? = some (mapE p q W X ws.length c)) {x y:Int} (hk:∀ b:Bool,(b=true↔0<=x/\x<W/\0<=y/\y<X)->K (.bool b) h):CP F_bitmap_Map_inside #[.pointer (at0 p), .int .i64 x, .int .i64 y] h K Kp:=by
 refine call_bitmap_Map_inside ?_
 unfold bitmap_Map_inside
 try simp only [ptr_some_eq,add_mk,Nat.zero_add,Nat.add_zero]
 refine bcase_dec (fun h1=>?_) fun h1=>hk false (by simp; omega)
 refine ldI_of (H.cell kp hp (i:=0) rfl) ?_
 refine bcase_dec (fun h2=>?_) fun h2=>hk false (by simp; omega)
 refine bcase_dec (fun h3=>?_) fun h3=>hk false (by simp; omega)
 refine ldI_of (H.cell kp hp (i:=1) rfl) ?_
 exact hk _ (by simp; omega)
theorem mget_ok (H:Hp h0 FF h L) (kp kq:Nat) (hp:L[kp]? = some (mapE p q W X ws.length c)) (hq:L[kq]? = some ⟨q,w,T_uint64,u64s ws++rest⟩) (hs:SizeP (W:Int) (X:Int)) (hl:ws.length=X*wds W) (hw:W64 ws) {x y:Int}
  (hk:K (.int .i64 ((getP ws W X x y).toNat:Nat)) h):CP F_bitmap_Map_Get #[.pointer (at0 p), .int .i64 x, .int .i64 y] h K Kp:=by
 refine call_bitmap_Map_Get ?_
 unfold bitmap_Map_Get
 obtain ⟨W',X',e1,e2,hW1,hW2,hX1,hX2,hWX⟩:=size_nat hs
 obtain rfl:W=W':=by omega
 obtain rfl:X=X':=by omega
 have hhw:=hw_le hW1 hWX
 have hwl:=wds_le hW1
 refine minside_ok H kp hp fun b hb=>?_
 refine ⟨_,rfl,?_⟩
 refine bcase_not (fun h1=>?_) fun h1=>?_
 ·have hno:¬ (0<=x/\0<=y/\x<W/\y<X):=fun h2=>by rw [hb.2 ⟨h2.1,h2.2.2.1,h2.2.1,h2.2.2.2⟩] at h1; cases h1
  unfold getP at hk
  rw [decide_eq_false hno] at hk
  exact hk
 have hin:=hb.1 h1
 obtain ⟨a,rfl⟩:∃ a:Nat,x=(a:Nat):=⟨x.toNat,by omega⟩
 obtain ⟨b,rfl⟩:∃ b:Nat,y=(b:Nat):=⟨y.toNat,by omega⟩
 have haw:=div_lt_wds (show a<W by omega)
 have hidx:=idx_lt haw (show b<X by omega)
 have hbw:b*wds W<=X*wds W:=Nat.mul_le_mul_right _ (by omega)
 have h64:=Nat.mod_lt a (show 64 > 0 by decide)
 refine ptr_of (a:=⟨p,0,none⟩) (ptr_of (a:=⟨p,0,none⟩) ?_)
 refine bindI_of (((a / 64:Nat):Int)) (by exact i64_at _ _ (tdiv_nat a 64) (by omega) (by omega)) ?_
 refine bindI_of (((a % 64:Nat):Int)) (by exact tmod_nat a 64) ?_
 refine bindI_of (((63-a % 64:Nat):Int)) (by exact i64_at _ _ (by omega) (by omega) (by omega)) ?_
 refine ldS_of (Hp.cellA H kp hp (i:=3) rfl) ?_
 refine ldI_of (Hp.cellA H kp hp (i:=2) rfl) ?_
 refine bindI_of (((b*wds W:Nat):Int)) (by exact i64_at _ _ mul_cast (by omega) (by omega)) ?_
 refine bindI_of (((b*wds W+a / 64:Nat):Int)) (by exact i64_at _ _ (by omega) (by omega) (by omega)) ?_
 refine needs_of (by omega) ?_
 refine ptr_of (a:=⟨q,0,none⟩) ?_
 rw [Int.toNat_natCast,Nat.mul_one]
 refine ldI_of (Hp.cellA H kq hq (get_app (u64s_get (getD_get (l:=ws) (i:=b*wds W+a / 64) (by omega))))) ?_
 refine needs_of (by omega) ?_
 have hv:=hw.get (b*wds W+a / 64)
 have hres:=hk
 unfold getP pix at hres
 rw [decide_eq_true (by omega),Bool.true_and,Int.toNat_natCast,Int.toNat_natCast] at hres
 generalize ws.getD (b*wds W+a / 64) 0=v at hv hres ⊢
 refine bindI_of (((v / 2 ^ (63-a % 64):Nat):Int)) (by exact shr_of (by show 63-a % 64<=64; omega)) ?_
 have hlt:=Nat.lt_of_le_of_lt (Nat.div_le_self v (2 ^ (63-a % 64))) hv
 refine bindI_of (((v / 2 ^ (63-a % 64) % 2:Nat):Int)) (by exact (and64 _ 1 hlt (by decide)).trans (by rw [Nat.and_one_is_mod])) ?_
 refine bindI_of (((v / 2 ^ (63-a % 64) % 2:Nat):Int)) (by exact i64_in _ (by omega) (by omega)) ?_
 have e:v / 2 ^ (63-a % 64) % 2=(v.testBit (63-a % 64)).toNat:=(Nat.toNat_testBit v _).symm
 rw [e]
 exact hres
theorem mput_ok (H:Hp h0 FF h L) (kp kq:Nat) (hp:L[kp]? = some (mapE p q W X ws.length c)) (hq:L[kq]? = some ⟨q,true,T_uint64,u64s ws++rest⟩) (hs:SizeP (W:Int) (X:Int)) (hl:ws.length=X*wds W) (hw:W64 ws) {a b:Nat} (ha:a<W) (hb:b<X) {bit:Bool}
  (hk:∀ R h',R.length=ws.length->W64 R->(∀ y,y<X->∀ x,x<64*wds W->pix R (wds W) x y=if y=b/\x=a then bit else pix ws (wds W) x y)->Hp h0 FF h' (L.set kq ⟨q,true,T_uint64,u64s R++rest⟩)->K (.tuple #[]) h') :
  CP F_bitmap_Map_put #[.pointer (at0 p), .int .i64 (a:Nat), .int .i64 (b:Nat), .int .i64 (bit.toNat:Nat)] h K Kp:=by
 refine call_bitmap_Map_put ?_
 unfold bitmap_Map_put
 obtain ⟨W',X',e1,e2,hW1,hW2,hX1,hX2,hWX⟩:=size_nat hs
 obtain rfl:W=W':=by omega
 obtain rfl:X=X':=by omega
 have hhw:=hw_le hW1 hWX
 have hwl:=wds_le hW1
 have haw:=div_lt_wds ha
 have hidx:=idx_lt haw hb
 have hbw:b*wds W<=X*wds W:=Nat.mul_le_mul_right _ (by omega)
 have h64:=Nat.mod_lt a (show 64 > 0 by decide)
 have hbit:bit.toNat<=1:=by cases bit <;> decide
 refine ptr_of (a:=⟨p,0,none⟩) (ptr_of (a:=⟨p,0,none⟩) ?_)
 refine bindI_of (((a / 64:Nat):Int)) (by exact i64_at _ _ (tdiv_nat a 64) (by omega) (by omega)) ?_
 refine ldS_of (Hp.cellA H kp hp (i:=3) rfl) ?_
 refine ldI_of (Hp.cellA H kp hp (i:=2) rfl) ?_
 refine bindI_of (((b*wds W:Nat):Int)) (by exact i64_at _ _ mul_cast (by omega) (by omega)) ?_
 refine bindI_of (((b*wds W+a / 64:Nat):Int)) (by exact i64_at _ _ (by omega) (by omega) (by omega)) ?_
 refine needs_of (by omega) ?_
 refine ptr_of (a:=⟨q,0,none⟩) ?_
 rw [Int.toNat_natCast,Nat.mul_one]
 refine bindI_of (((a % 64:Nat):Int)) (by exact tmod_nat a 64) ?_
 refine bindI_of (((63-a % 64:Nat):Int)) (by exact i64_at _ _ (by omega) (by omega) (by omega)) ?_
 refine needs_of (by omega) ?_
 have hp2:2 ^ (63-a % 64)<M64:=by rw [M64_pow]; exact Nat.pow_lt_pow_right (by decide) (by omega)
 refine bindI_of (((2 ^ (63-a % 64):Nat):Int)) (by exact shl_of (x:=1) (by show 63-a % 64<=64; omega) (by rw [Nat.one_mul,u64_wrap,Nat.mod_eq_of_lt hp2])) ?_
 refine bindI_of (((bit.toNat:Nat):Int)) (by exact u64_in _ (by omega) (by omega)) ?_
 refine bindI_of (((a % 64:Nat):Int)) (by exact tmod_nat a 64) ?_
 refine bindI_of (((63-a % 64:Nat):Int)) (by exact i64_at _ _ (by omega) (by omega) (by omega)) ?_
 refine needs_of (by omega) ?_
 have hb2:bit.toNat*2 ^ (63-a % 64)<M64:=by cases bit <;> simp <;> first | exact hp2 | decide
 refine bindI_of (((bit.toNat*2 ^ (63-a % 64):Nat):Int)) (by exact shl_of (x:=bit.toNat) (by show 63-a % 64<=64; omega) (by rw [u64_wrap,Nat.mod_eq_of_lt hb2])) ?_
 have hv:=hw.get (b*wds W+a / 64)
 refine ldI_of (Hp.cellA H kq hq (get_app (u64s_get (getD_get (l:=ws) (i:=b*wds W+a / 64) (by omega))))) ?_
 refine bindI_of _ (andNot64 _ _ hv hp2) ?_
 refine bindI_of _ (or64 _ _ (and_lt hv) hb2) ?_
 rw [add_mk,Nat.zero_add]
 refine stV_hp H kq hq (by rw [List.length_append,u64s_length]; omega) rfl fun h hsz H=>?_
 rw [u64s_setr _ _ _ _ (by omega)] at H
 refine hk _ h (by rw [List.length_set]) (hw.set (or_lt (and_lt hv) hb2)) (fun y hy x hx=>?_) H
 rw [pix_set hl haw hb hx]
 by_cases h1:y=b/\x / 64=a / 64
 ·rw [if_pos h1,Nat.testBit_or,Nat.testBit_and,wnot_bit hp2 (by omega),pow_bit]
  have hbb:(bit.toNat*2 ^ (63-a % 64)).testBit (63-x % 64)=(bit && decide (63-a % 64=63-x % 64)):=by
   cases bit
   ·simp
   ·show (1*2 ^ (63-a % 64)).testBit _=_
    rw [Nat.one_mul,pow_bit,Bool.true_and]
  rw [hbb]
  by_cases h2:x=a
  ·subst h2
   rw [if_pos ⟨h1.1,rfl⟩]
   simp
  ·rw [if_neg (fun h=>h2 h.2),decide_eq_false (show ¬ 63-a % 64=63-x % 64 by omega)]
   unfold pix
   rw [h1.1,h1.2]
   simp
 ·rw [if_neg h1,if_neg]
  rintro ⟨h2,h3⟩
  exact h1 ⟨h2,by rw [h3]⟩
theorem mset_ok (H:Hp h0 FF h L) (kp kq:Nat) (hp:L[kp]? = some (mapE p q W X ws.length c)) (hq:L[kq]? = some ⟨q,true,T_uint64,u64s ws++rest⟩) (hs:SizeP (W:Int) (X:Int)) (hl:ws.length=X*wds W) (hw:W64 ws) {a b:Nat} (ha:a<W) (hb:b<X) {bit:Bool}
  (hk:∀ R h',R.length=ws.length->W64 R->(∀ y,y<X->∀ x,x<64*wds W->pix R (wds W) x y=if y=b/\x=a then bit else pix ws (wds W) x y)->Hp h0 FF h' (L.set kq ⟨q,true,T_uint64,u64s R++rest⟩)->K (.int .i64 0) h') :
  CP F_bitmap_Map_Set #[.pointer (at0 p), .int .i64 (a:Nat), .int .i64 (b:Nat), .int .i64 (bit.toNat:Nat)] h K Kp:=by
 refine call_bitmap_Map_Set ?_
 unfold bitmap_Map_Set
 refine minside_ok H kp hp fun bb hbb=>?_
 refine ⟨_,rfl,?_⟩
 refine bcase_not (fun h1=>by rw [hbb.2 (by omega)] at h1; cases h1) fun h1=>?_
 refine bcase_ne (fun h2=>?_) fun h2=>?_
 ·refine bcase_ne (fun h3=>absurd h3 (by cases bit <;> simp_all)) fun h3=>?_
  exact mput_ok H kp kq hp hq hs hl hw ha hb hk
 ·exact mput_ok H kp kq hp hq hs hl hw ha hb hk
end
end Go.Bm
namespace Go.Den
open Go
section
variable {h0 h:Heap} {FF:List Nat} {L:List Ent}
theorem hpA (H:Hp h0 FF h L) (k:Nat) {b o i:Nat} {w:Bool} {t:TypeId} {cs:List Value} {v:Value} (he:L[k]? = some ⟨b,w,t,cs⟩) (hv:cs[o+i]? = some v):hcell h ((⟨b,o,none⟩:Addr).add i)=some v:=by
 rw [add_mk]
 exact H.cell k he hv
theorem hpB (H:Hp h0 FF h L) (k:Nat) {b o i j:Nat} {w:Bool} {t:TypeId} {cs:List Value} {v:Value} (he:L[k]? = some ⟨b,w,t,cs⟩) (hv:cs[o+i+j]? = some v):hcell h (((⟨b,o,none⟩:Addr).add i).add j)=some v:=by
 rw [add_mk,add_mk]
 exact H.cell k he hv
theorem hpC (H:Hp h0 FF h L) (k:Nat) {b o i j l:Nat} {w:Bool} {t:TypeId} {cs:List Value} {v:Value} (he:L[k]? = some ⟨b,w,t,cs⟩) (hv:cs[o+i+j+l]? = some v):hcell h ((((⟨b,o,none⟩:Addr).add i).add j).add l)=some v:=by
 rw [add_mk,add_mk,add_mk]
 exact H.cell k he hv
theorem stA (H:Hp h0 FF h L) (k:Nat) {b o i:Nat} {t:TypeId} {cs:List Value} {v:Value} {K:Heap->Prop} (he:L[k]? = some ⟨b,true,t,cs⟩) (hi:Nat.ble (o+i+1) cs.length=true) (hv:v.oneCell'=true)
  (hk:∀ h',Hp h0 FF h' (L.set k ⟨b,true,t,cs.set (o+i) v⟩)->K h'):stV h ((⟨b,o,none⟩:Addr).add i) v K:=by
 rw [add_mk]
 exact stV_hp H k he (Nat.le_of_ble_eq_true hi) hv fun h' _ H'=>hk h' H'
theorem stB (H:Hp h0 FF h L) (k:Nat) {b o i j:Nat} {t:TypeId} {cs:List Value} {v:Value} {K:Heap->Prop} (he:L[k]? = some ⟨b,true,t,cs⟩) (hi:Nat.ble (o+i+j+1) cs.length=true) (hv:v.oneCell'=true)
  (hk:∀ h',Hp h0 FF h' (L.set k ⟨b,true,t,cs.set (o+i+j) v⟩)->K h'):stV h (((⟨b,o,none⟩:Addr).add i).add j) v K:=by
 rw [add_mk,add_mk]
 exact stV_hp H k he (Nat.le_of_ble_eq_true hi) hv fun h' _ H'=>hk h' H'
theorem st0 (H:Hp h0 FF h L) (k:Nat) {b i:Nat} {t:TypeId} {cs:List Value} {v:Value} {K:Heap->Prop} (he:L[k]? = some ⟨b,true,t,cs⟩) (hi:Nat.ble (i+1) cs.length=true) (hv:v.oneCell'=true)
  (hk:∀ h',Hp h0 FF h' (L.set k ⟨b,true,t,cs.set i v⟩)->K h'):stV h ⟨b,i,none⟩ v K :=
 stV_hp H k he (Nat.le_of_ble_eq_true hi) hv fun h' _ H'=>hk h' H'
theorem stVsA (H:Hp h0 FF h L) (k:Nat) {b:Nat} {t:TypeId} {cs vs:List Value} {K:Heap->Prop} (he:L[k]? = some ⟨b,true,t,cs⟩) (hl:Nat.beq vs.length cs.length=true) (hv:vs.all Value.oneCell'=true)
  (hk:∀ h',Hp h0 FF h' (L.set k ⟨b,true,t,vs⟩)->K h'):stVs h ⟨b,0,none⟩ 0 vs K:=by
 have hl':vs.length=cs.length:=Nat.eq_of_beq_eq_true hl
 refine stVs_hp (o:=0) (i:=0) H he (by omega) (fun v hm=>List.all_eq_true.1 hv v hm) fun h' _ H'=>hk h' ?_
 have e:cs.take (0+0)++vs++cs.drop (0+0+vs.length)=vs:=by
  rw [Nat.add_zero,Nat.zero_add,List.take_zero,List.nil_append,hl',List.drop_length,List.append_nil]
 rw [e] at H'
 exact H'
end
end Go.Den
namespace Go.Bm
open Go Go.Den
structure Key where
 s:Int
 x:Int
 y:Int
deriving DecidableEq
def Key.lt (a b:Key):Prop:=a.s<b.s\/a.s=b.s/\(a.x<b.x\/a.x=b.x/\a.y<b.y)
theorem Key.ext' {a b:Key} (h1:a.s=b.s) (h2:a.x=b.x) (h3:a.y=b.y):a=b:=by
 cases a; cases b
 cases h1; cases h2; cases h3
 rfl
theorem Key.tri (a b:Key):a.lt b\/a=b\/b.lt a:=by
 by_cases h1:a.s=b.s
 ·by_cases h2:a.x=b.x
  ·by_cases h3:a.y=b.y
   ·exact .inr (.inl (Key.ext' h1 h2 h3))
   ·unfold Key.lt; omega
  ·unfold Key.lt; omega
 ·unfold Key.lt; omega
theorem Key.lt_irrefl (a:Key):¬ a.lt a:=by unfold Key.lt; omega
theorem Key.lt_trans {a b c:Key} (h1:a.lt b) (h2:b.lt c):a.lt c:=by unfold Key.lt at *; omega
theorem Key.lt_le {a b c:Key} (h1:a.lt b) (h2:¬ c.lt b):a.lt c:=by unfold Key.lt at *; omega
theorem Key.le_lt {a b c:Key} (h1:¬ b.lt a) (h2:b.lt c):a.lt c:=by unfold Key.lt at *; omega
theorem Key.le_trans {a b c:Key} (h1:¬ b.lt a) (h2:¬ c.lt b):¬ c.lt a:=by unfold Key.lt at *; omega
theorem Key.asym {a b:Key} (h1:¬ a.lt b) (h2:¬ b.lt a):a=b:=by
 rcases a.tri b with h | h | h
 ·exact absurd h h1
 ·exact h
 ·exact absurd h h2
section
variable {α:Type} {key:α->Key}
inductive Sw (key:α->Key):List α->List α->Prop
 | refl (l:List α):Sw key l l
 | swap (A B:List α) (a b:α) (h:key a≠key b):Sw key (A++a::b::B) (A++b::a::B)
 | trans {l m r:List α}:Sw key l m->Sw key m r->Sw key l r
theorem Sw.length {l r:List α} (h:Sw key l r):r.length=l.length:=by
 induction h with
 | refl=>rfl
 | swap A B a b h=>simp
 | trans _ _ h1 h2=>rw [h2,h1]
theorem Sw.filter {l r:List α} (h:Sw key l r) (k:Key):r.filter (fun a=>decide (key a=k))=l.filter (fun a=>decide (key a=k)):=by
 induction h with
 | refl=>rfl
 | swap A B a b h =>
  rw [List.filter_append,List.filter_append]
  congr 1
  by_cases h1:key a=k
  ·have h2:¬ key b=k:=fun hh=>h (h1.trans hh.symm)
   simp [h1,h2]
  ·simp [List.filter_cons,h1]
 | trans _ _ h1 h2=>rw [h2,h1]
theorem Sw.mem {l r:List α} (h:Sw key l r):∀ a,a∈r↔a∈l:=by
 induction h with
 | refl=>exact fun a=>Iff.rfl
 | swap A B a b h=>exact fun c=>by simp; constructor <;> rintro (h | h | h | h) <;> simp [h]
 | trans _ _ h1 h2=>exact fun a=>(h2 a).trans (h1 a)
theorem Sw.ctx {l r:List α} (h:Sw key l r) (A B:List α):Sw key (A++l++B) (A++r++B):=by
 induction h with
 | refl=>exact .refl _
 | swap C D a b h =>
  have:=Sw.swap (key:=key) (A++C) (D++B) a b h
  simpa using this
 | trans _ _ h1 h2=>exact .trans h1 h2
theorem Sw.symm {l r:List α} (h:Sw key l r):Sw key r l:=by
 induction h with
 | refl=>exact .refl _
 | swap A B a b h=>exact .swap A B b a (fun hh=>h hh.symm)
 | trans _ _ h1 h2=>exact .trans h2 h1
theorem Sw.past {a:α}:∀ {l:List α},(∀ b∈l,key a≠key b)->Sw key (a::l) (l++[a])
 | [],_ => .refl _
 | b::l,h=>by
  have h1:=Sw.swap (key:=key) [] l a b (h b (List.mem_cons_self ..))
  have h2:=(Sw.past (l:=l) fun c hc=>h c (List.mem_cons_of_mem _ hc)).ctx [b] []
  simp only [List.nil_append,List.append_nil,List.cons_append] at h1 h2
  exact .trans h1 h2
theorem Sw.blocks {m:List α}:∀ {l:List α},(∀ a∈l,∀ b∈m,key a≠key b)->Sw key (l++m) (m++l)
 | [],_=>by rw [List.nil_append,List.append_nil]; exact .refl _
 | a::l,h=>by
  have h1:=(Sw.blocks (m:=m) (l:=l) fun c hc=>h c (List.mem_cons_of_mem _ hc)).ctx [a] []
  have h2:=(Sw.past (a:=a) (l:=m) (h a (List.mem_cons_self ..))).ctx [] l
  simp only [List.nil_append,List.append_nil,List.cons_append] at h1 h2
  refine .trans h1 ?_
  simpa using h2
def Srt (key:α->Key) (l:List α):Prop:=l.Pairwise fun a b=>¬ (key b).lt (key a)
theorem srt_min {a:α} {l:List α} (h:Srt key (a::l)):∀ b∈l,¬ (key b).lt (key a):=(List.pairwise_cons.1 h).1
theorem srt_eq:∀ {l r:List α},Srt key l->Srt key r->(∀ k,l.filter (fun a=>decide (key a=k))=r.filter (fun a=>decide (key a=k)))->l=r
 | [],[],_,_,_=>rfl
 | [],b::r,_,_,h=>by
  have:=h (key b)
  simp at this
 | a::l,[],_,_,h=>by
  have:=h (key a)
  simp at this
 | a::l,b::r,h1,h2,h=>by
  have mem:∀ {c:α} {x y:List α},(∀ k,x.filter (fun a=>decide (key a=k))=y.filter (fun a=>decide (key a=k)))->c∈x->∃ d∈y,key d=key c:=fun {c x y} hh hc=>by
   have h3:c∈x.filter (fun a=>decide (key a=key c)):=List.mem_filter.2 ⟨hc,by simp⟩
   rw [hh] at h3
   obtain ⟨h4,_⟩:=List.mem_filter.1 h3
   exact ⟨c,h4,rfl⟩
  have k1:¬ (key a).lt (key b):=by
   obtain ⟨d,hd,hk⟩:=mem h (List.mem_cons_self (a:=a) (l:=l))
   rcases List.mem_cons.1 hd with rfl | hd
   ·rw [hk]; exact Key.lt_irrefl _
   ·rw [<- hk]; exact srt_min h2 d hd
  have k2:¬ (key b).lt (key a):=by
   obtain ⟨d,hd,hk⟩:=mem (fun k=>(h k).symm) (List.mem_cons_self (a:=b) (l:=r))
   rcases List.mem_cons.1 hd with rfl | hd
   ·rw [hk]; exact Key.lt_irrefl _
   ·rw [<- hk]; exact srt_min h1 d hd
  have hkk:=Key.asym k1 k2
  have h0:=h (key a)
  rw [List.filter_cons_of_pos (by simp),List.filter_cons_of_pos (by simp [hkk])] at h0
  injection h0 with e1 e2
  subst e1
  congr 1
  refine srt_eq (List.pairwise_cons.1 h1).2 (List.pairwise_cons.1 h2).2 fun k=>?_
  by_cases hk:key a=k
  ·rw [<- hk]; exact e2
  ·have:=h k
   rw [List.filter_cons_of_neg (by simp [hk]),List.filter_cons_of_neg (by simp [hk])] at this
   exact this
theorem Sw.one {l r s:List α} (h1:Sw key l r) (h2:Sw key l s) (h3:Srt key r) (h4:Srt key s):r=s:=srt_eq h3 h4 fun k=>(h1.filter k).trans (h2.filter k).symm
theorem Srt.append {l r:List α} (h1:Srt key l) (h2:Srt key r) (h:∀ a∈l,∀ b∈r,¬ (key b).lt (key a)):Srt key (l++r):=List.pairwise_append.2 ⟨h1,h2,h⟩
theorem Srt.left {l r:List α} (h:Srt key (l++r)):Srt key l:=(List.pairwise_append.1 h).1
theorem Srt.right {l r:List α} (h:Srt key (l++r)):Srt key r:=(List.pairwise_append.1 h).2.1
theorem Srt.cross {l r:List α} (h:Srt key (l++r)):∀ a∈l,∀ b∈r,¬ (key b).lt (key a):=(List.pairwise_append.1 h).2.2
theorem Srt.at {l:List α} (h:Srt key l) {i j:Nat} {a b:α} (hij:i<=j) (ha:l[i]? = some a) (hb:l[j]? = some b):¬ (key b).lt (key a):=by
 rcases Nat.lt_or_ge i j with h1 | h1
 ·obtain ⟨li,ei⟩:=List.getElem?_eq_some_iff.1 ha
  obtain ⟨lj,ej⟩:=List.getElem?_eq_some_iff.1 hb
  subst ei ej
  exact List.pairwise_iff_getElem.1 h i j li lj h1
 ·obtain rfl:i=j:=by omega
  rw [ha] at hb
  injection hb with hb
  subst hb
  exact Key.lt_irrefl _
end
end Go.Bm
