/- W5: put together by wip/tools/bundle.py: Mrefine Brefine RfB RfC RfD ArA Marith Barith ArB ArC ArD ArK Mburinkit Bburinkit ArE ArF ArG Mburinref4 Bburinref4 ArR ArS ArT ArU ArV ArW ArX ArH ArY PgA PgB PgC. -/
import Derived.Test.YtbknfejmdekhpaaGreatW1
import Derived.Test.YtbknfejmdekhpaaGreatW2
import Derived.Test.YtbknfejmdekhpaaGreatW3
import Derived.Test.YtbknfejmdekhpaaGreatW4
import Derived.Test.YtbknfejmdekhpaaGreatProg
set_option linter.unusedVariables false
set_option linter.unusedSimpArgs false
set_option maxRecDepth 100000
namespace Go.Den.YtbknfejmdekhpaaGreat
open Go Go.Den
def refine_Put (C:CallP) (c:Option Addr) (base:Int) (b_1:Int) (b_2:Int) (b_3:Option Addr) (b_3n:Nat) (b_3c:Nat) (ref_4:Int) (ref_5:Int) (ref_6:Option Addr) (ref_6n:Nat) (ref_6c:Nat) (dx:Int) (dy:Int) (h:Heap) (K:VK) (Kp:PK):Prop :=
newC h [.pointer c] T_p_arith_Coder fun r_7 h_8 =>
newC h_8 [.int .i64 base] T_int fun r_9 h_10 =>
newC h_10 [.int .i64 b_1, .int .i64 b_2, .slice b_3 b_3n b_3c] T_api_Bitmap fun r_11 h_12 =>
newC h_12 [.int .i64 ref_4, .int .i64 ref_5, .slice ref_6 ref_6n ref_6c] T_api_Bitmap fun r_13 h_14 =>
ldP h_14 (⟨r_7,0,none⟩:Addr) fun x_15 =>
bcase x_15.isNone (
K (.int .i64 53) h_14) <|
ldI h_14 ((⟨r_11,0,none⟩:Addr).add 0) .i64 fun x_16 =>
ldI h_14 ((⟨r_11,0,none⟩:Addr).add 1) .i64 fun x_17 =>
ldS h_14 ((⟨r_11,0,none⟩:Addr).add 2) fun x_18 x_18n x_18c =>
C F_bitmap_From #[.agg #[.int .i64 x_16, .int .i64 x_17, .slice x_18 x_18n x_18c]] h_14 (fun v_19 h_20 =>
∃ (r_21:Option Addr),∃ (r_22:Int),v_19 = .tuple #[.pointer r_21, .int .i64 r_22]/\(
ldI h_20 ((⟨r_13,0,none⟩:Addr).add 0) .i64 fun x_23 =>
ldI h_20 ((⟨r_13,0,none⟩:Addr).add 1) .i64 fun x_24 =>
ldS h_20 ((⟨r_13,0,none⟩:Addr).add 2) fun x_25 x_25n x_25c =>
C F_bitmap_From #[.agg #[.int .i64 x_23, .int .i64 x_24, .slice x_25 x_25n x_25c]] h_20 (fun v_26 h_27 =>
∃ (r_28:Option Addr),∃ (r_29:Int),v_26 = .tuple #[.pointer r_28, .int .i64 r_29]/\(
∃ K_30:List Value->Heap->Prop,(
bcase (r_22 != (0:Int)) (
K_30 [.bool (r_22 != (0:Int))] h_27) <|
K_30 [.bool (r_29 != (0:Int))] h_27)/\∀ (h_31:Heap) (u_32:Nat->Value) (x_33:Bool),K_30 [.bool x_33] h_31->(
bcase x_33 (
K (.int .i64 62) h_31) <|
C F_refine_shifts #[.int .i64 dx, .int .i64 dy] h_31 (fun v_34 h_35 =>
∃ (r_36:Bool),v_34 = .bool r_36/\(
bcase (!r_36) (
K (.int .i64 70) h_35) <|
ldI h_35 (⟨r_9,0,none⟩:Addr) .i64 fun x_37 =>
ldP h_35 (⟨r_7,0,none⟩:Addr) fun x_38 =>
ptr x_38 fun a_39 =>
C F_arith_table_Contexts #[.pointer (some (a_39.add 0))] h_35 (fun v_40 h_41 =>
∃ (r_42:Int),v_40 = .int .i64 r_42/\(
hext h_35 h_41/\(
C F_refine_fits #[.int .i64 x_37, .int .i64 r_42] h_41 (fun v_43 h_44 =>
∃ (r_45:Bool),v_43 = .bool r_45/\(
bcase (!r_45) (
K (.int .i64 51) h_44) <|
C F_refine_run #[.pointer r_21, .pointer r_28, .int .i64 dx, .int .i64 dy, .func (.func F_refine_Put_c1) #[] #[.pointer (some ⟨r_7,0,none⟩), .pointer (some ⟨r_9,0,none⟩)]] h_44 (fun v_46 h_47 =>
∃ (r_48:Int),v_46 = .int .i64 r_48/\(
K (.int .i64 r_48) h_47)) (Kp))) (Kp)))) (Kp))) (Kp)))) (Kp))) (Kp)
def refine_Get (C:CallP) (d:Option Addr) (base:Int) (w:Int) (h':Int) (ref_1:Int) (ref_2:Int) (ref_3:Option Addr) (ref_3n:Nat) (ref_3c:Nat) (dx:Int) (dy:Int) (h:Heap) (K:VK) (Kp:PK):Prop :=
newC h [.pointer d] T_p_arith_Decoder fun r_4 h_5 =>
newC h_5 [.int .i64 base] T_int fun r_6 h_7 =>
newC h_7 [.int .i64 ref_1, .int .i64 ref_2, .slice ref_3 ref_3n ref_3c] T_api_Bitmap fun r_8 h_9 =>
newC h_9 [.int .i64 0, .int .i64 0, .slice none 0 0] T_api_Bitmap fun r_10 h_11 =>
ldP h_11 (⟨r_4,0,none⟩:Addr) fun x_12 =>
bcase x_12.isNone (
stV h_11 ((⟨r_10,0,none⟩:Addr).add 0) (.int .i64 0) fun h_13 =>
stV h_13 ((⟨r_10,0,none⟩:Addr).add 1) (.int .i64 0) fun h_14 =>
stV h_14 ((⟨r_10,0,none⟩:Addr).add 2) (.slice none 0 0) fun h_15 =>
ldI h_15 ((⟨r_10,0,none⟩:Addr).add 0) .i64 fun r_16 =>
ldI h_15 ((⟨r_10,0,none⟩:Addr).add 1) .i64 fun r_17 =>
ldS h_15 ((⟨r_10,0,none⟩:Addr).add 2) fun r_18 r_18n r_18c =>
K (.tuple #[.agg #[.int .i64 r_16, .int .i64 r_17, .slice r_18 r_18n r_18c], .int .i64 53]) h_15) <|
ldI h_11 ((⟨r_8,0,none⟩:Addr).add 0) .i64 fun x_19 =>
ldI h_11 ((⟨r_8,0,none⟩:Addr).add 1) .i64 fun x_20 =>
ldS h_11 ((⟨r_8,0,none⟩:Addr).add 2) fun x_21 x_21n x_21c =>
C F_bitmap_From #[.agg #[.int .i64 x_19, .int .i64 x_20, .slice x_21 x_21n x_21c]] h_11 (fun v_22 h_23 =>
∃ (r_24:Option Addr),∃ (r_25:Int),v_22 = .tuple #[.pointer r_24, .int .i64 r_25]/\(
bcase (r_25 != (0:Int)) (
stV h_23 ((⟨r_10,0,none⟩:Addr).add 0) (.int .i64 0) fun h_26 =>
stV h_26 ((⟨r_10,0,none⟩:Addr).add 1) (.int .i64 0) fun h_27 =>
stV h_27 ((⟨r_10,0,none⟩:Addr).add 2) (.slice none 0 0) fun h_28 =>
ldI h_28 ((⟨r_10,0,none⟩:Addr).add 0) .i64 fun r_29 =>
ldI h_28 ((⟨r_10,0,none⟩:Addr).add 1) .i64 fun r_30 =>
ldS h_28 ((⟨r_10,0,none⟩:Addr).add 2) fun r_31 r_31n r_31c =>
K (.tuple #[.agg #[.int .i64 r_29, .int .i64 r_30, .slice r_31 r_31n r_31c], .int .i64 62]) h_28) <|
C F_bitmap_New #[.int .i64 w, .int .i64 h'] h_23 (fun v_32 h_33 =>
∃ (r_34:Option Addr),∃ (r_35:Int),v_32 = .tuple #[.pointer r_34, .int .i64 r_35]/\(
bcase (r_35 != (0:Int)) (
stV h_33 ((⟨r_10,0,none⟩:Addr).add 0) (.int .i64 0) fun h_36 =>
stV h_36 ((⟨r_10,0,none⟩:Addr).add 1) (.int .i64 0) fun h_37 =>
stV h_37 ((⟨r_10,0,none⟩:Addr).add 2) (.slice none 0 0) fun h_38 =>
ldI h_38 ((⟨r_10,0,none⟩:Addr).add 0) .i64 fun r_39 =>
ldI h_38 ((⟨r_10,0,none⟩:Addr).add 1) .i64 fun r_40 =>
ldS h_38 ((⟨r_10,0,none⟩:Addr).add 2) fun r_41 r_41n r_41c =>
K (.tuple #[.agg #[.int .i64 r_39, .int .i64 r_40, .slice r_41 r_41n r_41c], .int .i64 63]) h_38) <|
C F_refine_shifts #[.int .i64 dx, .int .i64 dy] h_33 (fun v_42 h_43 =>
∃ (r_44:Bool),v_42 = .bool r_44/\(
bcase (!r_44) (
stV h_43 ((⟨r_10,0,none⟩:Addr).add 0) (.int .i64 0) fun h_45 =>
stV h_45 ((⟨r_10,0,none⟩:Addr).add 1) (.int .i64 0) fun h_46 =>
stV h_46 ((⟨r_10,0,none⟩:Addr).add 2) (.slice none 0 0) fun h_47 =>
ldI h_47 ((⟨r_10,0,none⟩:Addr).add 0) .i64 fun r_48 =>
ldI h_47 ((⟨r_10,0,none⟩:Addr).add 1) .i64 fun r_49 =>
ldS h_47 ((⟨r_10,0,none⟩:Addr).add 2) fun r_50 r_50n r_50c =>
K (.tuple #[.agg #[.int .i64 r_48, .int .i64 r_49, .slice r_50 r_50n r_50c], .int .i64 70]) h_47) <|
ldI h_43 (⟨r_6,0,none⟩:Addr) .i64 fun x_51 =>
ldP h_43 (⟨r_4,0,none⟩:Addr) fun x_52 =>
ptr x_52 fun a_53 =>
C F_arith_table_Contexts #[.pointer (some (a_53.add 0))] h_43 (fun v_54 h_55 =>
∃ (r_56:Int),v_54 = .int .i64 r_56/\(
hext h_43 h_55/\(
C F_refine_fits #[.int .i64 x_51, .int .i64 r_56] h_55 (fun v_57 h_58 =>
∃ (r_59:Bool),v_57 = .bool r_59/\(
bcase (!r_59) (
stV h_58 ((⟨r_10,0,none⟩:Addr).add 0) (.int .i64 0) fun h_60 =>
stV h_60 ((⟨r_10,0,none⟩:Addr).add 1) (.int .i64 0) fun h_61 =>
stV h_61 ((⟨r_10,0,none⟩:Addr).add 2) (.slice none 0 0) fun h_62 =>
ldI h_62 ((⟨r_10,0,none⟩:Addr).add 0) .i64 fun r_63 =>
ldI h_62 ((⟨r_10,0,none⟩:Addr).add 1) .i64 fun r_64 =>
ldS h_62 ((⟨r_10,0,none⟩:Addr).add 2) fun r_65 r_65n r_65c =>
K (.tuple #[.agg #[.int .i64 r_63, .int .i64 r_64, .slice r_65 r_65n r_65c], .int .i64 51]) h_62) <|
C F_refine_run #[.pointer r_34, .pointer r_24, .int .i64 dx, .int .i64 dy, .func (.func F_refine_Get_c1) #[] #[.pointer (some ⟨r_4,0,none⟩), .pointer (some ⟨r_6,0,none⟩)]] h_58 (fun v_66 h_67 =>
∃ (r_68:Int),v_66 = .int .i64 r_68/\(
bcase (r_68 != (0:Int)) (
stV h_67 ((⟨r_10,0,none⟩:Addr).add 0) (.int .i64 0) fun h_69 =>
stV h_69 ((⟨r_10,0,none⟩:Addr).add 1) (.int .i64 0) fun h_70 =>
stV h_70 ((⟨r_10,0,none⟩:Addr).add 2) (.slice none 0 0) fun h_71 =>
ldI h_71 ((⟨r_10,0,none⟩:Addr).add 0) .i64 fun r_72 =>
ldI h_71 ((⟨r_10,0,none⟩:Addr).add 1) .i64 fun r_73 =>
ldS h_71 ((⟨r_10,0,none⟩:Addr).add 2) fun r_74 r_74n r_74c =>
K (.tuple #[.agg #[.int .i64 r_72, .int .i64 r_73, .slice r_74 r_74n r_74c], .int .i64 r_68]) h_71) <|
C F_bitmap_Map_Plain #[.pointer r_34] h_67 (fun v_75 h_76 =>
∃ (r_77:Int) (r_78:Int) (r_79:Option Addr) (r_79n:Nat) (r_79c:Nat),v_75 = .agg #[.int .i64 r_77, .int .i64 r_78, .slice r_79 r_79n r_79c]/\(
stV h_76 ((⟨r_10,0,none⟩:Addr).add 0) (.int .i64 r_77) fun h_80 =>
stV h_80 ((⟨r_10,0,none⟩:Addr).add 1) (.int .i64 r_78) fun h_81 =>
stV h_81 ((⟨r_10,0,none⟩:Addr).add 2) (.slice r_79 r_79n r_79c) fun h_82 =>
ldI h_82 ((⟨r_10,0,none⟩:Addr).add 0) .i64 fun r_83 =>
ldI h_82 ((⟨r_10,0,none⟩:Addr).add 1) .i64 fun r_84 =>
ldS h_82 ((⟨r_10,0,none⟩:Addr).add 2) fun r_85 r_85n r_85c =>
K (.tuple #[.agg #[.int .i64 r_83, .int .i64 r_84, .slice r_85 r_85n r_85c], .int .i64 0]) h_82)) (Kp))) (Kp))) (Kp)))) (Kp))) (Kp))) (Kp))) (Kp)
def refine_shifts (C:CallP) (dx:Int) (dy:Int) (h:Heap) (K:VK) (Kp:PK):Prop :=
bcase (decide (dx≥(-1048576:Int))) (
bcase (decide (dx<=(1048576:Int))) (
bcase (decide (dy≥(-1048576:Int))) (
K (.bool (decide (dy<=(1048576:Int)))) h) <|
K (.bool false) h) <|
K (.bool false) h) <|
K (.bool false) h
def refine_fits (C:CallP) (base:Int) (all:Int) (h:Heap) (K:VK) (Kp:PK):Prop :=
bcase (decide (base≥(0:Int))) (
bindI (IntKind.i64.wrap (all-(8192:Int))) fun z_1 =>
K (.bool (decide (base<=z_1))) h) <|
K (.bool false) h
def refine_run (C:CallP) (D:CallDP) (m:Option Addr) (ref:Option Addr) (dx:Int) (dy:Int) (decidev:Value) (h:Heap) (K:VK) (Kp:PK):Prop :=
newC h [.pointer m] T_p_bitmap_Map fun r_1 h_2 =>
newC h_2 [.pointer ref] T_p_bitmap_Map fun r_3 h_4 =>
newC h_4 [.int .i64 dx] T_int fun r_5 h_6 =>
newC h_6 [.int .i64 dy] T_int fun r_7 h_8 =>
newC h_8 [.int .i64 0] T_api_Errno fun r_9 h_10 =>
ldP h_10 (⟨r_1,0,none⟩:Addr) fun x_11 =>
C F_bitmap_Map_Size #[.pointer x_11] h_10 (fun v_12 h_13 =>
∃ (r_14:Int),∃ (r_15:Int),v_12 = .tuple #[.int .i64 r_14, .int .i64 r_15]/\(
∃ J_16:Nat->List Value->Heap->Prop,(∃ n_18,J_16 n_18 [.int .i64 0] h_13)/\∀ (n_18:Nat) (h_19:Heap) (u_20:Nat->Value) (x_21:Int),J_16 n_18 [.int .i64 x_21] h_19->(
bcase (decide (x_21<r_15)) (
newC h_19 [.int .i64 0] T_int fun r_22 h_23 =>
stV h_23 (⟨r_22,0,none⟩:Addr) (.int .i64 x_21) fun h_24 =>
∃ J_25:Nat->List Value->Heap->Prop,(∃ n_27,J_25 n_27 [.int .i64 0] h_24)/\∀ (n_27:Nat) (h_28:Heap) (u_29:Nat->Value) (x_30:Int),J_25 n_27 [.int .i64 x_30] h_28->(
bcase (decide (x_30<r_14)) (
bindI (IntKind.i64.wrap (x_30-(1:Int))) fun z_31 =>
C F_refine_run_c2 #[.int .i64 z_31, .int .i64 (-1), .pointer (some ⟨r_1,0,none⟩), .pointer (some ⟨r_22,0,none⟩)] h_28 (fun v_32 h_33 =>
∃ (r_34:Int),v_32 = .int .i64 r_34/\(
bindI (shlI .i64 r_34 (3:Int)) fun z_35 =>
C F_refine_run_c2 #[.int .i64 x_30, .int .i64 (-1), .pointer (some ⟨r_1,0,none⟩), .pointer (some ⟨r_22,0,none⟩)] h_33 (fun v_36 h_37 =>
∃ (r_38:Int),v_36 = .int .i64 r_38/\(
bindI (shlI .i64 r_38 (2:Int)) fun z_39 =>
bindI (bitI .or .i64 z_35 z_39) fun z_40 =>
bindI (IntKind.i64.wrap (x_30+(1:Int))) fun z_41 =>
C F_refine_run_c2 #[.int .i64 z_41, .int .i64 (-1), .pointer (some ⟨r_1,0,none⟩), .pointer (some ⟨r_22,0,none⟩)] h_37 (fun v_42 h_43 =>
∃ (r_44:Int),v_42 = .int .i64 r_44/\(
bindI (shlI .i64 r_44 (1:Int)) fun z_45 =>
bindI (bitI .or .i64 z_40 z_45) fun z_46 =>
bindI (IntKind.i64.wrap (x_30-(1:Int))) fun z_47 =>
C F_refine_run_c2 #[.int .i64 z_47, .int .i64 0, .pointer (some ⟨r_1,0,none⟩), .pointer (some ⟨r_22,0,none⟩)] h_43 (fun v_48 h_49 =>
∃ (r_50:Int),v_48 = .int .i64 r_50/\(
bindI (bitI .or .i64 z_46 r_50) fun z_51 =>
∃ J_52:Nat->List Value->Heap->Prop,(∃ n_54,J_52 n_54 [.int .i64 z_51, .int .i64 (-1)] h_49)/\∀ (n_54:Nat) (h_55:Heap) (u_56:Nat->Value) (n_57:Int) (down_58:Int),J_52 n_54 [.int .i64 n_57, .int .i64 down_58] h_55->(
bcase (decide (down_58<=(1:Int))) (
bindI (shlI .i64 n_57 (3:Int)) fun z_59 =>
bindI (IntKind.i64.wrap (x_30-(1:Int))) fun z_60 =>
C F_refine_run_c3 #[.int .i64 z_60, .int .i64 down_58, .pointer (some ⟨r_3,0,none⟩), .pointer (some ⟨r_5,0,none⟩), .pointer (some ⟨r_22,0,none⟩), .pointer (some ⟨r_7,0,none⟩)] h_55 (fun v_61 h_62 =>
∃ (r_63:Int),v_61 = .int .i64 r_63/\(
bindI (shlI .i64 r_63 (2:Int)) fun z_64 =>
bindI (bitI .or .i64 z_59 z_64) fun z_65 =>
C F_refine_run_c3 #[.int .i64 x_30, .int .i64 down_58, .pointer (some ⟨r_3,0,none⟩), .pointer (some ⟨r_5,0,none⟩), .pointer (some ⟨r_22,0,none⟩), .pointer (some ⟨r_7,0,none⟩)] h_62 (fun v_66 h_67 =>
∃ (r_68:Int),v_66 = .int .i64 r_68/\(
bindI (shlI .i64 r_68 (1:Int)) fun z_69 =>
bindI (bitI .or .i64 z_65 z_69) fun z_70 =>
bindI (IntKind.i64.wrap (x_30+(1:Int))) fun z_71 =>
C F_refine_run_c3 #[.int .i64 z_71, .int .i64 down_58, .pointer (some ⟨r_3,0,none⟩), .pointer (some ⟨r_5,0,none⟩), .pointer (some ⟨r_22,0,none⟩), .pointer (some ⟨r_7,0,none⟩)] h_67 (fun v_72 h_73 =>
∃ (r_74:Int),v_72 = .int .i64 r_74/\(
bindI (bitI .or .i64 z_70 r_74) fun z_75 =>
bindI (IntKind.i64.wrap (down_58+(1:Int))) fun z_76 =>
∃ m_53,m_53<n_54/\J_52 m_53 [.int .i64 z_75, .int .i64 z_76] h_73)) (fun c_79 h_80=>leaveD D (fun h_77 =>
ldI h_77 (⟨r_9,0,none⟩:Addr) .i64 fun r_78 =>
K (.int .i64 r_78) h_77) Kp [{ target := .fn (.func F_refine_run_c1) #[.pointer (some ⟨r_9,0,none⟩)],args:=#[] }] (.panicking c_79) h_80))) (fun c_83 h_84=>leaveD D (fun h_81 =>
ldI h_81 (⟨r_9,0,none⟩:Addr) .i64 fun r_82 =>
K (.int .i64 r_82) h_81) Kp [{ target := .fn (.func F_refine_run_c1) #[.pointer (some ⟨r_9,0,none⟩)],args:=#[] }] (.panicking c_83) h_84))) (fun c_87 h_88=>leaveD D (fun h_85 =>
ldI h_85 (⟨r_9,0,none⟩:Addr) .i64 fun r_86 =>
K (.int .i64 r_86) h_85) Kp [{ target := .fn (.func F_refine_run_c1) #[.pointer (some ⟨r_9,0,none⟩)],args:=#[] }] (.panicking c_87) h_88)) <|
∃ R_89:Nat->Prop,(
ldP h_55 (⟨r_1,0,none⟩:Addr) fun x_90 =>
R_89 ((⟨r_1,0,none⟩:Addr):Addr).block/\(
ldI h_55 (⟨r_22,0,none⟩:Addr) .i64 fun x_91 =>
R_89 ((⟨r_22,0,none⟩:Addr):Addr).block/\(
C F_refine_run_c2 #[.int .i64 x_30, .int .i64 0, .pointer (some ⟨r_1,0,none⟩), .pointer (some ⟨r_22,0,none⟩)] h_55 (fun v_92 h_93 =>
∃ (r_94:Int),v_92 = .int .i64 r_94/\(
hkeep R_89 h_55 h_93/\(
callD C (fun c_108 h_109=>leaveD D (fun h_106 =>
ldI h_106 (⟨r_9,0,none⟩:Addr) .i64 fun r_107 =>
K (.int .i64 r_107) h_106) Kp [{ target := .fn (.func F_refine_run_c1) #[.pointer (some ⟨r_9,0,none⟩)],args:=#[] }] (.panicking c_108) h_109) decidev [.int .i64 n_57, .int .i64 r_94] h_93 fun v_95 h_96 =>
∃ (r_97:Int),v_95 = .int .i64 r_97/\(
hkeep R_89 h_93 h_96/\(
C F_bitmap_Map_Set #[.pointer x_90, .int .i64 x_30, .int .i64 x_91, .int .i64 r_97] h_96 (fun v_98 h_99 =>
∃ (r_100:Int),v_98 = .int .i64 r_100/\(
bindI (IntKind.i64.wrap (x_30+(1:Int))) fun z_101 =>
∃ m_26,m_26<n_27/\J_25 m_26 [.int .i64 z_101] h_99)) (fun c_104 h_105=>leaveD D (fun h_102 =>
ldI h_102 (⟨r_9,0,none⟩:Addr) .i64 fun r_103 =>
K (.int .i64 r_103) h_102) Kp [{ target := .fn (.func F_refine_run_c1) #[.pointer (some ⟨r_9,0,none⟩)],args:=#[] }] (.panicking c_104) h_105)))))) (fun c_112 h_113=>leaveD D (fun h_110 =>
ldI h_110 (⟨r_9,0,none⟩:Addr) .i64 fun r_111 =>
K (.int .i64 r_111) h_110) Kp [{ target := .fn (.func F_refine_run_c1) #[.pointer (some ⟨r_9,0,none⟩)],args:=#[] }] (.panicking c_112) h_113))))))) (fun c_116 h_117=>leaveD D (fun h_114 =>
ldI h_114 (⟨r_9,0,none⟩:Addr) .i64 fun r_115 =>
K (.int .i64 r_115) h_114) Kp [{ target := .fn (.func F_refine_run_c1) #[.pointer (some ⟨r_9,0,none⟩)],args:=#[] }] (.panicking c_116) h_117))) (fun c_120 h_121=>leaveD D (fun h_118 =>
ldI h_118 (⟨r_9,0,none⟩:Addr) .i64 fun r_119 =>
K (.int .i64 r_119) h_118) Kp [{ target := .fn (.func F_refine_run_c1) #[.pointer (some ⟨r_9,0,none⟩)],args:=#[] }] (.panicking c_120) h_121))) (fun c_124 h_125=>leaveD D (fun h_122 =>
ldI h_122 (⟨r_9,0,none⟩:Addr) .i64 fun r_123 =>
K (.int .i64 r_123) h_122) Kp [{ target := .fn (.func F_refine_run_c1) #[.pointer (some ⟨r_9,0,none⟩)],args:=#[] }] (.panicking c_124) h_125))) (fun c_128 h_129=>leaveD D (fun h_126 =>
ldI h_126 (⟨r_9,0,none⟩:Addr) .i64 fun r_127 =>
K (.int .i64 r_127) h_126) Kp [{ target := .fn (.func F_refine_run_c1) #[.pointer (some ⟨r_9,0,none⟩)],args:=#[] }] (.panicking c_128) h_129)) <|
bindI (IntKind.i64.wrap (x_21+(1:Int))) fun z_130 =>
∃ m_17,m_17<n_18/\J_16 m_17 [.int .i64 z_130] h_28)) <|
stV h_19 (⟨r_9,0,none⟩:Addr) (.int .i64 0) fun h_131 =>
leaveD D (fun h_132 =>
ldI h_132 (⟨r_9,0,none⟩:Addr) .i64 fun r_133 =>
K (.int .i64 r_133) h_132) Kp [{ target := .fn (.func F_refine_run_c1) #[.pointer (some ⟨r_9,0,none⟩)],args:=#[] }] .returning h_131))) (fun c_136 h_137=>leaveD D (fun h_134 =>
ldI h_134 (⟨r_9,0,none⟩:Addr) .i64 fun r_135 =>
K (.int .i64 r_135) h_134) Kp [{ target := .fn (.func F_refine_run_c1) #[.pointer (some ⟨r_9,0,none⟩)],args:=#[] }] (.panicking c_136) h_137)
def refine_Put_c1 (C:CallP) (context:Int) (bit:Int) (cap0:Addr) (cap1:Addr) (h:Heap) (K:VK) (Kp:PK):Prop :=
ldP h cap0 fun x_1 =>
ldI h cap1 .i64 fun x_2 =>
bindI (IntKind.i64.wrap (x_2+context)) fun z_3 =>
C F_arith_Coder_Put #[.pointer x_1, .int .i64 z_3, .int .i64 bit] h (fun v_4 h_5 =>
∃ (r_6:Int),v_4 = .int .i64 r_6/\(
bcase (r_6 != (0:Int)) (
Kp [{ v := .iface T_refine_fault (.agg #[.int .i64 r_6]),recovered:=false }] h_5) <|
K (.int .i64 bit) h_5)) (Kp)
def refine_Get_c1 (C:CallP) (context:Int) (a1:Int) (cap0:Addr) (cap1:Addr) (h:Heap) (K:VK) (Kp:PK):Prop :=
ldP h cap0 fun x_1 =>
ldI h cap1 .i64 fun x_2 =>
bindI (IntKind.i64.wrap (x_2+context)) fun z_3 =>
C F_arith_Decoder_Get #[.pointer x_1, .int .i64 z_3] h (fun v_4 h_5 =>
∃ (r_6:Int),∃ (r_7:Int),v_4 = .tuple #[.int .i64 r_6, .int .i64 r_7]/\(
bcase (r_7 != (0:Int)) (
Kp [{ v := .iface T_refine_fault (.agg #[.int .i64 r_7]),recovered:=false }] h_5) <|
K (.int .i64 r_6) h_5)) (Kp)
def refine_run_c1 (C:CallP) (cap0:Addr) (u:FrameMode) (h:Heap) (Kd:FrameMode->Heap->Prop) (Kdp:FrameMode->PK):Prop :=
recD u (fun u_1 =>
Kd u_1 h) (fun t_2 x_3 u_4 =>
bcase (Nat.beq t_2 T_refine_fault) (
∃ (r_5:Int),x_3 = .agg #[.int .i64 r_5]/\(
newC h [.int .i64 0] T_refine_fault fun r_6 h_7 =>
stV h_7 ((⟨r_6,0,none⟩:Addr).add 0) (.int .i64 r_5) fun h_8 =>
ldI h_8 ((⟨r_6,0,none⟩:Addr).add 0) .i64 fun x_9 =>
stV h_8 cap0 (.int .i64 x_9) fun h_10 =>
Kd u_4 h_10)) <|
newC h [.int .i64 0] T_refine_fault fun r_11 h_12 =>
stV h_12 ((⟨r_11,0,none⟩:Addr).add 0) (.int .i64 0) fun h_13 =>
Kdp u_4 [{ v := .iface t_2 (x_3),recovered:=false }] h_13)
def refine_run_c2 (C:CallP) (x:Int) (down:Int) (cap0:Addr) (cap1:Addr) (h:Heap) (K:VK) (Kp:PK):Prop :=
ldP h cap0 fun x_1 =>
ldI h cap1 .i64 fun x_2 =>
bindI (IntKind.i64.wrap (x_2+down)) fun z_3 =>
C F_bitmap_Map_Get #[.pointer x_1, .int .i64 x, .int .i64 z_3] h (fun v_4 h_5 =>
∃ (r_6:Int),v_4 = .int .i64 r_6/\(
K (.int .i64 r_6) h_5)) (Kp)
def refine_run_c3 (C:CallP) (x:Int) (down:Int) (cap0:Addr) (cap1:Addr) (cap2:Addr) (cap3:Addr) (h:Heap) (K:VK) (Kp:PK):Prop :=
ldP h cap0 fun x_1 =>
ldI h cap1 .i64 fun x_2 =>
bindI (IntKind.i64.wrap (x-x_2)) fun z_3 =>
ldI h cap2 .i64 fun x_4 =>
bindI (IntKind.i64.wrap (x_4+down)) fun z_5 =>
ldI h cap3 .i64 fun x_6 =>
bindI (IntKind.i64.wrap (z_5-x_6)) fun z_7 =>
C F_bitmap_Map_Get #[.pointer x_1, .int .i64 z_3, .int .i64 z_7] h (fun v_8 h_9 =>
∃ (r_10:Int),v_8 = .int .i64 r_10/\(
K (.int .i64 r_10) h_9)) (Kp)
end Go.Den.YtbknfejmdekhpaaGreat
namespace Go.Den.YtbknfejmdekhpaaGreat
open Go Go.Den
theorem call_refine_Put {c:Option Addr} {base:Int} {b_1:Int} {b_2:Int} {b_3:Option Addr} {b_3n:Nat} {b_3c:Nat} {ref_4:Int} {ref_5:Int} {ref_6:Option Addr} {ref_6n:Nat} {ref_6c:Nat} {dx:Int} {dy:Int} {h:Heap} {K:VK} {Kp:PK} (H:refine_Put (CallsHP Go.Proofs.Tryz.prog) c base b_1 b_2 b_3 b_3n b_3c ref_4 ref_5 ref_6 ref_6n ref_6c dx dy h K Kp):CallsHP Go.Proofs.Tryz.prog F_refine_Put #[.pointer c, .int .i64 base, .agg #[.int .i64 b_1, .int .i64 b_2, .slice b_3 b_3n b_3c], .agg #[.int .i64 ref_4, .int .i64 ref_5, .slice ref_6 ref_6n ref_6c], .int .i64 dx, .int .i64 dy] h K Kp :=
 callsHP_ofE (Hints.mk (fun i=>bif Nat.beq i 10 then some ([5], .take 0 <| .take 1 <| .take 2 <| .take 3 <| .go 4 <| .bar 5 [] <| .take 6 <| .take 7 <| .done) else (none)) (fun i=>none) (fun i=>bif Nat.beq i 7 then some ([(29, .bool)],16642998272) else (none)) []) (by kernel_rfl) Go.Proofs.Tryz.func144 (by kernel_rfl) (fun C=>refine_Put C c base b_1 b_2 b_3 b_3n b_3c ref_4 ref_5 ref_6 ref_6n ref_6c dx dy h K Kp) (fun C=>by kernel_rfl) H
theorem call_refine_Get {d:Option Addr} {base:Int} {w:Int} {h':Int} {ref_1:Int} {ref_2:Int} {ref_3:Option Addr} {ref_3n:Nat} {ref_3c:Nat} {dx:Int} {dy:Int} {h:Heap} {K:VK} {Kp:PK} (H:refine_Get (CallsHP Go.Proofs.Tryz.prog) d base w h' ref_1 ref_2 ref_3 ref_3n ref_3c dx dy h K Kp):CallsHP Go.Proofs.Tryz.prog F_refine_Get #[.pointer d, .int .i64 base, .int .i64 w, .int .i64 h', .agg #[.int .i64 ref_1, .int .i64 ref_2, .slice ref_3 ref_3n ref_3c], .int .i64 dx, .int .i64 dy] h K Kp :=
 callsHP_ofE (Hints.mk (fun i=>bif Nat.beq i 11 then some ([5], .take 0 <| .take 1 <| .take 2 <| .take 3 <| .go 4 <| .bar 5 [] <| .take 6 <| .take 7 <| .done) else (none)) (fun i=>none) (fun i=>none) []) (by kernel_rfl) Go.Proofs.Tryz.func170 (by kernel_rfl) (fun C=>refine_Get C d base w h' ref_1 ref_2 ref_3 ref_3n ref_3c dx dy h K Kp) (fun C=>by kernel_rfl) H
theorem call_refine_shifts {dx:Int} {dy:Int} {h:Heap} {K:VK} {Kp:PK} (H:refine_shifts (CallsHP Go.Proofs.Tryz.prog) dx dy h K Kp):CallsHP Go.Proofs.Tryz.prog F_refine_shifts #[.int .i64 dx, .int .i64 dy] h K Kp :=
 callsHP_ofE (Hints.mk (fun i=>none) (fun i=>none) (fun i=>none) []) (by kernel_rfl) Go.Proofs.Tryz.func184 (by kernel_rfl) (fun C=>refine_shifts C dx dy h K Kp) (fun C=>by kernel_rfl) H
theorem call_refine_fits {base:Int} {all:Int} {h:Heap} {K:VK} {Kp:PK} (H:refine_fits (CallsHP Go.Proofs.Tryz.prog) base all h K Kp):CallsHP Go.Proofs.Tryz.prog F_refine_fits #[.int .i64 base, .int .i64 all] h K Kp :=
 callsHP_ofE (Hints.mk (fun i=>none) (fun i=>none) (fun i=>none) []) (by kernel_rfl) Go.Proofs.Tryz.func185 (by kernel_rfl) (fun C=>refine_fits C base all h K Kp) (fun C=>by kernel_rfl) H
noncomputable def hints_refine_run:Hints:=Hints.mk (fun i=>bif Nat.beq i 16 then some ([9], .keep <| .take 1 <| .take 3 <| .take 4 <| .take 5 <| .take 6 <| .take 0 <| .take 2 <| .go 7 <| .go 8 <| .bar 9 [] <| .done) else (none))
 (fun i=>bif Nat.beq i 4 then some ([(26, .int .i64)],9903520314283042199126401024) else (bif Nat.beq i 9 then some ([(32, .int .i64)],4951760157141521095301988352) else (bif Nat.beq i 13 then some ([(17, .int .i64),(18, .int .i64)],2417851567171664311877632) else (none))))
 (fun i=>none) []
theorem eq_refine_run (C:CallP) (D:CallDP) (m:Option Addr) (ref:Option Addr) (dx:Int) (dy:Int) (decidev:Value) (h:Heap) (K:VK) (Kp:PK) :
  fnDD Go.Proofs.Tryz.prog C D hints_refine_run Go.Proofs.Tryz.f186 [.pointer m, .pointer ref, .int .i64 dx, .int .i64 dy,decidev] h K Kp=refine_run C D m ref dx dy decidev h K Kp:=by kernel_rfl
theorem call_refine_run {m:Option Addr} {ref:Option Addr} {dx:Int} {dy:Int} {decidev:Value} {h:Heap} {K:VK} {Kp:PK} (H:refine_run (CallsHP Go.Proofs.Tryz.prog) (DCalls Go.Proofs.Tryz.prog) m ref dx dy decidev h K Kp):CallsHP Go.Proofs.Tryz.prog F_refine_run #[.pointer m, .pointer ref, .int .i64 dx, .int .i64 dy,decidev] h K Kp :=
 callsHP_ofD hints_refine_run (by kernel_rfl) Go.Proofs.Tryz.func186 (by kernel_rfl) (by rw [eq_refine_run]; exact H)
theorem call_refine_Put_c1 {context:Int} {bit:Int} {cap0:Addr} {cap1:Addr} {h:Heap} {K:VK} {Kp:PK} (H:refine_Put_c1 (CallsHP Go.Proofs.Tryz.prog) context bit cap0 cap1 h K Kp):CallsHP Go.Proofs.Tryz.prog F_refine_Put_c1 #[.int .i64 context, .int .i64 bit, .pointer (some cap0), .pointer (some cap1)] h K Kp :=
 callsHP_ofE (Hints.mk (fun i=>none) (fun i=>none) (fun i=>none) []) (by kernel_rfl) Go.Proofs.Tryz.func187 (by kernel_rfl) (fun C=>refine_Put_c1 C context bit cap0 cap1 h K Kp) (fun C=>by kernel_rfl) H
theorem call_refine_Get_c1 {context:Int} {a1:Int} {cap0:Addr} {cap1:Addr} {h:Heap} {K:VK} {Kp:PK} (H:refine_Get_c1 (CallsHP Go.Proofs.Tryz.prog) context a1 cap0 cap1 h K Kp):CallsHP Go.Proofs.Tryz.prog F_refine_Get_c1 #[.int .i64 context, .int .i64 a1, .pointer (some cap0), .pointer (some cap1)] h K Kp :=
 callsHP_ofE (Hints.mk (fun i=>none) (fun i=>none) (fun i=>none) []) (by kernel_rfl) Go.Proofs.Tryz.func196 (by kernel_rfl) (fun C=>refine_Get_c1 C context a1 cap0 cap1 h K Kp) (fun C=>by kernel_rfl) H
noncomputable def hints_refine_run_c1:Hints:=Hints.mk (fun i=>none)
 (fun i=>none)
 (fun i=>none) []
theorem eq_refine_run_c1 (C:CallP) (cap0:Addr) (u:FrameMode) (h:Heap) (Kd:FrameMode->Heap->Prop) (Kdp:FrameMode->PK) :
  dfnD Go.Proofs.Tryz.prog C hints_refine_run_c1 Go.Proofs.Tryz.f200 [.pointer (some cap0)] u h Kd Kdp=refine_run_c1 C cap0 u h Kd Kdp:=by kernel_rfl
theorem dcall_refine_run_c1 {cap0:Addr} {u:FrameMode} {h:Heap} {Kd:FrameMode->Heap->Prop} {Kdp:FrameMode->PK} (H:refine_run_c1 (CallsHP Go.Proofs.Tryz.prog) cap0 u h Kd Kdp):DCalls Go.Proofs.Tryz.prog F_refine_run_c1 #[.pointer (some cap0)] u h Kd Kdp :=
 dcalls_of hints_refine_run_c1 (by kernel_rfl) Go.Proofs.Tryz.func200 (by kernel_rfl) (by rw [eq_refine_run_c1]; exact H)
theorem call_refine_run_c2 {x:Int} {down:Int} {cap0:Addr} {cap1:Addr} {h:Heap} {K:VK} {Kp:PK} (H:refine_run_c2 (CallsHP Go.Proofs.Tryz.prog) x down cap0 cap1 h K Kp):CallsHP Go.Proofs.Tryz.prog F_refine_run_c2 #[.int .i64 x, .int .i64 down, .pointer (some cap0), .pointer (some cap1)] h K Kp :=
 callsHP_ofE (Hints.mk (fun i=>none) (fun i=>none) (fun i=>none) []) (by kernel_rfl) Go.Proofs.Tryz.func202 (by kernel_rfl) (fun C=>refine_run_c2 C x down cap0 cap1 h K Kp) (fun C=>by kernel_rfl) H
theorem call_refine_run_c3 {x:Int} {down:Int} {cap0:Addr} {cap1:Addr} {cap2:Addr} {cap3:Addr} {h:Heap} {K:VK} {Kp:PK} (H:refine_run_c3 (CallsHP Go.Proofs.Tryz.prog) x down cap0 cap1 cap2 cap3 h K Kp):CallsHP Go.Proofs.Tryz.prog F_refine_run_c3 #[.int .i64 x, .int .i64 down, .pointer (some cap0), .pointer (some cap1), .pointer (some cap2), .pointer (some cap3)] h K Kp :=
 callsHP_ofE (Hints.mk (fun i=>none) (fun i=>none) (fun i=>none) []) (by kernel_rfl) Go.Proofs.Tryz.func204 (by kernel_rfl) (fun C=>refine_run_c3 C x down cap0 cap1 cap2 cap3 h K Kp) (fun C=>by kernel_rfl) H
end Go.Den.YtbknfejmdekhpaaGreat
namespace Go.Den
open Go
section
variable {h0 h h':Heap} {F:List Nat} {A S S':List Ent}
theorem Hp.giveS (H:Hp h0 F h (A++S)):Hp h (S.map Ent.b) h S :=
 Hp.mk' (Fr.refl _ _) (fun e he=>H.mem e (List.mem_append_right _ he)) (fun e he _ => .inl (List.mem_map.2 ⟨e,he,rfl⟩)) H.suf.pw
theorem Hp.putS (H:Hp h0 F h (A++S)) (hw:S.all Ent.w=true) (H':Hp h (S.map Ent.b) h' S') (hw':S'.all Ent.w=true):Hp h0 F h' (A++S'):=by
 have hSw:∀ e∈S,e.w=true:=List.all_eq_true.1 hw
 have hSw':∀ e∈S',e.w=true:=List.all_eq_true.1 hw'
 have hown:∀ b∈S.map Ent.b,b∈F\/h0.size<=b:=fun b hb=>by
  obtain ⟨e,he,rfl⟩:=List.mem_map.1 hb
  exact H.memw e (List.mem_append_right _ he) (hSw e he)
 have hap:∀ e∈A,e.b ∉ S.map Ent.b:=fun e he hb=>by
  obtain ⟨e',he',hbb⟩:=List.mem_map.1 hb
  exact (List.pairwise_append.1 H.pw).2.2 e he e' he' hbb.symm
 have hlt:∀ e∈A,e.b<h.size:=fun e he=>(H.mem e (List.mem_append_left _ he)).lt
 refine Hp.mk' ⟨Nat.le_trans H.fr.1 H'.fr.1,fun b hb hF=>?_⟩ (fun e he=>?_) (fun e he hwt=>?_) ?_
 ·rw [H'.fr.2 b (Nat.lt_of_lt_of_le hb H.fr.1) (fun hm=>by
   rcases hown b hm with h1 | h1
   ·exact hF h1
   ·omega)]
  exact H.fr.2 b hb hF
 ·rcases List.mem_append.1 he with he | he
  ·have h1:=H.mem e (List.mem_append_left _ he)
   unfold Blk at h1 ⊢
   rw [H'.fr.2 e.b (hlt e he) (hap e he)]
   exact h1
  ·exact H'.mem e he
 ·rcases List.mem_append.1 he with he | he
  ·exact H.memw e (List.mem_append_left _ he) hwt
  ·rcases H'.memw e he hwt with h1 | h1
   ·exact hown _ h1
   ·exact .inr (Nat.le_trans H.fr.1 h1)
 ·refine List.pairwise_append.2 ⟨H.pre.pw,H'.pw,fun e he e' he' hb=>?_⟩
  rcases H'.memw e' he' (hSw' e' he') with h1 | h1
  ·exact hap e he (hb ▸ h1)
  ·have:=hlt e he
   omega
end
end Go.Den
namespace Go.Bm
open Go Go.Den Go.Den.YtbknfejmdekhpaaGreat
def bitsN:Nat->List Bool->Nat
 | n,[]=>n
 | n,b::l=>bitsN (2*n+b.toNat) l
def ownB (B:Int->Int->Bool) (x y:Int):List Bool:=[B (x-1) (y + -1),B x (y + -1),B (x+1) (y + -1),B (x-1) (y+0)]
def rowB3 (R:Int->Int->Bool) (dx x y:Int):List Bool:=[R (x-1-dx) y,R (x-dx) y,R (x+1-dx) y]
def rowsN (R:Int->Int->Bool) (dx dy x y:Int):Nat->List Bool
 | 0=>[]
 | d+1=>rowsN R dx dy x y d++rowB3 R dx x (y+((d:Int)-1)-dy)
def ctxN (B R:Int->Int->Bool) (dx dy x y:Int):Nat:=bitsN 0 (ownB B x y++rowsN R dx dy x y 3)
theorem toNat_le (b:Bool):b.toNat<=1:=by cases b <;> decide
theorem bitsN_lt:∀ (l:List Bool) (n m:Nat),n<2 ^ m->bitsN n l<2 ^ (m+l.length)
 | [],n,m,h=>h
 | b::l,n,m,h=>by
  have:=bitsN_lt l (2*n+b.toNat) (m+1) (by rw [Nat.pow_succ]; have:=toNat_le b; omega)
  rw [show m+(b::l).length=m+1+l.length by simp; omega]
  exact this
theorem ctxN_lt (B R:Int->Int->Bool) (dx dy x y:Int):ctxN B R dx dy x y<8192:=by
 unfold ctxN
 exact Nat.lt_of_lt_of_eq (bitsN_lt _ 0 0 (by decide)) (by simp [ownB,rowB3,rowsN])
theorem bitsN_app:∀ (l l':List Bool) (n:Nat),bitsN n (l++l')=bitsN (bitsN n l) l'
 | [],_,_=>rfl
 | b::l,l',n=>bitsN_app l l' _
theorem orI (a b:Nat) (ha:a<9223372036854775808) (hb:b<9223372036854775808):bitI .or .i64 a b=((a ||| b:Nat):Int):=(bits_nat .i64 63 (by decide) wr63 a b ha hb).2
theorem or_add {i a b:Nat} (hb:b<2 ^ i):(a*2 ^ i) ||| b=a*2 ^ i+b:=by
 rw [Nat.mul_comm]
 exact (Nat.two_pow_add_eq_or_of_lt hb a).symm
theorem shlI_of {a i:Nat} (hi:i<=64) (ha:a*2 ^ i<9223372036854775808):shlI .i64 (a:Int) (i:Int)=((a*2 ^ i:Nat):Int):=shl_of hi (i64_in _ (by omega) (by omega))
theorem orA {i A B:Nat} (hi:i<=62) (hA:A % 2 ^ i=0) (hB:B<2 ^ i) (hA2:A<9223372036854775808):bitI .or .i64 (A:Int) (B:Int)=((A+B:Nat):Int):=by
 have:2 ^ i<=2 ^ 62:=Nat.pow_le_pow_right (by decide) hi
 rw [orI _ _ hA2 (by omega)]
 have e:A=A / 2 ^ i*2 ^ i:=by have:=Nat.div_add_mod A (2 ^ i); rw [hA,Nat.add_zero,Nat.mul_comm] at this; exact this.symm
 rw [e,or_add hB]
theorem shl3 {a:Nat} (h:a<100000000000):shlI .i64 (a:Int) 3=((a*8:Nat):Int):=shlI_of (i:=3) (by decide) (by omega)
theorem shl2 {a:Nat} (h:a<100000000000):shlI .i64 (a:Int) 2=((a*4:Nat):Int):=shlI_of (i:=2) (by decide) (by omega)
theorem shl1 {a:Nat} (h:a<100000000000):shlI .i64 (a:Int) 1=((a*2:Nat):Int):=shlI_of (i:=1) (by decide) (by omega)
section
variable {h0 h:Heap} {FF:List Nat} {L:List Ent} {p q c W X r1 ry:Nat} {w:Bool} {t1 t2:TypeId} {ws:List Nat} {rest:List Value} {K:VK} {Kp:PK}
theorem own_ok (H:Hp h0 FF h L) (k1 ky kp kq:Nat) {w1 w2:Bool} (h1:L[k1]? = some ⟨r1,w1,t1,[.pointer (at0 p)]⟩) {y:Nat} (hy:L[ky]? = some ⟨ry,w2,t2,[.int .i64 (y:Nat)]⟩) (hp:L[kp]? = some (mapE p q W X ws.length c)) (hq:L[kq]? = some ⟨q,w,T_uint64,u64s ws++rest⟩)
  (hs:SizeP (W:Int) (X:Int)) (hl:ws.length=X*wds W) (hw:W64 ws) {x down:Int} (hyb:y<1048577) (hd:-1<=down/\down<=1) (hk:K (.int .i64 ((getP ws W X x (y+down)).toNat:Nat)) h) :
  CP F_refine_run_c2 #[.int .i64 x, .int .i64 down, .pointer (some ⟨r1,0,none⟩), .pointer (some ⟨ry,0,none⟩)] h K Kp:=by
 refine call_refine_run_c2 ?_
 unfold refine_run_c2
 refine ldP_of (H.cell k1 h1 (i:=0) rfl) ?_
 refine ldI_of (H.cell ky hy (i:=0) rfl) ?_
 refine bindI_of (((y:Int)+down)) (by exact i64_in _ (by omega) (by omega)) ?_
 refine mget_ok H kp kq hp hq hs hl hw ?_
 exact ⟨_,rfl,hk⟩
theorem other_ok (H:Hp h0 FF h L) (k1 kx ky kd kp kq:Nat) {w1 w2 w3 w4:Bool} {t3 t4:TypeId} {rx rd:Nat} (h1:L[k1]? = some ⟨r1,w1,t1,[.pointer (at0 p)]⟩) {dx dy:Int} (hx:L[kx]? = some ⟨rx,w2,t2,[.int .i64 dx]⟩) {y:Nat} (hy:L[ky]? = some ⟨ry,w3,t3,[.int .i64 (y:Nat)]⟩)
  (hd:L[kd]? = some ⟨rd,w4,t4,[.int .i64 dy]⟩) (hp:L[kp]? = some (mapE p q W X ws.length c)) (hq:L[kq]? = some ⟨q,w,T_uint64,u64s ws++rest⟩)
  (hs:SizeP (W:Int) (X:Int)) (hl:ws.length=X*wds W) (hw:W64 ws) {x down:Int} (hyb:y<1048577) (hdn:-1<=down/\down<=1) (hxb:-2<=x/\x<1048580) (hdx:-1048576<=dx/\dx<=1048576) (hdy:-1048576<=dy/\dy<=1048576)
  (hk:K (.int .i64 ((getP ws W X (x-dx) (y+down-dy)).toNat:Nat)) h) :
  CP F_refine_run_c3 #[.int .i64 x, .int .i64 down, .pointer (some ⟨r1,0,none⟩), .pointer (some ⟨rx,0,none⟩), .pointer (some ⟨ry,0,none⟩), .pointer (some ⟨rd,0,none⟩)] h K Kp:=by
 refine call_refine_run_c3 ?_
 unfold refine_run_c3
 refine ldP_of (H.cell k1 h1 (i:=0) rfl) ?_
 refine ldI_of (H.cell kx hx (i:=0) rfl) ?_
 refine bindI_of ((x-dx)) (by exact i64_in _ (by omega) (by omega)) ?_
 refine ldI_of (H.cell ky hy (i:=0) rfl) ?_
 refine bindI_of (((y:Int)+down)) (by exact i64_in _ (by omega) (by omega)) ?_
 refine ldI_of (H.cell kd hd (i:=0) rfl) ?_
 refine bindI_of (((y:Int)+down-dy)) (by exact i64_in _ (by omega) (by omega)) ?_
 refine mget_ok H kp kq hp hq hs hl hw ?_
 exact ⟨_,rfl,hk⟩
end
theorem shifts_ok {h:Heap} {dx dy:Int} {K:VK} {Kp:PK} (hk:∀ b:Bool,(b=true↔(-1048576<=dx/\dx<=1048576)/\-1048576<=dy/\dy<=1048576)->K (.bool b) h):CP F_refine_shifts #[.int .i64 dx, .int .i64 dy] h K Kp:=by
 refine call_refine_shifts ?_
 unfold refine_shifts
 refine bcase_dec (fun h1=>?_) fun h1=>hk false (by simp; omega)
 refine bcase_dec (fun h2=>?_) fun h2=>hk false (by simp; omega)
 refine bcase_dec (fun h3=>?_) fun h3=>hk false (by simp; omega)
 exact hk _ (by simp; omega)
theorem fits8_ok {h:Heap} {base all:Int} (ha:-1000000000000<=all/\all<1000000000000) {K:VK} {Kp:PK} (hk:∀ b:Bool,(b=true↔0<=base/\base<=all-8192)->K (.bool b) h):CP F_refine_fits #[.int .i64 base, .int .i64 all] h K Kp:=by
 refine call_refine_fits ?_
 unfold refine_fits
 refine bcase_dec (fun h1=>?_) fun h1=>hk false (by simp; omega)
 refine bindI_of ((all-8192)) (by exact i64_in _ (by omega) (by omega)) ?_
 exact hk _ (by simp; omega)
theorem rcatch_idle {h:Heap} {r:Nat} {Kd:FrameMode->Heap->Prop} {Kdp:FrameMode->PK} (hk:Kd .returning h):DCalls Go.Proofs.Tryz.prog F_refine_run_c1 #[.pointer (some ⟨r,0,none⟩)] .returning h Kd Kdp :=
 dcall_refine_run_c1 (cap0:=⟨r,0,none⟩) (by unfold refine_run_c1 recD; exact hk)
end Go.Bm
namespace Go.Bm
open Go Go.Den Go.Den.YtbknfejmdekhpaaGreat
def upd (G:Int->Int->Bool) (a b:Int) (bit:Bool):Int->Int->Bool:=fun x y=>if x=a/\y=b then bit else G x y
section
variable {σ:Type}
def runN (W:Nat) (R:Int->Int->Bool) (dx dy:Int) (step:σ->Nat->Bool->(Bool × σ) ⊕ (Int × σ)):Nat->(Int->Int->Bool) × σ->((Int->Int->Bool) × σ) ⊕ (Int × σ)
 | 0,g => .inl g
 | k+1,g=>match runN W R dx dy step k g with
  | .inr e => .inr e
  | .inl (G,s)=>match step s (ctxN G R dx dy ((k % W:Nat):Int) ((k / W:Nat):Int)) (G ((k % W:Nat):Int) ((k / W:Nat):Int)) with
   | .inl (bit,s') => .inl (upd G ((k % W:Nat):Int) ((k / W:Nat):Int) bit,s')
   | .inr e => .inr e
theorem runN_err {W:Nat} {R:Int->Int->Bool} {dx dy:Int} {step:σ->Nat->Bool->(Bool × σ) ⊕ (Int × σ)} {g:(Int->Int->Bool) × σ} {e:Int × σ} {k:Nat} (h:runN W R dx dy step k g = .inr e):∀ m,k<=m->runN W R dx dy step m g = .inr e:=by
 intro m hm
 induction m with
 | zero=>rw [show k=0 by omega] at h; exact h
 | succ m ih =>
  rcases Nat.lt_or_ge m k with h1 | h1
  ·rw [show k=m+1 by omega] at h; exact h
  ·unfold runN; rw [ih h1]
theorem runN_next {W x y:Nat} {R:Int->Int->Bool} {dx dy:Int} {step:σ->Nat->Bool->(Bool × σ) ⊕ (Int × σ)} {g:(Int->Int->Bool) × σ} {G:Int->Int->Bool} {s:σ} (hx:x<W) (h:runN W R dx dy step (y*W+x) g = .inl (G,s)) :
  runN W R dx dy step (y*W+x+1) g=match step s (ctxN G R dx dy (x:Int) (y:Int)) (G (x:Int) (y:Int)) with
   | .inl (bit,s') => .inl (upd G (x:Int) (y:Int) bit,s')
   | .inr e => .inr e:=by
 have e1:(y*W+x) % W=x:=by rw [Nat.mul_comm,Nat.mul_add_mod,Nat.mod_eq_of_lt hx]
 have e2:(y*W+x) / W=y:=by rw [Nat.mul_comm,Nat.mul_add_div (by omega),Nat.div_eq_of_lt hx,Nat.add_zero]
 rw [runN,h]
 simp only [e1,e2]
def DecOk (N:Nat) (S:σ->List Ent->Prop) (Ok:Nat->σ->Prop) (step:σ->Nat->Bool->(Bool × σ) ⊕ (Int × σ)) (fv:Value):Prop :=
 ∀ {h0 h:Heap} {FF:List Nat} {s:σ} {n:Nat} {bit:Bool} {K:VK} {Kp:PK},∀ {M:List Ent} {k:Nat},Ok k s->k<N->n<8192->S s M->Hp h0 FF h M ->
  (∀ bit' s' M' h',step s n bit = .inl (bit',s')->Ok (k+1) s'->S s' M'->Hp h0 FF h' M'->K (.int .i64 (bit'.toNat:Nat)) h') ->
  (∀ e s' M' h',step s n bit = .inr (e,s')->Ok (k+1) s'->S s' M'->Hp h0 FF h' M'->Kp [{ v := .iface T_refine_fault (.agg #[.int .i64 e]),recovered:=false }] h') ->
  callD (CallsHP Go.Proofs.Tryz.prog) Kp fv [.int .i64 (n:Nat), .int .i64 (bit.toNat:Nat)] h K
theorem recD_iface {t:TypeId} {x:Value} {older:List PanicEntry} {KN:FrameMode->Prop} {KI:TypeId->Value->FrameMode->Prop} (h:KI t x (.panicking ({ v := .iface t x,recovered:=true }::older))):recD (.panicking ({ v := .iface t x,recovered:=false }::older)) KN KI:=h
theorem run_catch {h0 h:Heap} {FF:List Nat} {L:List Ent} {r:Nat} {K:VK} {Kp:PK} {e x:Int} (H:Hp h0 FF h L) (k:Nat) (hr:L[k]? = some ⟨r,true,T_api_Errno,[.int .i64 x]⟩)
  (hk:∀ h' r' cs,Hp h0 FF h' (L.set k ⟨r,true,T_api_Errno,[.int .i64 e]⟩++[⟨r',true,T_refine_fault,cs⟩])->K (.int .i64 e) h') :
  leaveD (DCalls Go.Proofs.Tryz.prog) (fun h=>ldI h ⟨r,0,none⟩ .i64 fun v=>K (.int .i64 v) h) Kp [{ target := .fn (.func F_refine_run_c1) #[.pointer (some ⟨r,0,none⟩)],args:=#[] }] (.panicking [{ v := .iface T_refine_fault (.agg #[.int .i64 e]),recovered:=false }]) h:=by
 have hkl:k<L.length:=(List.getElem?_eq_some_iff.1 hr).1
 show DCalls Go.Proofs.Tryz.prog F_refine_run_c1 #[.pointer (some ⟨r,0,none⟩)] _ h _ _
 refine dcall_refine_run_c1 (cap0:=⟨r,0,none⟩) ?_
 unfold refine_run_c1
 refine recD_iface ?_
 refine bcase_true (by decide) ?_
 refine ⟨e,rfl,?_⟩
 refine newC_hp H fun r' h H=>?_
 have hl:(L++[⟨r',true,T_refine_fault,[.int .i64 0]⟩])[L.length]? = some ⟨r',true,T_refine_fault,[.int .i64 0]⟩:=List.getElem?_concat_length
 rw [add_mk,Nat.zero_add]
 refine stV_hp H L.length hl (Nat.le_of_ble_eq_true rfl) rfl fun h hsz H=>?_
 rw [List.set_append_right _ _ (Nat.le_refl _),Nat.sub_self] at H
 have H:Hp h0 FF h (L++[⟨r',true,T_refine_fault,[.int .i64 e]⟩]):=H
 refine ldI_of (H.cell L.length List.getElem?_concat_length (i:=0) rfl) ?_
 have hr2:(L++[⟨r',true,T_refine_fault,[.int .i64 e]⟩])[k]? = some ⟨r,true,T_api_Errno,[.int .i64 x]⟩:=by rw [List.getElem?_append_left hkl]; exact hr
 refine stV_hp H k hr2 (Nat.le_of_ble_eq_true rfl) rfl fun h hsz H=>?_
 rw [List.set_append_left _ _ hkl] at H
 have H:Hp h0 FF h (L.set k ⟨r,true,T_api_Errno,[.int .i64 e]⟩++[⟨r',true,T_refine_fault,[.int .i64 e]⟩]):=H
 show ldI h ⟨r,0,none⟩ .i64 _
 refine ldI_of (H.cell k (by rw [List.getElem?_append_left (by rw [List.length_set]; exact hkl),List.getElem?_set_self hkl]) (i:=0) rfl) ?_
 exact hk _ _ _ H
end
end Go.Bm
namespace Go.Bm
open Go Go.Den Go.Den.YtbknfejmdekhpaaGreat
def PadZ (W X:Nat) (ws:List Nat):Prop:=∀ y,y<X->∀ x,W<=x->x<64*wds W->pix ws (wds W) x y=false
theorem getP_set {W X a b:Nat} {bit:Bool} {ws R:List Nat} (ha:a<W) (hb:b<X) (h:∀ y,y<X->∀ x,x<64*wds W->pix R (wds W) x y=if y=b/\x=a then bit else pix ws (wds W) x y):getP R W X=upd (getP ws W X) (a:Int) (b:Int) bit:=by
 funext x y
 show (decide (0<=x/\0<=y/\x<(W:Int)/\y<(X:Int)) && pix R (wds W) x.toNat y.toNat)=if x=(a:Int)/\y=(b:Int) then bit else (decide (0<=x/\0<=y/\x<(W:Int)/\y<(X:Int)) && pix ws (wds W) x.toNat y.toNat)
 by_cases h1:0<=x/\0<=y/\x<W/\y<X
 ·rw [decide_eq_true h1,Bool.true_and,Bool.true_and,h _ (by omega) _ (by unfold wds; omega)]
  by_cases h2:x=a/\y=b
  ·rw [if_pos (by omega),if_pos h2]
  ·rw [if_neg (by omega),if_neg h2]
 ·rw [decide_eq_false h1,Bool.false_and,Bool.false_and,if_neg (by omega)]
theorem PadZ.set {W X a b:Nat} {bit:Bool} {ws R:List Nat} (hz:PadZ W X ws) (ha:a<W) (h:∀ y,y<X->∀ x,x<64*wds W->pix R (wds W) x y=if y=b/\x=a then bit else pix ws (wds W) x y):PadZ W X R:=fun y hy x h1 h2=>by
 rw [h y hy x h2,if_neg (by omega)]
 exact hz y hy x h1 h2
theorem rowsN_len (R:Int->Int->Bool) (dx dy x y:Int):∀ d,(rowsN R dx dy x y d).length=3*d
 | 0=>rfl
 | d+1=>by rw [rowsN,List.length_append,rowsN_len R dx dy x y d]; rfl
theorem rows_lt (B R:Int->Int->Bool) (dx dy x y:Int) (d:Nat) (hd:d<=3):bitsN 0 (ownB B x y++rowsN R dx dy x y d)<8192:=by
 have:=bitsN_lt (ownB B x y++rowsN R dx dy x y d) 0 0 (by decide)
 rw [List.length_append,rowsN_len] at this
 exact Nat.lt_of_lt_of_le this (Nat.pow_le_pow_right (n:=2) (by decide) (show 0+(4+3*d)<=13 by omega))
theorem rows_succ (B R:Int->Int->Bool) (dx dy x y:Int) (d:Nat):bitsN 0 (ownB B x y++rowsN R dx dy x y (d+1)) =
  bitsN 0 (ownB B x y++rowsN R dx dy x y d)*8+(R (x-1-dx) (y+((d:Int)-1)-dy)).toNat*4+(R (x-dx) (y+((d:Int)-1)-dy)).toNat*2+(R (x+1-dx) (y+((d:Int)-1)-dy)).toNat:=by
 rw [rowsN,<- List.append_assoc,bitsN_app _ (rowB3 _ _ _ _)]
 simp only [rowB3,bitsN]
 omega
def runE (r9 r7 r5 r3 r1 p q p2 q2 W X N cc W2 X2 N2 cc2:Nat) (dx dy:Int) (rest rest2:List Value) (ws2 ws:List Nat):List Ent :=
 [⟨r9,true,T_api_Errno,[.int .i64 0]⟩,⟨r7,true,T_int,[.int .i64 dy]⟩,⟨r5,true,T_int,[.int .i64 dx]⟩,⟨r3,true,T_p_bitmap_Map,[.pointer (at0 p2)]⟩,⟨r1,true,T_p_bitmap_Map,[.pointer (at0 p)]⟩,
  mapE p q W X N cc,⟨q,true,T_uint64,u64s ws++rest⟩,mapE p2 q2 W2 X2 N2 cc2,⟨q2,true,T_uint64,u64s ws2++rest2⟩]
set_option maxHeartbeats 2000000 in
theorem run_ok {σ:Type} {S:σ->List Ent->Prop} {Ok:Nat->σ->Prop} {step:σ->Nat->Bool->(Bool × σ) ⊕ (Int × σ)} {fv:Value} (hSw:∀ s M,S s M->M.all Ent.w=true)     {h0 h:Heap} {FF:List Nat} {p q p2 q2 W X N cc W2 X2 N2 cc2:Nat} {rest rest2:List Value} {ws0 ws2:List Nat} {s0:σ} {M0:List Ent} (hdec:DecOk (X*W) S Ok step fv) (hM0:S s0 M0) (H:Hp h0 FF h ([mapE p q W X N cc,⟨q,true,T_uint64,u64s ws0++rest⟩,mapE p2 q2 W2 X2 N2 cc2,⟨q2,true,T_uint64,u64s ws2++rest2⟩]++M0))
  (hN:ws0.length=N) (hN2:ws2.length=N2) (hs:SizeP (W:Int) (X:Int)) (hl:N=X*wds W) (hw:W64 ws0) (hz:PadZ W X ws0) (hs2:SizeP (W2:Int) (X2:Int)) (hl2:N2=X2*wds W2) (hw2:W64 ws2)
  {dx dy:Int} (hdx:-1048576<=dx/\dx<=1048576) (hdy:-1048576<=dy/\dy<=1048576) (hok0:Ok 0 s0) {K:VK} {Kp:PK}
  (hgood:∀ ws s M h' T,S s M->runN W (getP ws2 W2 X2) dx dy step (X*W) (getP ws0 W X,s0) = .inl (getP ws W X,s)->ws.length=N->W64 ws->PadZ W X ws->Ok (X*W) s ->
   Hp h0 FF h' (T++([mapE p q W X N cc,⟨q,true,T_uint64,u64s ws++rest⟩,mapE p2 q2 W2 X2 N2 cc2,⟨q2,true,T_uint64,u64s ws2++rest2⟩]++M))->K (.int .i64 0) h')
  (hbad:∀ e ws s M h' T,S s M->runN W (getP ws2 W2 X2) dx dy step (X*W) (getP ws0 W X,s0) = .inr (e,s)->ws.length=N->(∃ k,k<=X*W/\Ok k s) ->
   Hp h0 FF h' (T++([mapE p q W X N cc,⟨q,true,T_uint64,u64s ws++rest⟩,mapE p2 q2 W2 X2 N2 cc2,⟨q2,true,T_uint64,u64s ws2++rest2⟩]++M))->K (.int .i64 e) h') :
  CP F_refine_run #[.pointer (at0 p), .pointer (at0 p2), .int .i64 dx, .int .i64 dy,fv] h K Kp:=by
 refine call_refine_run ?_
 unfold refine_run
 obtain ⟨W',X',e1,e2,hW1,hW2,hX1,hX2,hWX⟩:=size_nat hs
 obtain rfl:W=W':=by omega
 obtain rfl:X=X':=by omega
 clear e1 e2
 refine newC_hp H fun r1 h H=>?_
 have H:=H.rot
 refine newC_hp H fun r3 h H=>?_
 have H:=H.rot
 refine newC_hp H fun r5 h H=>?_
 have H:=H.rot
 refine newC_hp H fun r7 h H=>?_
 have H:=H.rot
 refine newC_hp H fun r9 h H=>?_
 have H:=H.rot
 have H:Hp h0 FF h (runE r9 r7 r5 r3 r1 p q p2 q2 W X N cc W2 X2 N2 cc2 dx dy rest rest2 ws2 ws0++M0):=H
 refine ldP_of (H.cell 4 rfl (i:=0) rfl) ?_
 refine msize_ok (ws:=ws0) (c:=cc) H 5 (by rw [hN]; rfl) ?_
 refine ⟨_,_,rfl,?_⟩
 generalize hA:runE r9 r7 r5 r3 r1 p q p2 q2 W X N cc W2 X2 N2 cc2 dx dy rest rest2 ws2=A at H
 have hget:∀ {h:Heap} {ws:List Nat} {M T:List Ent},Hp h0 FF h (T++(A ws++M))->Hp h0 FF h (T++(runE r9 r7 r5 r3 r1 p q p2 q2 W X N cc W2 X2 N2 cc2 dx dy rest rest2 ws2 ws++M)):=fun H=>by rw [hA]; exact H
 generalize hG0:getP ws0 W X=G0 at hgood hbad
 generalize hRR:getP ws2 W2 X2=RR at hgood hbad
 let Inv:Nat->List Nat->σ->Prop:=fun k ws s=>runN W RR dx dy step k (G0,s0) = .inl (getP ws W X,s)/\ws.length=N/\W64 ws/\PadZ W X ws/\Ok k s
 have hInv:∀ k ws s,Inv k ws s↔runN W RR dx dy step k (G0,s0) = .inl (getP ws W X,s)/\ws.length=N/\W64 ws/\PadZ W X ws/\Ok k s:=fun _ _ _=>Iff.rfl
 refine ⟨fun n vs h'=>∃ (y:Nat) (ws:List Nat) (s:σ) (M:List Ent),y+n=X/\vs=[.int .i64 (y:Int)]/\Inv (y*W) ws s/\S s M/\Hp h0 FF h' (A ws++M),⟨X,0,ws0,s0,M0,by omega,rfl,(hInv _ _ _).2 ⟨by rw [Nat.zero_mul,hG0]; rfl,hN,hw,hz,by rw [Nat.zero_mul]; exact hok0⟩,hM0,H⟩,?_⟩
 clear H
 rintro n h u xx ⟨y,ws,s,M,hyn,hxx,hinv,hM,H⟩
 injection hxx with hxx
 injection hxx with _ hxx
 subst hxx
 refine bcase_dec (fun h1=>?_) fun h1=>?_
 ·have h1:y<X:=by omega
  refine newC_hp H fun r22 h H=>?_
  have H:=H.rot
  refine stV_hp H 0 rfl (Nat.le_of_ble_eq_true rfl) rfl fun h hsz H=>?_
  have H:Hp h0 FF h ([⟨r22,true,T_int,[.int .i64 (y:Nat)]⟩]++(A ws++M)):=H
  refine ⟨fun n vs h'=>∃ (x:Nat) (ws:List Nat) (s:σ) (M:List Ent),x+n=W/\vs=[.int .i64 (x:Int)]/\Inv (y*W+x) ws s/\S s M/\Hp h0 FF h' ([⟨r22,true,T_int,[.int .i64 (y:Nat)]⟩]++(A ws++M)),⟨W,0,ws,s,M,by omega,rfl,hinv,hM,H⟩,?_⟩
  clear H hinv hM
  rintro m h u xx ⟨x,ws,s,M,hxn,hxx,hinv,hM,H⟩
  injection hxx with hxx
  injection hxx with _ hxx
  subst hxx
  refine bcase_dec (fun h2=>?_) fun h2=>?_
  ·have h2:x<W:=by omega
   obtain ⟨hrun,hlw,hww,hzz,hoks⟩:=(hInv _ _ _).1 hinv
   have hlX:ws.length=X*wds W:=by rw [hlw,hl]
   have hl2':ws2.length=X2*wds W2:=by rw [hN2,hl2]
   have hq6:∀ {h:Heap},Hp h0 FF h ([⟨r22,true,T_int,[.int .i64 (y:Nat)]⟩]++(A ws++M))->∀ (xq down:Int) (K:VK) (Kp:PK),-1<=down/\down<=1->K (.int .i64 ((getP ws W X xq (y+down)).toNat:Nat)) h ->
     CP F_refine_run_c2 #[.int .i64 xq, .int .i64 down, .pointer (some ⟨r1,0,none⟩), .pointer (some ⟨r22,0,none⟩)] h K Kp:=fun H xq down K Kp hd hk =>
    own_ok (c:=cc) (hget H) 5 0 6 7 rfl rfl (by rw [hlw]; rfl) rfl hs hlX hww (by omega) hd hk
   have ho6:∀ {h:Heap},Hp h0 FF h ([⟨r22,true,T_int,[.int .i64 (y:Nat)]⟩]++(A ws++M))->∀ (xq down:Int) (K:VK) (Kp:PK),-1<=down/\down<=1->-2<=xq/\xq<1048580->K (.int .i64 ((RR (xq-dx) (y+down-dy)).toNat:Nat)) h ->
     CP F_refine_run_c3 #[.int .i64 xq, .int .i64 down, .pointer (some ⟨r3,0,none⟩), .pointer (some ⟨r5,0,none⟩), .pointer (some ⟨r22,0,none⟩), .pointer (some ⟨r7,0,none⟩)] h K Kp:=fun H xq down K Kp hd hxq hk =>
    other_ok (c:=cc2) (ws:=ws2) (hget H) 4 3 0 2 8 9 rfl rfl rfl rfl (by rw [hN2]; rfl) rfl hs2 hl2' hw2 (by omega) hd hxq hdx hdy (by rw [hRR]; exact hk)
   generalize hGG:getP ws W X=GG at hq6 hrun
   refine bindI_of (((x:Int)-1)) (by exact i64_in _ (by omega) (by omega)) ?_
   refine hq6 H _ _ _ _ (by omega) ?_
   refine ⟨_,rfl,?_⟩
   have t1:=toNat_le (GG ((x:Int)-1) ((y:Int) + -1))
   have t2:=toNat_le (GG (x:Int) ((y:Int) + -1))
   have t3:=toNat_le (GG ((x:Int)+1) ((y:Int) + -1))
   have t4:=toNat_le (GG ((x:Int)-1) ((y:Int)+0))
   refine bindI_of _ (shl3 (by omega)) ?_
   refine hq6 H _ _ _ _ (by omega) ?_
   refine ⟨_,rfl,?_⟩
   refine bindI_of _ (shl2 (by omega)) ?_
   refine bindI_of _ (orA (i:=3) (by decide) (by omega) (by omega) (by omega)) ?_
   refine bindI_of (((x:Int)+1)) (by exact i64_in _ (by omega) (by omega)) ?_
   refine hq6 H _ _ _ _ (by omega) ?_
   refine ⟨_,rfl,?_⟩
   refine bindI_of _ (shl1 (by omega)) ?_
   refine bindI_of _ (orA (i:=2) (by decide) (by omega) (by omega) (by omega)) ?_
   refine bindI_of (((x:Int)-1)) (by exact i64_in _ (by omega) (by omega)) ?_
   refine hq6 H _ _ _ _ (by omega) ?_
   refine ⟨_,rfl,?_⟩
   refine bindI_of _ (orA (i:=1) (by decide) (by omega) (by omega) (by omega)) ?_
   have hnd:=fun d hd=>rows_lt GG RR dx dy x y d hd
   refine ⟨fun n vs h'=>∃ d:Nat,d+n=3/\vs=[.int .i64 ((bitsN 0 (ownB GG x y++rowsN RR dx dy x y d):Nat):Int), .int .i64 ((d:Int)-1)]/\h'=h,⟨3,0,rfl,?_,rfl⟩,?_⟩
   ·have:bitsN 0 (ownB GG x y++rowsN RR dx dy x y 0)=(GG ((x:Int)-1) ((y:Int) + -1)).toNat*8+(GG (x:Int) ((y:Int) + -1)).toNat*4+(GG ((x:Int)+1) ((y:Int) + -1)).toNat*2+(GG ((x:Int)-1) ((y:Int)+0)).toNat:=by
     simp only [rowsN,ownB,List.append_nil,bitsN]
     omega
    rw [this]
    rfl
   rintro k h' u n57 n58 ⟨d,hdk,hvs,rfl⟩
   injection hvs with hv1 hv2
   injection hv1 with _ hv1
   injection hv2 with hv2
   injection hv2 with _ hv2
   subst hv1 hv2
   refine bcase_dec (fun h3=>?_) fun h3=>?_
   ·have hb:=hnd d (by omega)
    have q1:=toNat_le (RR ((x:Int)-1-dx) ((y:Int)+((d:Int)-1)-dy))
    have q2:=toNat_le (RR ((x:Int)-dx) ((y:Int)+((d:Int)-1)-dy))
    have q3:=toNat_le (RR ((x:Int)+1-dx) ((y:Int)+((d:Int)-1)-dy))
    have hsucc:=rows_succ GG RR dx dy x y d
    generalize bitsN 0 (ownB GG x y++rowsN RR dx dy x y d)=n at hb hsucc ⊢
    refine bindI_of _ (shl3 (by omega)) ?_
    refine bindI_of (((x:Int)-1)) (by exact i64_in _ (by omega) (by omega)) ?_
    refine ho6 H _ _ _ _ (by omega) (by omega) ?_
    refine ⟨_,rfl,?_⟩
    refine bindI_of _ (shl2 (by omega)) ?_
    refine bindI_of _ (orA (i:=3) (by decide) (by omega) (by omega) (by omega)) ?_
    refine ho6 H _ _ _ _ (by omega) (by omega) ?_
    refine ⟨_,rfl,?_⟩
    refine bindI_of _ (shl1 (by omega)) ?_
    refine bindI_of _ (orA (i:=2) (by decide) (by omega) (by omega) (by omega)) ?_
    refine bindI_of (((x:Int)+1)) (by exact i64_in _ (by omega) (by omega)) ?_
    refine ho6 H _ _ _ _ (by omega) (by omega) ?_
    refine ⟨_,rfl,?_⟩
    refine bindI_of _ (orA (i:=1) (by decide) (by omega) (by omega) (by omega)) ?_
    refine bindI_of ((((d+1:Nat):Int)-1)) (by exact i64_at _ _ (by omega) (by omega) (by omega)) ?_
    exact ⟨k-1,by omega,d+1,by omega,by rw [hsucc],by first | rfl | trivial⟩
   ·obtain rfl:d=3:=by omega
    have hctx:bitsN 0 (ownB GG x y++rowsN RR dx dy x y 3)=ctxN GG RR dx dy x y:=rfl
    rw [hctx]
    refine ⟨fun b=>b=r1\/b=r22,?_⟩
    refine ldP_of ((hget H).cell 5 rfl (i:=0) rfl) ?_
    refine ⟨.inl rfl,?_⟩
    refine ldI_of (H.cell 0 rfl (i:=0) rfl) ?_
    refine ⟨.inr rfl,?_⟩
    refine hq6 H _ _ _ _ (by omega) ?_
    refine ⟨_,rfl,hkeep.refl _ _,?_⟩
    rw [Int.add_zero]
    have H2:Hp h0 FF h' (([⟨r22,true,T_int,[.int .i64 (y:Nat)]⟩]++A ws)++M):=H.as (List.append_assoc _ _ _).symm
    have hnx:=runN_next (R:=RR) (dx:=dx) (dy:=dy) (step:=step) h2 hrun
    have hlt:y*W+x+1<=X*W:=by
     have:(y+1)*W<=X*W:=Nat.mul_le_mul_right _ h1
     rw [Nat.add_mul,Nat.one_mul] at this
     omega
    refine hdec hoks hlt (ctxN_lt _ _ _ _ _ _) hM H2.giveS (fun bit' s' M' h3 hst hok' hM' H'=>?_) fun e s' M' h3 hst hok' hM' H'=>?_
    ·rw [hst] at hnx
     simp only at hnx
     have keep:hkeep (fun b=>b=r1\/b=r22) h' h3:=⟨H'.fr.1,fun b hb hR=>H'.fr.2 b hb fun hm=>by
      obtain ⟨e,he,rfl⟩:=List.mem_map.1 hm
      have hp:=(List.pairwise_append.1 H2.pw).2.2
      rcases hR with h4 | h4
      ·exact hp ⟨r1,true,T_p_bitmap_Map,[.pointer (at0 p)]⟩ (by rw [<- hA]; simp [runE]) e he h4.symm
      ·exact hp ⟨r22,true,T_int,[.int .i64 (y:Nat)]⟩ (by simp) e he h4.symm⟩
     have H3:=(H2.putS (hSw s M hM) H' (hSw s' M' hM')).as (List.append_assoc _ _ _)
     refine ⟨_,rfl,keep,?_⟩
     refine mset_ok (ws:=ws) (c:=cc) (rest:=rest) (hget H3) 6 7 (by rw [hlw]; rfl) rfl hs hlX hww h2 h1 fun R h4 k1 k2 k3 H4=>?_
     refine ⟨_,rfl,?_⟩
     refine bindI_of (((x+1:Nat):Int)) (by exact i64_at _ _ (by omega) (by omega) (by omega)) ?_
     have H5:Hp h0 FF h4 ([⟨r22,true,T_int,[.int .i64 (y:Nat)]⟩]++(runE r9 r7 r5 r3 r1 p q p2 q2 W X N cc W2 X2 N2 cc2 dx dy rest rest2 ws2 R++M')):=H4
     rw [hA] at H5
     refine ⟨m-1,by omega,x+1,R,s',M',by omega,rfl,(hInv _ _ _).2 ⟨?_,by omega,k2,hzz.set h2 k3,hok'⟩,hM',H5⟩
     rw [getP_set h2 h1 k3,hGG]
     exact hnx
    ·rw [hst] at hnx
     simp only at hnx
     have H3:=hget ((H2.putS (hSw s M hM) H' (hSw s' M' hM')).as (List.append_assoc _ _ _))
     refine run_catch H3 1 rfl fun h4 r' cs H4=>?_
     refine hbad e ws s' M' h4 [⟨r22,true,T_int,[.int .i64 (y:Nat)]⟩,⟨r9,true,T_api_Errno,[.int .i64 e]⟩,⟨r7,true,T_int,[.int .i64 dy]⟩,⟨r5,true,T_int,[.int .i64 dx]⟩,⟨r3,true,T_p_bitmap_Map,[.pointer (at0 p2)]⟩,⟨r1,true,T_p_bitmap_Map,[.pointer (at0 p)]⟩] hM' (runN_err hnx _ hlt) hlw ⟨_,hlt,hok'⟩ ?_
     have H5:=Hp.pre (Y:=[⟨r',true,T_refine_fault,cs⟩]) H4
     exact H5
  ·obtain rfl:W=x:=by omega
   refine bindI_of (((y+1:Nat):Int)) (by exact i64_at _ _ (by omega) (by omega) (by omega)) ?_
   exact ⟨n-1,by omega,y+1,ws,s,M,by omega,rfl,by rw [Nat.add_mul,Nat.one_mul]; exact hinv,hM,Hp.suf (X:=[_]) H⟩
 ·obtain rfl:X=y:=by omega
  obtain ⟨hrun,hlw,hww,hzz,hoks⟩:=(hInv _ _ _).1 hinv
  have H:=hget (T:=[]) H
  refine stV_hp H 0 rfl (Nat.le_of_ble_eq_true rfl) rfl fun h hsz H=>?_
  show DCalls Go.Proofs.Tryz.prog F_refine_run_c1 #[.pointer (some ⟨r9,0,none⟩)] .returning h _ _
  refine rcatch_idle ?_
  show ldI h ⟨r9,0,none⟩ .i64 _
  refine ldI_of (H.cell 0 rfl (i:=0) rfl) ?_
  exact hgood ws s M h ((runE r9 r7 r5 r3 r1 p q p2 q2 W X N cc W2 X2 N2 cc2 dx dy rest rest2 ws2 ws).take 5) hM hrun hlw hww hzz hoks H
end Go.Bm
namespace Go.Ar
def qTab:List Nat:=[0x5601,0x3401,0x1801,0x0ac1,0x0521,0x0221,0x5601,0x5401,0x4801,0x3801,0x3001,0x2401,0x1c01,0x1601,0x5601,0x5401,0x5101,0x4801,0x3801,0x3401,0x3001,0x2801,0x2401,0x2201,0x1c01,0x1801,0x1601,0x1401,0x1201,0x1101,0x0ac1,0x09c1,0x08a1,0x0521,0x0441,0x02a1,0x0221,0x0141,0x0111,0x0085,0x0049,0x0025,0x0015,0x0009,0x0005,0x0001,0x5601]
def mTab:List Nat:=[1,2,3,4,5,38,7,8,9,10,11,12,13,29,15,16,17,18,19,20,21,22,23,24,25,26,27,28,29,30,31,32,33,34,35,36,37,38,39,40,41,42,43,44,45,45,46]
def lTab:List Nat:=[1,6,9,12,29,33,6,14,14,14,17,18,20,21,14,14,15,16,17,18,19,19,20,21,22,23,24,25,26,27,28,29,30,31,32,33,34,35,36,37,38,39,40,41,42,43,46]
def cTab:List Nat:=[1,0,0,0,0,0,1,0,0,0,0,0,0,0,1,0,0,0,0,0,0,0,0,0,0,0,0,0,0,0,0,0,0,0,0,0,0,0,0,0,0,0,0,0,0,0,0]
def qOf (r:Nat):Nat:=qTab.getD r 0
def mOf (r:Nat):Nat:=mTab.getD r 0
def lOf (r:Nat):Nat:=lTab.getD r 0
def cOf (r:Nat):Nat:=cTab.getD r 0
theorem forall_lt_47 {p:Nat->Prop} (h:∀ r∈List.range 47,p r) {r:Nat} (hr:r<47):p r:=h r (List.mem_range.2 hr)
theorem qOf_pos {r:Nat} (hr:r<47):1<=qOf r:=forall_lt_47 (p:=fun r=>1<=qOf r) (by decide) hr
theorem qOf_le {r:Nat} (hr:r<47):qOf r<=0x5601:=forall_lt_47 (p:=fun r=>qOf r<=0x5601) (by decide) hr
theorem mOf_lt {r:Nat} (hr:r<47):mOf r<47:=forall_lt_47 (p:=fun r=>mOf r<47) (by decide) hr
theorem lOf_lt {r:Nat} (hr:r<47):lOf r<47:=forall_lt_47 (p:=fun r=>lOf r<47) (by decide) hr
theorem cOf_le {r:Nat} (hr:r<47):cOf r<=1:=forall_lt_47 (p:=fun r=>cOf r<=1) (by decide) hr
def upM (x:Nat):Nat:=2*mOf (x / 2)+x % 2
def upL (x:Nat):Nat:=2*lOf (x / 2)+(x % 2+cOf (x / 2)) % 2
theorem upM_lt {x:Nat} (hx:x<94):upM x<94:=by have:=mOf_lt (r:=x / 2) (by omega); unfold upM; omega
theorem upL_lt {x:Nat} (hx:x<94):upL x<94:=by have:=lOf_lt (r:=x / 2) (by omega); unfold upL; omega
structure Cod where
 a:Nat
 c:Nat
 t:Nat
 n:Nat
 st:List Nat
 bs:List Nat
 l:Nat
 done:Bool
def newC (n:Nat):Cod:={ a:=0x8000,c:=0,t:=12,n:=0,st:=List.replicate n 0,bs:=[],l:=0,done:=false }
def outTail (s:Cod) (l c:Nat):Cod :=
 if l=255 then { s with bs:=s.bs++[l],l:=c / 1048576 % 256,c:=c % 1048576,t:=7 }
 else { s with bs:=s.bs++[l],l:=c / 524288 % 256,c:=c % 524288,t:=8 }
def outM (s:Cod):Cod:=if s.l≠255/\134217728<=s.c then outTail s (s.l+1) (s.c % 134217728) else outTail s s.l s.c
def shiftM (s:Cod):Cod :=
 let s1:Cod:={ s with a:=2*s.a,c:=2*s.c,t:=s.t-1 }
 if s1.t=0 then outM s1 else s1
def renewM:Nat->Cod->Cod
 | 0,s=>s
 | n+1,s=>let s1:=shiftM s; if 0x8000<=s1.a then s1 else renewM n s1
def putM (s:Cod) (k bit:Nat):Cod :=
 let x:=s.st.getD k 0
 let q:=qOf (x / 2)
 let a:=s.a-q
 if bit=x % 2 then
  if 0x8000<=a then { s with a:=a,c:=s.c+q,n:=s.n+1 }
  else if a<q then renewM 17 { s with a:=q,n:=s.n+1,st:=s.st.set k (upM x) }
  else renewM 17 { s with a:=a,c:=s.c+q,n:=s.n+1,st:=s.st.set k (upM x) }
 else
  if a<q then renewM 17 { s with a:=a,c:=s.c+q,n:=s.n+1,st:=s.st.set k (upL x) }
  else renewM 17 { s with a:=q,n:=s.n+1,st:=s.st.set k (upL x) }
def flushC (s:Cod):Nat:=let c:=s.c / 65536*65536+65535; if s.c+s.a<=c then c-0x8000 else c
def flushS (s:Cod):Cod:=outM { s with c:=s.c*2 ^ s.t }
def flushM (s:Cod):Cod:=flushS (flushS { s with c:=flushC s,done:=true })
def bytesM (s:Cod):List Nat:=let b:=(s.bs++[s.l]).drop 1; if s.l=255 then b.dropLast else b
structure Mid (s:Cod):Prop where
 t1:1<=s.t
 t12:s.t<=12
 ca:s.c+s.a<2 ^ (28-s.t)
 l:s.l<256
 bs:∀ x∈s.bs,x<256
 st:∀ x∈s.st,x<94
structure Wf (s:Cod):Prop extends Mid s where
 len:s.bs.length<=17*s.n
 n:s.n<=16777216
 lo:0x8000<=s.a
 hi:s.a<0x10000
theorem pow_split {t:Nat} (h1:1<=t) (h2:t<=12):2 ^ (28-(t-1))=2*2 ^ (28-t):=by
 have:28-(t-1)=(28-t)+1:=by omega
 rw [this,Nat.pow_succ]; omega
theorem pow_le {t:Nat} (h1:1<=t):2 ^ (28-t)<=134217728:=by
 have:(2:Nat) ^ (28-t)<=2 ^ 27:=Nat.pow_le_pow_right (by omega) (by omega)
 simpa using this
theorem outTail_same (s:Cod) (l c:Nat):(outTail s l c).a=s.a/\(outTail s l c).n=s.n/\(outTail s l c).st=s.st/\(outTail s l c).done=s.done/\(outTail s l c).bs=s.bs++[l]:=by
 unfold outTail; split <;> exact ⟨rfl,rfl,rfl,rfl,rfl⟩
theorem outM_same (s:Cod):(outM s).a=s.a/\(outM s).n=s.n/\(outM s).st=s.st/\(outM s).done=s.done/\(outM s).bs.length=s.bs.length+1:=by
 unfold outM
 split
 ·obtain ⟨h1,h2,h3,h4,h5⟩:=outTail_same s (s.l+1) (s.c % 134217728)
  exact ⟨h1,h2,h3,h4,by rw [h5]; simp⟩
 ·obtain ⟨h1,h2,h3,h4,h5⟩:=outTail_same s s.l s.c
  exact ⟨h1,h2,h3,h4,by rw [h5]; simp⟩
theorem outTail_mid {s:Cod} {l c:Nat} (ha:s.a<0x10000) (hl:l<256) (hbs:∀ x∈s.bs,x<256) (hst:∀ x∈s.st,x<94):Mid (outTail s l c):=by
 have hb:∀ x∈s.bs++[l],x<256:=fun x hx=>by
  rcases List.mem_append.1 hx with h | h
  ·exact hbs x h
  ·rw [List.mem_singleton.1 h]; exact hl
 unfold outTail
 split
 ·refine ⟨by simp,by simp,?_,Nat.mod_lt _ (by omega),hb,hst⟩
  show c % 1048576+s.a<2 ^ 21
  have:=Nat.mod_lt c (show 1048576 > 0 by omega)
  omega
 ·refine ⟨by simp,by simp,?_,Nat.mod_lt _ (by omega),hb,hst⟩
  show c % 524288+s.a<2 ^ 20
  have:=Nat.mod_lt c (show 524288 > 0 by omega)
  omega
theorem outM_mid {s:Cod} (ha:s.a<0x10000) (hl:s.l<256) (hbs:∀ x∈s.bs,x<256) (hst:∀ x∈s.st,x<94):Mid (outM s):=by
 unfold outM
 split
 ·rename_i h; exact outTail_mid ha (by omega) hbs hst
 ·exact outTail_mid ha hl hbs hst
theorem shiftM_mid {s:Cod} (h:Mid s) (ha:s.a<0x8000):Mid (shiftM s)/\(shiftM s).a=2*s.a/\(shiftM s).n=s.n/\(shiftM s).st=s.st/\(shiftM s).done=s.done/\(shiftM s).bs.length<=s.bs.length+1:=by
 have h1:=h.t1
 have h2:=h.t12
 unfold shiftM
 simp only []
 split
 ·rename_i ht
  obtain ⟨e1,e2,e3,e4,e5⟩:=outM_same { s with a:=2*s.a,c:=2*s.c,t:=s.t-1 }
  exact ⟨outM_mid (by show 2*s.a<0x10000; omega) h.l h.bs h.st,e1,e2,e3,e4,by rw [e5]; exact Nat.le_refl _⟩
 ·rename_i ht
  have ht:s.t-1≠0:=ht
  refine ⟨⟨by show 1<=s.t-1; omega,by show s.t-1<=12; omega,?_,h.l,h.bs,h.st⟩,rfl,rfl,rfl,rfl,Nat.le_succ _⟩
  show 2*s.c+2*s.a<2 ^ (28-(s.t-1))
  rw [pow_split h1 h2]
  have:=h.ca
  omega
theorem renewM_mid:∀ (k:Nat) {s:Cod},Mid s->s.a<0x8000->0x8000<=s.a*2 ^ k ->
  Mid (renewM k s)/\0x8000<=(renewM k s).a/\(renewM k s).a<0x10000/\(renewM k s).n=s.n/\(renewM k s).st=s.st/\(renewM k s).done=s.done/\(renewM k s).bs.length<=s.bs.length+k
 | 0,s,h,ha,hk=>by simp at hk; omega
 | k+1,s,h,ha,hk=>by
  obtain ⟨h1,h2,h3,h4,h5,h6⟩:=shiftM_mid h ha
  unfold renewM
  simp only []
  split
  ·rename_i hge
   exact ⟨h1,hge,by omega,h3,h4,h5,by omega⟩
  ·rename_i hlt
   have hk':0x8000<=(shiftM s).a*2 ^ k:=by
    rw [h2]
    rw [Nat.pow_succ] at hk
    have:s.a*(2 ^ k*2)=2*s.a*2 ^ k:=by rw [Nat.mul_comm (2 ^ k) 2,<- Nat.mul_assoc,Nat.mul_comm s.a 2]
    omega
   obtain ⟨g1,g2,g3,g4,g5,g6,g7⟩:=renewM_mid k h1 (by omega) hk'
   exact ⟨g1,g2,g3,g4.trans h3,g5.trans h4,g6.trans h5,by omega⟩
theorem getD_lt {st:List Nat} (h:∀ x∈st,x<94) (k:Nat):st.getD k 0<94:=by
 rw [List.getD_eq_getElem?_getD]
 cases hk:st[k]? with
 | none=>simp
 | some x=>exact h x (List.mem_of_getElem? hk)
theorem set_lt {st:List Nat} (h:∀ x∈st,x<94) {k v:Nat} (hv:v<94):∀ x∈st.set k v,x<94:=fun x hx=>by
 rcases List.mem_or_eq_of_mem_set hx with h1 | h1
 ·exact h x h1
 ·rw [h1]; exact hv
theorem renew_wf {s:Cod} (h:Mid s) (ha:1<=s.a) (ha':s.a<0x8000) (hl:s.bs.length<=17*(s.n-1)) (hn1:1<=s.n) (hn:s.n<=16777216):Wf (renewM 17 s):=by
 obtain ⟨g1,g2,g3,g4,g5,g6,g7⟩:=renewM_mid 17 h ha' (by have:(2:Nat) ^ 17=131072:=rfl; omega)
 exact ⟨g1,by omega,by omega,g2,g3⟩
theorem putM_wf {s:Cod} (h:Wf s) (k bit:Nat) (hn:s.n<16777216):Wf (putM s k bit):=by
 have hx:=getD_lt h.st k
 have hr:s.st.getD k 0 / 2<47:=by omega
 have hq1:=qOf_pos hr
 have hq2:=qOf_le hr
 have hM:=set_lt h.st (k:=k) (upM_lt hx)
 have hL:=set_lt h.st (k:=k) (upL_lt hx)
 have h1:=h.lo
 have h2:=h.hi
 have h3:=h.ca
 have h4:=h.len
 unfold putM
 simp only []
 split
 ·split
  ·exact ⟨⟨h.t1,h.t12,by show s.c+qOf _+(s.a-qOf _)<2 ^ (28-s.t); omega,h.l,h.bs,h.st⟩,by show s.bs.length<=17*(s.n+1); omega,by show s.n+1<=_; omega,by assumption,by show s.a-_<_; omega⟩
  ·split
   ·exact renew_wf ⟨h.t1,h.t12,by show s.c+qOf _<2 ^ (28-s.t); omega,h.l,h.bs,hM⟩ hq1 (by show qOf _<_; omega) (by show s.bs.length<=17*(s.n+1-1); omega) (by show 1<=s.n+1; omega) (by show s.n+1<=_; omega)
   ·exact renew_wf ⟨h.t1,h.t12,by show s.c+qOf _+(s.a-qOf _)<2 ^ (28-s.t); omega,h.l,h.bs,hM⟩ (by show 1<=s.a-qOf _; omega) (by show s.a-qOf _<_; omega) (by show s.bs.length<=17*(s.n+1-1); omega) (by show 1<=s.n+1; omega) (by show s.n+1<=_; omega)
 ·split
  ·exact renew_wf ⟨h.t1,h.t12,by show s.c+qOf _+(s.a-qOf _)<2 ^ (28-s.t); omega,h.l,h.bs,hL⟩ (by show 1<=s.a-qOf _; omega) (by show s.a-qOf _<_; omega) (by show s.bs.length<=17*(s.n+1-1); omega) (by show 1<=s.n+1; omega) (by show s.n+1<=_; omega)
  ·exact renew_wf ⟨h.t1,h.t12,by show s.c+qOf _<2 ^ (28-s.t); omega,h.l,h.bs,hL⟩ hq1 (by show qOf _<_; omega) (by show s.bs.length<=17*(s.n+1-1); omega) (by show 1<=s.n+1; omega) (by show s.n+1<=_; omega)
theorem newC_wf (n:Nat):Wf (newC n) :=
 ⟨⟨by simp [newC],by simp [newC],by simp [newC],by simp [newC],by simp [newC],fun x hx=>by simp only [newC,List.mem_replicate] at hx; omega⟩,by simp [newC],by simp [newC],by simp [newC],by simp [newC]⟩
theorem renewM_st:∀ (k:Nat) (s:Cod),(renewM k s).st=s.st/\(renewM k s).n=s.n/\(renewM k s).done=s.done:=by
 have hs:∀ s:Cod,(shiftM s).st=s.st/\(shiftM s).n=s.n/\(shiftM s).done=s.done:=fun s=>by
  unfold shiftM
  simp only []
  split
  ·obtain ⟨_,e2,e3,e4,_⟩:=outM_same { s with a:=2*s.a,c:=2*s.c,t:=s.t-1 }
   exact ⟨e3,e2,e4⟩
  ·exact ⟨rfl,rfl,rfl⟩
 intro k
 induction k with
 | zero=>intro s; exact ⟨rfl,rfl,rfl⟩
 | succ k ih =>
  intro s
  obtain ⟨h1,h2,h3⟩:=hs s
  unfold renewM
  simp only []
  split
  ·exact ⟨h1,h2,h3⟩
  ·obtain ⟨g1,g2,g3⟩:=ih (shiftM s)
   exact ⟨g1.trans h1,g2.trans h2,g3.trans h3⟩
theorem putM_n (s:Cod) (k bit:Nat):(putM s k bit).n=s.n+1/\(putM s k bit).st.length=s.st.length/\(putM s k bit).done=s.done:=by
 unfold putM
 simp only []
 split
 ·split
  ·exact ⟨rfl,rfl,rfl⟩
  ·split
   ·obtain ⟨h1,h2,h3⟩:=renewM_st 17 { s with a:=qOf (s.st.getD k 0 / 2),n:=s.n+1,st:=s.st.set k (upM (s.st.getD k 0)) }
    exact ⟨h2,by rw [h1]; simp,h3⟩
   ·obtain ⟨h1,h2,h3⟩:=renewM_st 17 { s with a:=s.a-qOf (s.st.getD k 0 / 2),c:=s.c+qOf (s.st.getD k 0 / 2),n:=s.n+1,st:=s.st.set k (upM (s.st.getD k 0)) }
    exact ⟨h2,by rw [h1]; simp,h3⟩
 ·split
  ·obtain ⟨h1,h2,h3⟩:=renewM_st 17 { s with a:=s.a-qOf (s.st.getD k 0 / 2),c:=s.c+qOf (s.st.getD k 0 / 2),n:=s.n+1,st:=s.st.set k (upL (s.st.getD k 0)) }
   exact ⟨h2,by rw [h1]; simp,h3⟩
  ·obtain ⟨h1,h2,h3⟩:=renewM_st 17 { s with a:=qOf (s.st.getD k 0 / 2),n:=s.n+1,st:=s.st.set k (upL (s.st.getD k 0)) }
   exact ⟨h2,by rw [h1]; simp,h3⟩
structure Dec where
 a:Nat
 c:Nat
 t:Nat
 n:Nat
 st:List Nat
 b:List Nat
 i:Nat
def M32:Nat:=4294967296
def byteD (s:Dec) (i:Nat):Nat:=s.b.getD i 255
def inD (s:Dec):Dec :=
 if byteD s s.i≠255 then { s with i:=s.i+1,c:=(s.c+byteD s (s.i+1)*256) % M32,t:=8 }
 else if byteD s (s.i+1) > 143 then { s with c:=(s.c+65280) % M32,t:=8 }
 else { s with i:=s.i+1,c:=(s.c+byteD s (s.i+1)*512) % M32,t:=7 }
def newD (b:List Nat) (n:Nat):Dec :=
 let s:Dec:=inD { a:=0x8000,c:=b.getD 0 255*65536,t:=0,n:=0,st:=List.replicate n 0,b:=b,i:=0 }
 { s with c:=s.c*128 % M32,t:=s.t-7 }
def shiftD (s:Dec):Dec :=
 let s1:=if s.t=0 then inD s else s
 { s1 with a:=2*s1.a,c:=2*s1.c % M32,t:=s1.t-1 }
def renewD:Nat->Dec->Dec
 | 0,s=>s
 | n+1,s=>let s1:=shiftD s; if 0x8000<=s1.a then s1 else renewD n s1
def getD (s:Dec) (k:Nat):Dec × Nat :=
 let x:=s.st.getD k 0
 let q:=qOf (x / 2)
 let a:=s.a-q
 if s.c / 65536<q then
  if a<q then (renewD 17 { s with a:=q,n:=s.n+1,st:=s.st.set k (upM x) },x % 2)
  else (renewD 17 { s with a:=q,n:=s.n+1,st:=s.st.set k (upL x) },1-x % 2)
 else
  let c:=s.c-q*65536
  if 0x8000<=a then ({ s with a:=a,c:=c,n:=s.n+1 },x % 2)
  else if a<q then (renewD 17 { s with a:=a,c:=c,n:=s.n+1,st:=s.st.set k (upL x) },1-x % 2)
  else (renewD 17 { s with a:=a,c:=c,n:=s.n+1,st:=s.st.set k (upM x) },x % 2)
structure MidD (s:Dec):Prop where
 t8:s.t<=8
 c:s.c<M32
 b:∀ x∈s.b,x<256
 st:∀ x∈s.st,x<94
 i:s.i<=s.b.length
structure WfD (s:Dec):Prop extends MidD s where
 n:s.n<=16777216
 lo:0x8000<=s.a
 hi:s.a<0x10000
theorem byteD_lt {s:Dec} (h:∀ x∈s.b,x<256) (i:Nat):byteD s i<256:=by
 unfold byteD
 rw [List.getD_eq_getElem?_getD]
 cases hk:s.b[i]? with
 | none=>simp
 | some x=>exact h x (List.mem_of_getElem? hk)
theorem byteD_ne {s:Dec} {i:Nat} (h:byteD s i≠255):i<s.b.length:=by
 unfold byteD at h
 rw [List.getD_eq_getElem?_getD] at h
 rcases Nat.lt_or_ge i s.b.length with h1 | h1
 ·exact h1
 ·rw [List.getElem?_eq_none h1] at h; simp at h
theorem inD_mid {s:Dec} (h:MidD s):MidD (inD s)/\(inD s).a=s.a/\(inD s).n=s.n/\(inD s).st=s.st/\(inD s).b=s.b/\1<=(inD s).t:=by
 have hm:∀ x,x % M32<M32:=fun x=>Nat.mod_lt _ (by decide)
 unfold inD
 split
 ·rename_i h1
  have:=byteD_ne h1
  exact ⟨⟨by simp,hm _,h.b,h.st,by show s.i+1<=s.b.length; omega⟩,rfl,rfl,rfl,rfl,by simp⟩
 ·split
  ·exact ⟨⟨by simp,hm _,h.b,h.st,h.i⟩,rfl,rfl,rfl,rfl,by simp⟩
  ·rename_i h2
   have:s.i+1<s.b.length:=byteD_ne (s:=s) (by omega)
   exact ⟨⟨by simp,hm _,h.b,h.st,by show s.i+1<=s.b.length; omega⟩,rfl,rfl,rfl,rfl,by simp⟩
theorem shiftD_mid {s:Dec} (h:MidD s):MidD (shiftD s)/\(shiftD s).a=2*s.a/\(shiftD s).n=s.n/\(shiftD s).st=s.st/\(shiftD s).b=s.b:=by
 have hm:∀ x,x % M32<M32:=fun x=>Nat.mod_lt _ (by decide)
 unfold shiftD
 simp only []
 split
 ·obtain ⟨h1,h2,h3,h4,h5,h6⟩:=inD_mid h
  exact ⟨⟨by show (inD s).t-1<=8; have:=h1.t8; omega,hm _,by rw [show ({ inD s with a:=2*(inD s).a,c:=2*(inD s).c % M32,t:=(inD s).t-1 }:Dec).b=(inD s).b from rfl]; exact h1.b,h1.st,h1.i⟩,by show 2*(inD s).a=_; rw [h2],h3,h4,h5⟩
 ·exact ⟨⟨by show s.t-1<=8; have:=h.t8; omega,hm _,h.b,h.st,h.i⟩,rfl,rfl,rfl,rfl⟩
theorem renewD_mid:∀ (k:Nat) {s:Dec},MidD s->s.a<0x8000->0x8000<=s.a*2 ^ k ->
  MidD (renewD k s)/\0x8000<=(renewD k s).a/\(renewD k s).a<0x10000/\(renewD k s).n=s.n/\(renewD k s).st=s.st/\(renewD k s).b=s.b
 | 0,s,h,ha,hk=>by simp at hk; omega
 | k+1,s,h,ha,hk=>by
  obtain ⟨h1,h2,h3,h4,h5⟩:=shiftD_mid h
  unfold renewD
  simp only []
  split
  ·rename_i hge
   exact ⟨h1,hge,by omega,h3,h4,h5⟩
  ·rename_i hlt
   have hk':0x8000<=(shiftD s).a*2 ^ k:=by
    rw [h2]
    rw [Nat.pow_succ] at hk
    have:s.a*(2 ^ k*2)=2*s.a*2 ^ k:=by rw [Nat.mul_comm (2 ^ k) 2,<- Nat.mul_assoc,Nat.mul_comm s.a 2]
    omega
   obtain ⟨g1,g2,g3,g4,g5,g6⟩:=renewD_mid k h1 (by omega) hk'
   exact ⟨g1,g2,g3,g4.trans h3,g5.trans h4,g6.trans h5⟩
theorem renewD_wf {s:Dec} (h:MidD s) (ha:1<=s.a) (ha':s.a<0x8000) (hn:s.n<=16777216):WfD (renewD 17 s):=by
 obtain ⟨g1,g2,g3,g4,g5,g6⟩:=renewD_mid 17 h ha' (by have:(2:Nat) ^ 17=131072:=rfl; omega)
 exact ⟨g1,by omega,g2,g3⟩
theorem getD_wf {s:Dec} (h:WfD s) (k:Nat) (hn:s.n<16777216):WfD (getD s k).1:=by
 have hx:=getD_lt h.st k
 have hr:s.st.getD k 0 / 2<47:=by omega
 have hq1:=qOf_pos hr
 have hq2:=qOf_le hr
 have hM:=set_lt h.st (k:=k) (upM_lt hx)
 have hL:=set_lt h.st (k:=k) (upL_lt hx)
 have h1:=h.lo
 have h2:=h.hi
 have h3:=h.c
 have hc:∀ q,s.c-q*65536<M32:=fun q=>Nat.lt_of_le_of_lt (Nat.sub_le _ _) h3
 unfold getD
 simp only []
 split
 ·split
  ·exact renewD_wf ⟨h.t8,h3,h.b,hM,h.i⟩ hq1 (by show qOf _<_; omega) (by show s.n+1<=_; omega)
  ·exact renewD_wf ⟨h.t8,h3,h.b,hL,h.i⟩ hq1 (by show qOf _<_; omega) (by show s.n+1<=_; omega)
 ·split
  ·exact ⟨⟨h.t8,hc _,h.b,h.st,h.i⟩,by show s.n+1<=_; omega,by assumption,by show s.a-_<_; omega⟩
  ·split
   ·exact renewD_wf ⟨h.t8,hc _,h.b,hL,h.i⟩ (by show 1<=s.a-qOf _; omega) (by show s.a-qOf _<_; omega) (by show s.n+1<=_; omega)
   ·exact renewD_wf ⟨h.t8,hc _,h.b,hM,h.i⟩ (by show 1<=s.a-qOf _; omega) (by show s.a-qOf _<_; omega) (by show s.n+1<=_; omega)
end Go.Ar
namespace Go.Den.YtbknfejmdekhpaaGreat
open Go Go.Den
def arith_New (C:CallP) (contexts:Int) (h:Heap) (K:VK) (Kp:PK):Prop :=
C F_arith_made #[.int .i64 contexts] h (fun v_1 h_2 =>
∃ (cs_3:List Value),cs_3.length=190/\∃ (r_4:Bool),v_1 = .tuple #[.agg (cs_3).toArray, .bool r_4]/\(
newC h_2 Z_arith_table T_arith_table fun r_5 h_6 =>
needs ((cs_3).length=190)<|stVs h_6 (⟨r_5,0,none⟩:Addr) 0 (cs_3) fun h_7 =>
bcase (!r_4) (
K (.tuple #[.pointer none, .int .i64 40]) h_7) <|
ldAll h_7 (⟨r_5,0,none⟩:Addr) 190 fun cs_8 =>
newC h_7 [.int .u8 0] T_uint8 fun r_9 h_10 =>
needs ((cs_8).length=190/\0+190<=(Z_arith_Coder).length) <|
needs ((([.int .u32 32768]:List Value)).length=1/\190+1<=((putL Z_arith_Coder 0 cs_8)).length) <|
needs ((([.int .i64 12]:List Value)).length=1/\192+1<=((putL (putL Z_arith_Coder 0 cs_8) 190 ([.int .u32 32768]:List Value))).length) <|
needs ((([.slice (some ⟨r_9,0,none⟩) 1 1]:List Value)).length=1/\193+1<=((putL (putL (putL Z_arith_Coder 0 cs_8) 190 ([.int .u32 32768]:List Value)) 192 ([.int .i64 12]:List Value))).length) <|
newC h_10 ((putL (putL (putL (putL Z_arith_Coder 0 cs_8) 190 ([.int .u32 32768]:List Value)) 192 ([.int .i64 12]:List Value)) 193 ([.slice (some ⟨r_9,0,none⟩) 1 1]:List Value))) T_arith_Coder fun r_11 h_12 =>
K (.tuple #[.pointer (some ⟨r_11,0,none⟩), .int .i64 0]) h_12)) (Kp)
def arith_Coder_Flush (C:CallP) (c:Option Addr) (h:Heap) (K:VK) (Kp:PK):Prop :=
ptr c fun a_1 =>
ldB h (a_1.add 194) fun x_2 =>
bcase x_2 (
K (.tuple #[.slice none 0 0, .int .i64 43]) h) <|
ptr c fun a_3 =>
stV h (a_3.add 194) (.bool true) fun h_4 =>
ptr c fun a_5 =>
ptr c fun a_6 =>
ldI h_4 (a_5.add 191) .u32 fun x_7 =>
ldI h_4 (a_6.add 190) .u32 fun x_8 =>
bindI (IntKind.u32.wrap (x_7+x_8)) fun z_9 =>
∃ K_10:List Value->Heap->Prop,(
ptr c fun a_13 =>
ldI h_4 (a_13.add 191) .u32 fun x_14 =>
bindI (bitI .or .u32 x_14 (65535:Int)) fun z_15 =>
ptr c fun a_16 =>
stV h_4 (a_16.add 191) (.int .u32 z_15) fun h_17 =>
ptr c fun a_18 =>
ldI h_17 (a_18.add 191) .u32 fun x_19 =>
bcase (decide (x_19≥z_9)) (
ptr c fun a_20 =>
ldI h_17 (a_20.add 191) .u32 fun x_21 =>
bindI (IntKind.u32.wrap (x_21-(32768:Int))) fun z_22 =>
ptr c fun a_23 =>
stV h_17 (a_23.add 191) (.int .u32 z_22) fun h_24 =>
K_10 [] h_24) <|
K_10 [] h_17)/\∀ (h_11:Heap) (u_12:Nat->Value) ,K_10 [] h_11->(
∃ J_25:Nat->List Value->Heap->Prop,(∃ n_27,J_25 n_27 [.int .i64 0] h_11)/\∀ (n_27:Nat) (h_28:Heap) (u_29:Nat->Value) (x_30:Int),J_25 n_27 [.int .i64 x_30] h_28->(
bcase (decide (x_30<(2:Int))) (
ptr c fun a_31 =>
ptr c fun a_32 =>
ldI h_28 (a_31.add 191) .u32 fun x_33 =>
ldI h_28 (a_32.add 192) .i64 fun x_34 =>
needs (0<=x_34) <|
bindI (shlI .u32 x_33 x_34) fun z_35 =>
ptr c fun a_36 =>
stV h_28 (a_36.add 191) (.int .u32 z_35) fun h_37 =>
C F_arith_Coder_out #[.pointer c] h_37 (fun v_38 h_39 =>
bindI (IntKind.i64.wrap (x_30+(1:Int))) fun z_40 =>
∃ m_26,m_26<n_27/\J_25 m_26 [.int .i64 z_40] h_39) (Kp)) <|
ptr c fun a_41 =>
ldS h_28 (a_41.add 193) fun x_42 x_42n x_42c =>
needs (0<=(1:Int)/\(1:Int)<=((x_42n:Nat):Int)) <|
bindI (IntKind.i64.wrap ((((x_42n-(1:Int).toNat):Nat):Int)-(1:Int))) fun z_43 =>
needs (0<=z_43/\z_43<(((x_42n-(1:Int).toNat):Nat):Int)) <|
ptr (subA x_42 (x_42c) ((1:Int).toNat) 1) fun a_44 =>
ldI h_28 (a_44.add (z_43.toNat*1)) .u8 fun x_45 =>
bcase (x_45 == (255:Int)) (
bindI (IntKind.i64.wrap ((((x_42n-(1:Int).toNat):Nat):Int)-(1:Int))) fun z_46 =>
needs (0<=z_46/\z_46<=(((x_42c-(1:Int).toNat):Nat):Int)) <|
appC h_28 T_uint8 1 1 [.int .u8 0] none (0) (0) (subA (subA x_42 (x_42c) ((1:Int).toNat) 1) ((x_42c-(1:Int).toNat)) (0) 1) ((z_46.toNat-0)) fun q_47 q_47n q_47c h_48 =>
K (.tuple #[.slice q_47 q_47n q_47c, .int .i64 0]) h_48) <|
appC h_28 T_uint8 1 1 [.int .u8 0] none (0) (0) (subA x_42 (x_42c) ((1:Int).toNat) 1) ((x_42n-(1:Int).toNat)) fun q_49 q_49n q_49c h_50 =>
K (.tuple #[.slice q_49 q_49n q_49c, .int .i64 0]) h_50))
def arith_NewDecoder (C:CallP) (b:Option Addr) (bn:Nat) (bc:Nat) (contexts:Int) (h:Heap) (K:VK) (Kp:PK):Prop :=
C F_arith_made #[.int .i64 contexts] h (fun v_1 h_2 =>
∃ (cs_3:List Value),cs_3.length=190/\∃ (r_4:Bool),v_1 = .tuple #[.agg (cs_3).toArray, .bool r_4]/\(
newC h_2 Z_arith_table T_arith_table fun r_5 h_6 =>
needs ((cs_3).length=190)<|stVs h_6 (⟨r_5,0,none⟩:Addr) 0 (cs_3) fun h_7 =>
bcase (!r_4) (
K (.tuple #[.pointer none, .int .i64 40]) h_7) <|
ldAll h_7 (⟨r_5,0,none⟩:Addr) 190 fun cs_8 =>
appC h_7 T_uint8 1 1 [.int .u8 0] none (0) (0) b (bn) fun q_9 q_9n q_9c h_10 =>
hext h_7 h_10/\(
needs ((cs_8).length=190/\0+190<=(Z_arith_Decoder).length) <|
needs ((([.int .u32 32768]:List Value)).length=1/\190+1<=((putL Z_arith_Decoder 0 cs_8)).length) <|
needs ((([.slice q_9 q_9n q_9c]:List Value)).length=1/\193+1<=((putL (putL Z_arith_Decoder 0 cs_8) 190 ([.int .u32 32768]:List Value))).length) <|
newC h_10 ((putL (putL (putL Z_arith_Decoder 0 cs_8) 190 ([.int .u32 32768]:List Value)) 193 ([.slice q_9 q_9n q_9c]:List Value))) T_arith_Decoder fun r_11 h_12 =>
C F_arith_Decoder_byte #[.pointer (some ⟨r_11,0,none⟩), .int .i64 0] h_12 (fun v_13 h_14 =>
∃ (r_15:Int),v_13 = .int .u32 r_15/\(
bindI (shlI .u32 r_15 (16:Int)) fun z_16 =>
stV h_14 ((⟨r_11,0,none⟩:Addr).add 191) (.int .u32 z_16) fun h_17 =>
C F_arith_Decoder_in #[.pointer (some ⟨r_11,0,none⟩)] h_17 (fun v_18 h_19 =>
ldI h_19 ((⟨r_11,0,none⟩:Addr).add 191) .u32 fun x_20 =>
bindI (shlI .u32 x_20 (7:Int)) fun z_21 =>
stV h_19 ((⟨r_11,0,none⟩:Addr).add 191) (.int .u32 z_21) fun h_22 =>
ldI h_22 ((⟨r_11,0,none⟩:Addr).add 192) .i64 fun x_23 =>
bindI (IntKind.i64.wrap (x_23-(7:Int))) fun z_24 =>
stV h_22 ((⟨r_11,0,none⟩:Addr).add 192) (.int .i64 z_24) fun h_25 =>
K (.tuple #[.pointer (some ⟨r_11,0,none⟩), .int .i64 0]) h_25) (Kp))) (Kp)))) (Kp)
def arith_made (C:CallP) (contexts:Int) (h:Heap) (K:VK) (Kp:PK):Prop :=
newC h Z_arith_table T_arith_table fun r_1 h_2 =>
bcase (decide (contexts<(1:Int))) (
stVs h_2 (⟨r_1,0,none⟩:Addr) 0 [.int .u32 0, .int .u8 0, .int .u8 0, .int .u8 0, .int .u32 0, .int .u8 0, .int .u8 0, .int .u8 0, .int .u32 0, .int .u8 0, .int .u8 0, .int .u8 0, .int .u32 0, .int .u8 0, .int .u8 0, .int .u8 0, .int .u32 0, .int .u8 0, .int .u8 0, .int .u8 0, .int .u32 0, .int .u8 0, .int .u8 0, .int .u8 0, .int .u32 0, .int .u8 0, .int .u8 0, .int .u8 0, .int .u32 0, .int .u8 0, .int .u8 0, .int .u8 0, .int .u32 0, .int .u8 0, .int .u8 0, .int .u8 0, .int .u32 0, .int .u8 0, .int .u8 0, .int .u8 0, .int .u32 0, .int .u8 0, .int .u8 0, .int .u8 0, .int .u32 0, .int .u8 0, .int .u8 0, .int .u8 0, .int .u32 0, .int .u8 0, .int .u8 0, .int .u8 0, .int .u32 0, .int .u8 0, .int .u8 0, .int .u8 0, .int .u32 0, .int .u8 0, .int .u8 0, .int .u8 0, .int .u32 0, .int .u8 0, .int .u8 0, .int .u8 0, .int .u32 0, .int .u8 0, .int .u8 0, .int .u8 0, .int .u32 0, .int .u8 0, .int .u8 0, .int .u8 0, .int .u32 0, .int .u8 0, .int .u8 0, .int .u8 0, .int .u32 0, .int .u8 0, .int .u8 0, .int .u8 0, .int .u32 0, .int .u8 0, .int .u8 0, .int .u8 0, .int .u32 0, .int .u8 0, .int .u8 0, .int .u8 0, .int .u32 0, .int .u8 0, .int .u8 0, .int .u8 0, .int .u32 0, .int .u8 0, .int .u8 0, .int .u8 0, .int .u32 0, .int .u8 0, .int .u8 0, .int .u8 0, .int .u32 0, .int .u8 0, .int .u8 0, .int .u8 0, .int .u32 0, .int .u8 0, .int .u8 0, .int .u8 0, .int .u32 0, .int .u8 0, .int .u8 0, .int .u8 0, .int .u32 0, .int .u8 0, .int .u8 0, .int .u8 0, .int .u32 0, .int .u8 0, .int .u8 0, .int .u8 0, .int .u32 0, .int .u8 0, .int .u8 0, .int .u8 0, .int .u32 0, .int .u8 0, .int .u8 0, .int .u8 0, .int .u32 0, .int .u8 0, .int .u8 0, .int .u8 0, .int .u32 0, .int .u8 0, .int .u8 0, .int .u8 0, .int .u32 0, .int .u8 0, .int .u8 0, .int .u8 0, .int .u32 0, .int .u8 0, .int .u8 0, .int .u8 0, .int .u32 0, .int .u8 0, .int .u8 0, .int .u8 0, .int .u32 0, .int .u8 0, .int .u8 0, .int .u8 0, .int .u32 0, .int .u8 0, .int .u8 0, .int .u8 0, .int .u32 0, .int .u8 0, .int .u8 0, .int .u8 0, .int .u32 0, .int .u8 0, .int .u8 0, .int .u8 0, .int .u32 0, .int .u8 0, .int .u8 0, .int .u8 0, .int .u32 0, .int .u8 0, .int .u8 0, .int .u8 0, .int .u32 0, .int .u8 0, .int .u8 0, .int .u8 0, .int .u32 0, .int .u8 0, .int .u8 0, .int .u8 0, .int .u32 0, .int .u8 0, .int .u8 0, .int .u8 0, .int .u32 0, .int .u8 0, .int .u8 0, .int .u8 0, .slice none 0 0, .int .i64 0] fun h_3 =>
ldAll h_3 (⟨r_1,0,none⟩:Addr) 190 fun cs_4 =>
K (.tuple #[.agg (cs_4).toArray, .bool false]) h_3) <|
bcase (decide (contexts > (131072:Int))) (
stVs h_2 (⟨r_1,0,none⟩:Addr) 0 [.int .u32 0, .int .u8 0, .int .u8 0, .int .u8 0, .int .u32 0, .int .u8 0, .int .u8 0, .int .u8 0, .int .u32 0, .int .u8 0, .int .u8 0, .int .u8 0, .int .u32 0, .int .u8 0, .int .u8 0, .int .u8 0, .int .u32 0, .int .u8 0, .int .u8 0, .int .u8 0, .int .u32 0, .int .u8 0, .int .u8 0, .int .u8 0, .int .u32 0, .int .u8 0, .int .u8 0, .int .u8 0, .int .u32 0, .int .u8 0, .int .u8 0, .int .u8 0, .int .u32 0, .int .u8 0, .int .u8 0, .int .u8 0, .int .u32 0, .int .u8 0, .int .u8 0, .int .u8 0, .int .u32 0, .int .u8 0, .int .u8 0, .int .u8 0, .int .u32 0, .int .u8 0, .int .u8 0, .int .u8 0, .int .u32 0, .int .u8 0, .int .u8 0, .int .u8 0, .int .u32 0, .int .u8 0, .int .u8 0, .int .u8 0, .int .u32 0, .int .u8 0, .int .u8 0, .int .u8 0, .int .u32 0, .int .u8 0, .int .u8 0, .int .u8 0, .int .u32 0, .int .u8 0, .int .u8 0, .int .u8 0, .int .u32 0, .int .u8 0, .int .u8 0, .int .u8 0, .int .u32 0, .int .u8 0, .int .u8 0, .int .u8 0, .int .u32 0, .int .u8 0, .int .u8 0, .int .u8 0, .int .u32 0, .int .u8 0, .int .u8 0, .int .u8 0, .int .u32 0, .int .u8 0, .int .u8 0, .int .u8 0, .int .u32 0, .int .u8 0, .int .u8 0, .int .u8 0, .int .u32 0, .int .u8 0, .int .u8 0, .int .u8 0, .int .u32 0, .int .u8 0, .int .u8 0, .int .u8 0, .int .u32 0, .int .u8 0, .int .u8 0, .int .u8 0, .int .u32 0, .int .u8 0, .int .u8 0, .int .u8 0, .int .u32 0, .int .u8 0, .int .u8 0, .int .u8 0, .int .u32 0, .int .u8 0, .int .u8 0, .int .u8 0, .int .u32 0, .int .u8 0, .int .u8 0, .int .u8 0, .int .u32 0, .int .u8 0, .int .u8 0, .int .u8 0, .int .u32 0, .int .u8 0, .int .u8 0, .int .u8 0, .int .u32 0, .int .u8 0, .int .u8 0, .int .u8 0, .int .u32 0, .int .u8 0, .int .u8 0, .int .u8 0, .int .u32 0, .int .u8 0, .int .u8 0, .int .u8 0, .int .u32 0, .int .u8 0, .int .u8 0, .int .u8 0, .int .u32 0, .int .u8 0, .int .u8 0, .int .u8 0, .int .u32 0, .int .u8 0, .int .u8 0, .int .u8 0, .int .u32 0, .int .u8 0, .int .u8 0, .int .u8 0, .int .u32 0, .int .u8 0, .int .u8 0, .int .u8 0, .int .u32 0, .int .u8 0, .int .u8 0, .int .u8 0, .int .u32 0, .int .u8 0, .int .u8 0, .int .u8 0, .int .u32 0, .int .u8 0, .int .u8 0, .int .u8 0, .int .u32 0, .int .u8 0, .int .u8 0, .int .u8 0, .int .u32 0, .int .u8 0, .int .u8 0, .int .u8 0, .int .u32 0, .int .u8 0, .int .u8 0, .int .u8 0, .int .u32 0, .int .u8 0, .int .u8 0, .int .u8 0, .slice none 0 0, .int .i64 0] fun h_5 =>
ldAll h_5 (⟨r_1,0,none⟩:Addr) 190 fun cs_6 =>
K (.tuple #[.agg (cs_6).toArray, .bool false]) h_5) <|
(
C F_arith_rows #[] h_2 (fun v_7 h_8 =>
∃ (cs_9:List Value),cs_9.length=188/\v_7 = .agg (cs_9).toArray/\(
hext h_2 h_8/\(
needs (0<=contexts/\contexts<=contexts/\contexts<=9223372036854775807/\((1:Nat):Int)*contexts<=281474976710656) <|
newC h_8 (repZ [.int .u8 0] contexts.toNat) T_uint8 fun r_10 h_11 =>
needs ((cs_9).length=188/\0+188<=(Z_arith_table).length) <|
needs ((([.slice (some ⟨r_10,0,none⟩) contexts.toNat contexts.toNat]:List Value)).length=1/\188+1<=((putL Z_arith_table 0 cs_9)).length) <|
needs (((putL (putL Z_arith_table 0 cs_9) 188 ([.slice (some ⟨r_10,0,none⟩) contexts.toNat contexts.toNat]:List Value))).length=190)<|stVs h_11 (⟨r_1,0,none⟩:Addr) 0 ((putL (putL Z_arith_table 0 cs_9) 188 ([.slice (some ⟨r_10,0,none⟩) contexts.toNat contexts.toNat]:List Value))) fun h_12 =>
ldAll h_12 (⟨r_1,0,none⟩:Addr) 190 fun cs_13 =>
K (.tuple #[.agg (cs_13).toArray, .bool true]) h_12))) (Kp))/\(
needs (0<=contexts/\contexts<=contexts/\contexts<=9223372036854775807/\((1:Nat):Int)*contexts<=281474976710656) <|
newC h_2 (repZ [.int .u8 0] contexts.toNat) T_uint8 fun r_14 h_15 =>
C F_arith_rows #[] h_15 (fun v_16 h_17 =>
∃ (cs_18:List Value),cs_18.length=188/\v_16 = .agg (cs_18).toArray/\(
hext h_15 h_17/\(
needs ((cs_18).length=188/\0+188<=(Z_arith_table).length) <|
needs ((([.slice (some ⟨r_14,0,none⟩) contexts.toNat contexts.toNat]:List Value)).length=1/\188+1<=((putL Z_arith_table 0 cs_18)).length) <|
needs (((putL (putL Z_arith_table 0 cs_18) 188 ([.slice (some ⟨r_14,0,none⟩) contexts.toNat contexts.toNat]:List Value))).length=190)<|stVs h_17 (⟨r_1,0,none⟩:Addr) 0 ((putL (putL Z_arith_table 0 cs_18) 188 ([.slice (some ⟨r_14,0,none⟩) contexts.toNat contexts.toNat]:List Value))) fun h_19 =>
ldAll h_19 (⟨r_1,0,none⟩:Addr) 190 fun cs_20 =>
K (.tuple #[.agg (cs_20).toArray, .bool true]) h_19))) (Kp))
def arith_Coder_out (C:CallP) (c:Option Addr) (h:Heap) (K:VK) (Kp:PK):Prop :=
ptr c fun a_1 =>
ptr c fun a_2 =>
ldS h (a_1.add 193) fun x_3 x_3n x_3c =>
ldS h (a_2.add 193) fun x_4 x_4n x_4c =>
bindI (IntKind.i64.wrap ((x_4n:Int)-(1:Int))) fun z_5 =>
needs (0<=z_5/\z_5<(x_3n:Int)) <|
ptr x_3 fun a_6 =>
∃ K_7:List Value->Heap->Prop,(
∃ K_10:List Value->Heap->Prop,(
ldI h (a_6.add (z_5.toNat*1)) .u8 fun x_13 =>
bcase (x_13 != (255:Int)) (
ptr c fun a_14 =>
ldI h (a_14.add 191) .u32 fun x_15 =>
K_10 [.bool (decide (x_15≥(134217728:Int)))] h) <|
K_10 [.bool false] h)/\∀ (h_11:Heap) (u_12:Nat->Value) (x_16:Bool),K_10 [.bool x_16] h_11->(
bcase x_16 (
ldI h_11 (a_6.add (z_5.toNat*1)) .u8 fun x_17 =>
bindI (IntKind.u8.wrap (x_17+(1:Int))) fun z_18 =>
stV h_11 (a_6.add (z_5.toNat*1)) (.int .u8 z_18) fun h_19 =>
ptr c fun a_20 =>
ldI h_19 (a_20.add 191) .u32 fun x_21 =>
bindI (bitI .and .u32 x_21 (134217727:Int)) fun z_22 =>
ptr c fun a_23 =>
stV h_19 (a_23.add 191) (.int .u32 z_22) fun h_24 =>
K_7 [] h_24) <|
K_7 [] h_11))/\∀ (h_8:Heap) (u_9:Nat->Value) ,K_7 [] h_8->(
∃ K_25:List Value->Heap->Prop,(
ldI h_8 (a_6.add (z_5.toNat*1)) .u8 fun x_28 =>
bcase (x_28 != (255:Int)) (
bindI (IntKind.i64.wrap ((20:Int)-(1:Int))) fun z_29 =>
K_25 [.int .i64 z_29] h_8) <|
K_25 [.int .i64 20] h_8)/\∀ (h_26:Heap) (u_27:Nat->Value) (shift_30:Int),K_25 [.int .i64 shift_30] h_26->(
ptr c fun a_31 =>
ptr c fun a_32 =>
ldS h_26 (a_31.add 193) fun x_33 x_33n x_33c =>
ldI h_26 (a_32.add 191) .u32 fun x_34 =>
needs (0<=shift_30) <|
bindI (shrI .u32 x_34 shift_30) fun z_35 =>
bindI (IntKind.u8.wrap z_35) fun z_36 =>
newC h_26 [.int .u8 z_36] T_uint8 fun r_37 h_38 =>
appC h_38 T_uint8 1 1 [.int .u8 0] x_33 (x_33n) (x_33c) (some ⟨r_37,0,none⟩) (1) fun q_39 q_39n q_39c h_40 =>
ptr c fun a_41 =>
stV h_40 (a_41.add 193) (.slice q_39 q_39n q_39c) fun h_42 =>
ptr c fun a_43 =>
needs (0<=shift_30) <|
bindI (shlI .u32 (1:Int) shift_30) fun z_44 =>
bindI (IntKind.u32.wrap (z_44-(1:Int))) fun z_45 =>
ldI h_42 (a_43.add 191) .u32 fun x_46 =>
bindI (bitI .and .u32 x_46 z_45) fun z_47 =>
ptr c fun a_48 =>
stV h_42 (a_48.add 191) (.int .u32 z_47) fun h_49 =>
bindI (IntKind.i64.wrap ((27:Int)-shift_30)) fun z_50 =>
ptr c fun a_51 =>
stV h_49 (a_51.add 192) (.int .i64 z_50) fun h_52 =>
K (.tuple #[]) h_52))
def arith_Decoder_byte (C:CallP) (d:Option Addr) (i:Int) (h:Heap) (K:VK) (Kp:PK):Prop :=
ptr d fun a_1 =>
ldS h (a_1.add 193) fun x_2 x_2n x_2c =>
bcase (decide (i<(x_2n:Int))) (
ptr d fun a_3 =>
ldS h (a_3.add 193) fun x_4 x_4n x_4c =>
needs (0<=i/\i<(x_4n:Int)) <|
ptr x_4 fun a_5 =>
ldI h (a_5.add (i.toNat*1)) .u8 fun x_6 =>
bindI (IntKind.u32.wrap x_6) fun z_7 =>
K (.int .u32 z_7) h) <|
K (.int .u32 255) h
def arith_Decoder_in (C:CallP) (d:Option Addr) (h:Heap) (K:VK) (Kp:PK):Prop :=
ptr d fun a_1 =>
ldI h (a_1.add 194) .i64 fun x_2 =>
C F_arith_Decoder_byte #[.pointer d, .int .i64 x_2] h (fun v_3 h_4 =>
∃ (r_5:Int),v_3 = .int .u32 r_5/\(
bcase (r_5 != (255:Int)) (
ptr d fun a_6 =>
ldI h_4 (a_6.add 194) .i64 fun x_7 =>
bindI (IntKind.i64.wrap (x_7+(1:Int))) fun z_8 =>
ptr d fun a_9 =>
stV h_4 (a_9.add 194) (.int .i64 z_8) fun h_10 =>
ptr d fun a_11 =>
ptr d fun a_12 =>
ldI h_10 (a_11.add 191) .u32 fun x_13 =>
ldI h_10 (a_12.add 194) .i64 fun x_14 =>
C F_arith_Decoder_byte #[.pointer d, .int .i64 x_14] h_10 (fun v_15 h_16 =>
∃ (r_17:Int),v_15 = .int .u32 r_17/\(
hext h_10 h_16/\(
bindI (shlI .u32 r_17 (8:Int)) fun z_18 =>
bindI (IntKind.u32.wrap (x_13+z_18)) fun z_19 =>
ptr d fun a_20 =>
stV h_16 (a_20.add 191) (.int .u32 z_19) fun h_21 =>
ptr d fun a_22 =>
stV h_21 (a_22.add 192) (.int .i64 8) fun h_23 =>
K (.tuple #[]) h_23))) (Kp)) <|
ptr d fun a_24 =>
ldI h_4 (a_24.add 194) .i64 fun x_25 =>
bindI (IntKind.i64.wrap (x_25+(1:Int))) fun z_26 =>
C F_arith_Decoder_byte #[.pointer d, .int .i64 z_26] h_4 (fun v_27 h_28 =>
∃ (r_29:Int),v_27 = .int .u32 r_29/\(
bcase (decide (r_29 > (143:Int))) (
ptr d fun a_30 =>
ldI h_28 (a_30.add 191) .u32 fun x_31 =>
bindI (IntKind.u32.wrap (x_31+(65280:Int))) fun z_32 =>
ptr d fun a_33 =>
stV h_28 (a_33.add 191) (.int .u32 z_32) fun h_34 =>
ptr d fun a_35 =>
stV h_34 (a_35.add 192) (.int .i64 8) fun h_36 =>
K (.tuple #[]) h_36) <|
ptr d fun a_37 =>
ldI h_28 (a_37.add 194) .i64 fun x_38 =>
bindI (IntKind.i64.wrap (x_38+(1:Int))) fun z_39 =>
ptr d fun a_40 =>
stV h_28 (a_40.add 194) (.int .i64 z_39) fun h_41 =>
ptr d fun a_42 =>
ptr d fun a_43 =>
ldI h_41 (a_42.add 191) .u32 fun x_44 =>
ldI h_41 (a_43.add 194) .i64 fun x_45 =>
C F_arith_Decoder_byte #[.pointer d, .int .i64 x_45] h_41 (fun v_46 h_47 =>
∃ (r_48:Int),v_46 = .int .u32 r_48/\(
hext h_41 h_47/\(
bindI (shlI .u32 r_48 (9:Int)) fun z_49 =>
bindI (IntKind.u32.wrap (x_44+z_49)) fun z_50 =>
ptr d fun a_51 =>
stV h_47 (a_51.add 191) (.int .u32 z_50) fun h_52 =>
ptr d fun a_53 =>
stV h_52 (a_53.add 192) (.int .i64 7) fun h_54 =>
K (.tuple #[]) h_54))) (Kp))) (Kp))) (Kp)
def arith_rows (C:CallP)  (h:Heap) (K:VK) (Kp:PK):Prop :=
newC h Z_47_arith_row T_47_arith_row fun r_1 h_2 =>
stVs h_2 (⟨r_1,0,none⟩:Addr) 0 [.int .u32 22017, .int .u8 1, .int .u8 1, .int .u8 1, .int .u32 13313, .int .u8 2, .int .u8 6, .int .u8 0, .int .u32 6145, .int .u8 3, .int .u8 9, .int .u8 0, .int .u32 2753, .int .u8 4, .int .u8 12, .int .u8 0, .int .u32 1313, .int .u8 5, .int .u8 29, .int .u8 0, .int .u32 545, .int .u8 38, .int .u8 33, .int .u8 0, .int .u32 22017, .int .u8 7, .int .u8 6, .int .u8 1, .int .u32 21505, .int .u8 8, .int .u8 14, .int .u8 0, .int .u32 18433, .int .u8 9, .int .u8 14, .int .u8 0, .int .u32 14337, .int .u8 10, .int .u8 14, .int .u8 0, .int .u32 12289, .int .u8 11, .int .u8 17, .int .u8 0, .int .u32 9217, .int .u8 12, .int .u8 18, .int .u8 0, .int .u32 7169, .int .u8 13, .int .u8 20, .int .u8 0, .int .u32 5633, .int .u8 29, .int .u8 21, .int .u8 0, .int .u32 22017, .int .u8 15, .int .u8 14, .int .u8 1, .int .u32 21505, .int .u8 16, .int .u8 14, .int .u8 0, .int .u32 20737, .int .u8 17, .int .u8 15, .int .u8 0, .int .u32 18433, .int .u8 18, .int .u8 16, .int .u8 0, .int .u32 14337, .int .u8 19, .int .u8 17, .int .u8 0, .int .u32 13313, .int .u8 20, .int .u8 18, .int .u8 0, .int .u32 12289, .int .u8 21, .int .u8 19, .int .u8 0, .int .u32 10241, .int .u8 22, .int .u8 19, .int .u8 0, .int .u32 9217, .int .u8 23, .int .u8 20, .int .u8 0, .int .u32 8705, .int .u8 24, .int .u8 21, .int .u8 0, .int .u32 7169, .int .u8 25, .int .u8 22, .int .u8 0, .int .u32 6145, .int .u8 26, .int .u8 23, .int .u8 0, .int .u32 5633, .int .u8 27, .int .u8 24, .int .u8 0, .int .u32 5121, .int .u8 28, .int .u8 25, .int .u8 0, .int .u32 4609, .int .u8 29, .int .u8 26, .int .u8 0, .int .u32 4353, .int .u8 30, .int .u8 27, .int .u8 0, .int .u32 2753, .int .u8 31, .int .u8 28, .int .u8 0, .int .u32 2497, .int .u8 32, .int .u8 29, .int .u8 0, .int .u32 2209, .int .u8 33, .int .u8 30, .int .u8 0, .int .u32 1313, .int .u8 34, .int .u8 31, .int .u8 0, .int .u32 1089, .int .u8 35, .int .u8 32, .int .u8 0, .int .u32 673, .int .u8 36, .int .u8 33, .int .u8 0, .int .u32 545, .int .u8 37, .int .u8 34, .int .u8 0, .int .u32 321, .int .u8 38, .int .u8 35, .int .u8 0, .int .u32 273, .int .u8 39, .int .u8 36, .int .u8 0, .int .u32 133, .int .u8 40, .int .u8 37, .int .u8 0, .int .u32 73, .int .u8 41, .int .u8 38, .int .u8 0, .int .u32 37, .int .u8 42, .int .u8 39, .int .u8 0, .int .u32 21, .int .u8 43, .int .u8 40, .int .u8 0, .int .u32 9, .int .u8 44, .int .u8 41, .int .u8 0, .int .u32 5, .int .u8 45, .int .u8 42, .int .u8 0, .int .u32 1, .int .u8 45, .int .u8 43, .int .u8 0, .int .u32 22017, .int .u8 46, .int .u8 46, .int .u8 0] fun h_3 =>
ldAll h_3 (⟨r_1,0,none⟩:Addr) 188 fun cs_4 =>
K (.agg (cs_4).toArray) h_3
def arith_Coder_Put (C:CallP) (c:Option Addr) (context:Int) (bit:Int) (h:Heap) (K:VK) (Kp:PK):Prop :=
∃ K_1:List Value->Heap->Prop,(
ptr c fun a_4 =>
ldB h (a_4.add 194) fun x_5 =>
bcase x_5 (
K (.int .i64 43) h) <|
bcase (bit != (0:Int)) (
bcase (bit != (1:Int)) (
K (.int .i64 42) h) <|
ptr c fun a_6 =>
ldI h ((a_6.add 0).add 189) .i64 fun x_7 =>
bcase (decide (x_7≥(16777216:Int))) (
K (.int .i64 41) h) <|
K_1 [] h) <|
ptr c fun a_8 =>
ldI h ((a_8.add 0).add 189) .i64 fun x_9 =>
bcase (decide (x_9≥(16777216:Int))) (
K (.int .i64 41) h) <|
K_1 [] h)/\∀ (h_2:Heap) (u_3:Nat->Value) ,K_1 [] h_2->(
ptr c fun a_10 =>
ldI h_2 ((a_10.add 0).add 189) .i64 fun x_11 =>
bindI (IntKind.i64.wrap (x_11+(1:Int))) fun z_12 =>
ptr c fun a_13 =>
stV h_2 ((a_13.add 0).add 189) (.int .i64 z_12) fun h_14 =>
ptr c fun a_15 =>
C F_arith_table_at #[.pointer (some (a_15.add 0)), .int .i64 context] h_14 (fun v_16 h_17 =>
∃ (r_18:Option Addr),∃ (r_19:Int) (r_20:Int) (r_21:Int) (r_22:Int),v_16 = .tuple #[.pointer r_18, .agg #[.int .u32 r_19, .int .u8 r_20, .int .u8 r_21, .int .u8 r_22]]/\(
newC h_17 [.int .u32 0, .int .u8 0, .int .u8 0, .int .u8 0] T_arith_row fun r_23 h_24 =>
stV h_24 ((⟨r_23,0,none⟩:Addr).add 0) (.int .u32 r_19) fun h_25 =>
stV h_25 ((⟨r_23,0,none⟩:Addr).add 1) (.int .u8 r_20) fun h_26 =>
stV h_26 ((⟨r_23,0,none⟩:Addr).add 2) (.int .u8 r_21) fun h_27 =>
stV h_27 ((⟨r_23,0,none⟩:Addr).add 3) (.int .u8 r_22) fun h_28 =>
ptr c fun a_29 =>
ldI h_28 (a_29.add 190) .u32 fun x_30 =>
ldI h_28 ((⟨r_23,0,none⟩:Addr).add 0) .u32 fun x_31 =>
bindI (IntKind.u32.wrap (x_30-x_31)) fun z_32 =>
ptr c fun a_33 =>
stV h_28 (a_33.add 190) (.int .u32 z_32) fun h_34 =>
ptr r_18 fun a_35 =>
ldI h_34 a_35 .u8 fun x_36 =>
bindI (bitI .and .u8 x_36 (1:Int)) fun z_37 =>
bindI (IntKind.i64.wrap z_37) fun z_38 =>
bcase (bit == z_38) (
ptr c fun a_39 =>
ldI h_34 (a_39.add 190) .u32 fun x_40 =>
bcase (decide (x_40≥(32768:Int))) (
ptr c fun a_41 =>
ldI h_34 (a_41.add 191) .u32 fun x_42 =>
ldI h_34 ((⟨r_23,0,none⟩:Addr).add 0) .u32 fun x_43 =>
bindI (IntKind.u32.wrap (x_42+x_43)) fun z_44 =>
ptr c fun a_45 =>
stV h_34 (a_45.add 191) (.int .u32 z_44) fun h_46 =>
K (.int .i64 0) h_46) <|
ptr c fun a_47 =>
ldI h_34 (a_47.add 190) .u32 fun x_48 =>
ldI h_34 ((⟨r_23,0,none⟩:Addr).add 0) .u32 fun x_49 =>
bcase (decide (x_48<x_49)) (
ldI h_34 ((⟨r_23,0,none⟩:Addr).add 0) .u32 fun x_50 =>
ptr c fun a_51 =>
stV h_34 (a_51.add 190) (.int .u32 x_50) fun h_52 =>
ldI h_52 ((⟨r_23,0,none⟩:Addr).add 0) .u32 fun x_53 =>
ldI h_52 ((⟨r_23,0,none⟩:Addr).add 1) .u8 fun x_54 =>
ldI h_52 ((⟨r_23,0,none⟩:Addr).add 2) .u8 fun x_55 =>
ldI h_52 ((⟨r_23,0,none⟩:Addr).add 3) .u8 fun x_56 =>
C F_arith_likely #[.pointer r_18, .agg #[.int .u32 x_53, .int .u8 x_54, .int .u8 x_55, .int .u8 x_56]] h_52 (fun v_57 h_58 =>
C F_arith_Coder_renew #[.pointer c] h_58 (fun v_59 h_60 =>
K (.int .i64 0) h_60) (Kp)) (Kp)) <|
ptr c fun a_61 =>
ldI h_34 (a_61.add 191) .u32 fun x_62 =>
ldI h_34 ((⟨r_23,0,none⟩:Addr).add 0) .u32 fun x_63 =>
bindI (IntKind.u32.wrap (x_62+x_63)) fun z_64 =>
ptr c fun a_65 =>
stV h_34 (a_65.add 191) (.int .u32 z_64) fun h_66 =>
ldI h_66 ((⟨r_23,0,none⟩:Addr).add 0) .u32 fun x_67 =>
ldI h_66 ((⟨r_23,0,none⟩:Addr).add 1) .u8 fun x_68 =>
ldI h_66 ((⟨r_23,0,none⟩:Addr).add 2) .u8 fun x_69 =>
ldI h_66 ((⟨r_23,0,none⟩:Addr).add 3) .u8 fun x_70 =>
C F_arith_likely #[.pointer r_18, .agg #[.int .u32 x_67, .int .u8 x_68, .int .u8 x_69, .int .u8 x_70]] h_66 (fun v_71 h_72 =>
C F_arith_Coder_renew #[.pointer c] h_72 (fun v_73 h_74 =>
K (.int .i64 0) h_74) (Kp)) (Kp)) <|
ptr c fun a_75 =>
ldI h_34 (a_75.add 190) .u32 fun x_76 =>
ldI h_34 ((⟨r_23,0,none⟩:Addr).add 0) .u32 fun x_77 =>
bcase (decide (x_76<x_77)) (
ptr c fun a_78 =>
ldI h_34 (a_78.add 191) .u32 fun x_79 =>
ldI h_34 ((⟨r_23,0,none⟩:Addr).add 0) .u32 fun x_80 =>
bindI (IntKind.u32.wrap (x_79+x_80)) fun z_81 =>
ptr c fun a_82 =>
stV h_34 (a_82.add 191) (.int .u32 z_81) fun h_83 =>
ldI h_83 ((⟨r_23,0,none⟩:Addr).add 0) .u32 fun x_84 =>
ldI h_83 ((⟨r_23,0,none⟩:Addr).add 1) .u8 fun x_85 =>
ldI h_83 ((⟨r_23,0,none⟩:Addr).add 2) .u8 fun x_86 =>
ldI h_83 ((⟨r_23,0,none⟩:Addr).add 3) .u8 fun x_87 =>
C F_arith_unlikely #[.pointer r_18, .agg #[.int .u32 x_84, .int .u8 x_85, .int .u8 x_86, .int .u8 x_87]] h_83 (fun v_88 h_89 =>
C F_arith_Coder_renew #[.pointer c] h_89 (fun v_90 h_91 =>
K (.int .i64 0) h_91) (Kp)) (Kp)) <|
ldI h_34 ((⟨r_23,0,none⟩:Addr).add 0) .u32 fun x_92 =>
ptr c fun a_93 =>
stV h_34 (a_93.add 190) (.int .u32 x_92) fun h_94 =>
ldI h_94 ((⟨r_23,0,none⟩:Addr).add 0) .u32 fun x_95 =>
ldI h_94 ((⟨r_23,0,none⟩:Addr).add 1) .u8 fun x_96 =>
ldI h_94 ((⟨r_23,0,none⟩:Addr).add 2) .u8 fun x_97 =>
ldI h_94 ((⟨r_23,0,none⟩:Addr).add 3) .u8 fun x_98 =>
C F_arith_unlikely #[.pointer r_18, .agg #[.int .u32 x_95, .int .u8 x_96, .int .u8 x_97, .int .u8 x_98]] h_94 (fun v_99 h_100 =>
C F_arith_Coder_renew #[.pointer c] h_100 (fun v_101 h_102 =>
K (.int .i64 0) h_102) (Kp)) (Kp))) (Kp))
def arith_table_Contexts (C:CallP) (t:Option Addr) (h:Heap) (K:VK) (Kp:PK):Prop :=
ptr t fun a_1 =>
ldS h (a_1.add 188) fun x_2 x_2n x_2c =>
K (.int .i64 (x_2n:Int)) h
def arith_Decoder_Get (C:CallP) (d:Option Addr) (context:Int) (h:Heap) (K:VK) (Kp:PK):Prop :=
ptr d fun a_1 =>
ldI h ((a_1.add 0).add 189) .i64 fun x_2 =>
bcase (decide (x_2≥(16777216:Int))) (
K (.tuple #[.int .i64 0, .int .i64 41]) h) <|
ptr d fun a_3 =>
ldI h ((a_3.add 0).add 189) .i64 fun x_4 =>
bindI (IntKind.i64.wrap (x_4+(1:Int))) fun z_5 =>
ptr d fun a_6 =>
stV h ((a_6.add 0).add 189) (.int .i64 z_5) fun h_7 =>
ptr d fun a_8 =>
C F_arith_table_at #[.pointer (some (a_8.add 0)), .int .i64 context] h_7 (fun v_9 h_10 =>
∃ (r_11:Option Addr),∃ (r_12:Int) (r_13:Int) (r_14:Int) (r_15:Int),v_9 = .tuple #[.pointer r_11, .agg #[.int .u32 r_12, .int .u8 r_13, .int .u8 r_14, .int .u8 r_15]]/\(
newC h_10 [.int .u32 0, .int .u8 0, .int .u8 0, .int .u8 0] T_arith_row fun r_16 h_17 =>
stV h_17 ((⟨r_16,0,none⟩:Addr).add 0) (.int .u32 r_12) fun h_18 =>
stV h_18 ((⟨r_16,0,none⟩:Addr).add 1) (.int .u8 r_13) fun h_19 =>
stV h_19 ((⟨r_16,0,none⟩:Addr).add 2) (.int .u8 r_14) fun h_20 =>
stV h_20 ((⟨r_16,0,none⟩:Addr).add 3) (.int .u8 r_15) fun h_21 =>
ptr r_11 fun a_22 =>
ldI h_21 a_22 .u8 fun x_23 =>
bindI (bitI .and .u8 x_23 (1:Int)) fun z_24 =>
bindI (IntKind.i64.wrap z_24) fun z_25 =>
ptr d fun a_26 =>
ldI h_21 (a_26.add 190) .u32 fun x_27 =>
ldI h_21 ((⟨r_16,0,none⟩:Addr).add 0) .u32 fun x_28 =>
bindI (IntKind.u32.wrap (x_27-x_28)) fun z_29 =>
ptr d fun a_30 =>
stV h_21 (a_30.add 190) (.int .u32 z_29) fun h_31 =>
ptr d fun a_32 =>
ldI h_31 (a_32.add 191) .u32 fun x_33 =>
bindI (shrI .u32 x_33 (16:Int)) fun z_34 =>
ldI h_31 ((⟨r_16,0,none⟩:Addr).add 0) .u32 fun x_35 =>
∃ K_36:List Value->Heap->Prop,(
bcase (!(decide (z_34<x_35))) (
ptr d fun a_39 =>
ldI h_31 (a_39.add 191) .u32 fun x_40 =>
ldI h_31 ((⟨r_16,0,none⟩:Addr).add 0) .u32 fun x_41 =>
bindI (shlI .u32 x_41 (16:Int)) fun z_42 =>
bindI (IntKind.u32.wrap (x_40-z_42)) fun z_43 =>
ptr d fun a_44 =>
stV h_31 (a_44.add 191) (.int .u32 z_43) fun h_45 =>
ptr d fun a_46 =>
ldI h_45 (a_46.add 190) .u32 fun x_47 =>
bcase (decide (x_47≥(32768:Int))) (
K (.tuple #[.int .i64 z_25, .int .i64 0]) h_45) <|
K_36 [] h_45) <|
K_36 [] h_31)/\∀ (h_37:Heap) (u_38:Nat->Value) ,K_36 [] h_37->(
∃ K_48:List Value->Heap->Prop,(
ptr d fun a_51 =>
ldI h_37 (a_51.add 190) .u32 fun x_52 =>
ldI h_37 ((⟨r_16,0,none⟩:Addr).add 0) .u32 fun x_53 =>
bcase ((decide (z_34<x_35)) == (decide (x_52<x_53))) (
ldI h_37 ((⟨r_16,0,none⟩:Addr).add 0) .u32 fun x_54 =>
ldI h_37 ((⟨r_16,0,none⟩:Addr).add 1) .u8 fun x_55 =>
ldI h_37 ((⟨r_16,0,none⟩:Addr).add 2) .u8 fun x_56 =>
ldI h_37 ((⟨r_16,0,none⟩:Addr).add 3) .u8 fun x_57 =>
C F_arith_likely #[.pointer r_11, .agg #[.int .u32 x_54, .int .u8 x_55, .int .u8 x_56, .int .u8 x_57]] h_37 (fun v_58 h_59 =>
K_48 [.int .i64 z_25] h_59) (Kp)) <|
bindI (bitI .xor .i64 z_25 (1:Int)) fun z_60 =>
ldI h_37 ((⟨r_16,0,none⟩:Addr).add 0) .u32 fun x_61 =>
ldI h_37 ((⟨r_16,0,none⟩:Addr).add 1) .u8 fun x_62 =>
ldI h_37 ((⟨r_16,0,none⟩:Addr).add 2) .u8 fun x_63 =>
ldI h_37 ((⟨r_16,0,none⟩:Addr).add 3) .u8 fun x_64 =>
C F_arith_unlikely #[.pointer r_11, .agg #[.int .u32 x_61, .int .u8 x_62, .int .u8 x_63, .int .u8 x_64]] h_37 (fun v_65 h_66 =>
K_48 [.int .i64 z_60] h_66) (Kp))/\∀ (h_49:Heap) (u_50:Nat->Value) (bit_67:Int),K_48 [.int .i64 bit_67] h_49->(
bcase (decide (z_34<x_35)) (
ldI h_49 ((⟨r_16,0,none⟩:Addr).add 0) .u32 fun x_68 =>
ptr d fun a_69 =>
stV h_49 (a_69.add 190) (.int .u32 x_68) fun h_70 =>
C F_arith_Decoder_renew #[.pointer d] h_70 (fun v_71 h_72 =>
K (.tuple #[.int .i64 bit_67, .int .i64 0]) h_72) (Kp)) <|
C F_arith_Decoder_renew #[.pointer d] h_49 (fun v_73 h_74 =>
K (.tuple #[.int .i64 bit_67, .int .i64 0]) h_74) (Kp))))) (Kp)
def arith_table_at (C:CallP) (t:Option Addr) (context:Int) (h:Heap) (K:VK) (Kp:PK):Prop :=
newC h [.int .u32 0, .int .u8 0, .int .u8 0, .int .u8 0] T_arith_row fun r_1 h_2 =>
ptr t fun a_3 =>
ldS h_2 (a_3.add 188) fun x_4 x_4n x_4c =>
ptr t fun a_5 =>
needs (IntKind.i64=IntKind.i64/\(x_4n:Int)≠0) <|
bindI (context.tmod (x_4n:Int)) fun z_6 =>
bindI (IntKind.i64.wrap (z_6+(x_4n:Int))) fun z_7 =>
needs (IntKind.i64=IntKind.i64/\(x_4n:Int)≠0) <|
bindI (z_7.tmod (x_4n:Int)) fun z_8 =>
ldS h_2 (a_5.add 188) fun x_9 x_9n x_9c =>
needs (0<=z_8/\z_8<(x_9n:Int)) <|
ptr x_9 fun a_10 =>
ptr t fun a_11 =>
ldI h_2 (a_10.add (z_8.toNat*1)) .u8 fun x_12 =>
bindI (shrI .u8 x_12 (1:Int)) fun z_13 =>
needs (0<=z_13/\z_13<((47:Nat):Int)) <|
ldI h_2 (((a_11.add 0).add (z_13.toNat*4)).add 0) .u32 fun x_14 =>
ldI h_2 (((a_11.add 0).add (z_13.toNat*4)).add 1) .u8 fun x_15 =>
ldI h_2 (((a_11.add 0).add (z_13.toNat*4)).add 2) .u8 fun x_16 =>
ldI h_2 (((a_11.add 0).add (z_13.toNat*4)).add 3) .u8 fun x_17 =>
stV h_2 ((⟨r_1,0,none⟩:Addr).add 0) (.int .u32 x_14) fun h_18 =>
stV h_18 ((⟨r_1,0,none⟩:Addr).add 1) (.int .u8 x_15) fun h_19 =>
stV h_19 ((⟨r_1,0,none⟩:Addr).add 2) (.int .u8 x_16) fun h_20 =>
stV h_20 ((⟨r_1,0,none⟩:Addr).add 3) (.int .u8 x_17) fun h_21 =>
ldI h_21 ((⟨r_1,0,none⟩:Addr).add 0) .u32 fun r_22 =>
ldI h_21 ((⟨r_1,0,none⟩:Addr).add 1) .u8 fun r_23 =>
ldI h_21 ((⟨r_1,0,none⟩:Addr).add 2) .u8 fun r_24 =>
ldI h_21 ((⟨r_1,0,none⟩:Addr).add 3) .u8 fun r_25 =>
K (.tuple #[.pointer (some (a_10.add (z_8.toNat*1))), .agg #[.int .u32 r_22, .int .u8 r_23, .int .u8 r_24, .int .u8 r_25]]) h_21
def arith_likely (C:CallP) (s:Option Addr) (r_1:Int) (r_2:Int) (r_3:Int) (r_4:Int) (h:Heap) (K:VK) (Kp:PK):Prop :=
newC h [.int .u32 r_1, .int .u8 r_2, .int .u8 r_3, .int .u8 r_4] T_arith_row fun r_5 h_6 =>
ptr s fun a_7 =>
ldI h_6 ((⟨r_5,0,none⟩:Addr).add 1) .u8 fun x_8 =>
bindI (shlI .u8 x_8 (1:Int)) fun z_9 =>
ldI h_6 a_7 .u8 fun x_10 =>
bindI (bitI .and .u8 x_10 (1:Int)) fun z_11 =>
bindI (bitI .or .u8 z_9 z_11) fun z_12 =>
ptr s fun a_13 =>
stV h_6 a_13 (.int .u8 z_12) fun h_14 =>
K (.tuple #[]) h_14
def arith_unlikely (C:CallP) (s:Option Addr) (r_1:Int) (r_2:Int) (r_3:Int) (r_4:Int) (h:Heap) (K:VK) (Kp:PK):Prop :=
newC h [.int .u32 r_1, .int .u8 r_2, .int .u8 r_3, .int .u8 r_4] T_arith_row fun r_5 h_6 =>
ptr s fun a_7 =>
ldI h_6 ((⟨r_5,0,none⟩:Addr).add 2) .u8 fun x_8 =>
bindI (shlI .u8 x_8 (1:Int)) fun z_9 =>
ldI h_6 a_7 .u8 fun x_10 =>
bindI (bitI .and .u8 x_10 (1:Int)) fun z_11 =>
bindI (bitI .or .u8 z_9 z_11) fun z_12 =>
ldI h_6 ((⟨r_5,0,none⟩:Addr).add 3) .u8 fun x_13 =>
bindI (bitI .xor .u8 z_12 x_13) fun z_14 =>
ptr s fun a_15 =>
stV h_6 a_15 (.int .u8 z_14) fun h_16 =>
K (.tuple #[]) h_16
def arith_Coder_renew (C:CallP) (c:Option Addr) (h:Heap) (K:VK) (Kp:PK):Prop :=
∃ J_1:Nat->List Value->Heap->Prop,(∃ n_3,J_1 n_3 [] h)/\∀ (n_3:Nat) (h_4:Heap) (u_5:Nat->Value) ,J_1 n_3 [] h_4->(
ptr c fun a_6 =>
ldI h_4 (a_6.add 190) .u32 fun x_7 =>
bindI (shlI .u32 x_7 (1:Int)) fun z_8 =>
ptr c fun a_9 =>
stV h_4 (a_9.add 190) (.int .u32 z_8) fun h_10 =>
ptr c fun a_11 =>
ldI h_10 (a_11.add 191) .u32 fun x_12 =>
bindI (shlI .u32 x_12 (1:Int)) fun z_13 =>
ptr c fun a_14 =>
stV h_10 (a_14.add 191) (.int .u32 z_13) fun h_15 =>
ptr c fun a_16 =>
ldI h_15 (a_16.add 192) .i64 fun x_17 =>
bindI (IntKind.i64.wrap (x_17-(1:Int))) fun z_18 =>
ptr c fun a_19 =>
stV h_15 (a_19.add 192) (.int .i64 z_18) fun h_20 =>
ptr c fun a_21 =>
ldI h_20 (a_21.add 192) .i64 fun x_22 =>
bcase (x_22 == (0:Int)) (
C F_arith_Coder_out #[.pointer c] h_20 (fun v_23 h_24 =>
ptr c fun a_25 =>
ldI h_24 (a_25.add 190) .u32 fun x_26 =>
bcase (decide (x_26≥(32768:Int))) (
K (.tuple #[]) h_24) <|
∃ m_2,m_2<n_3/\J_1 m_2 [] h_24) (Kp)) <|
ptr c fun a_27 =>
ldI h_20 (a_27.add 190) .u32 fun x_28 =>
bcase (decide (x_28≥(32768:Int))) (
K (.tuple #[]) h_20) <|
∃ m_2,m_2<n_3/\J_1 m_2 [] h_20)
def arith_Decoder_renew (C:CallP) (d:Option Addr) (h:Heap) (K:VK) (Kp:PK):Prop :=
∃ J_1:Nat->List Value->Heap->Prop,(∃ n_3,J_1 n_3 [] h)/\∀ (n_3:Nat) (h_4:Heap) (u_5:Nat->Value) ,J_1 n_3 [] h_4->(
∃ K_6:List Value->Heap->Prop,(
ptr d fun a_9 =>
ldI h_4 (a_9.add 192) .i64 fun x_10 =>
bcase (x_10 == (0:Int)) (
C F_arith_Decoder_in #[.pointer d] h_4 (fun v_11 h_12 =>
K_6 [] h_12) (Kp)) <|
K_6 [] h_4)/\∀ (h_7:Heap) (u_8:Nat->Value) ,K_6 [] h_7->(
ptr d fun a_13 =>
ldI h_7 (a_13.add 190) .u32 fun x_14 =>
bindI (shlI .u32 x_14 (1:Int)) fun z_15 =>
ptr d fun a_16 =>
stV h_7 (a_16.add 190) (.int .u32 z_15) fun h_17 =>
ptr d fun a_18 =>
ldI h_17 (a_18.add 191) .u32 fun x_19 =>
bindI (shlI .u32 x_19 (1:Int)) fun z_20 =>
ptr d fun a_21 =>
stV h_17 (a_21.add 191) (.int .u32 z_20) fun h_22 =>
ptr d fun a_23 =>
ldI h_22 (a_23.add 192) .i64 fun x_24 =>
bindI (IntKind.i64.wrap (x_24-(1:Int))) fun z_25 =>
ptr d fun a_26 =>
stV h_22 (a_26.add 192) (.int .i64 z_25) fun h_27 =>
ptr d fun a_28 =>
ldI h_27 (a_28.add 190) .u32 fun x_29 =>
bcase (decide (x_29≥(32768:Int))) (
K (.tuple #[]) h_27) <|
∃ m_2,m_2<n_3/\J_1 m_2 [] h_27))
end Go.Den.YtbknfejmdekhpaaGreat
namespace Go.Den.YtbknfejmdekhpaaGreat
open Go Go.Den
theorem call_arith_New {contexts:Int} {h:Heap} {K:VK} {Kp:PK} (H:arith_New (CallsHP Go.Proofs.Tryz.prog) contexts h K Kp):CallsHP Go.Proofs.Tryz.prog F_arith_New #[.int .i64 contexts] h K Kp :=
 callsHP_ofE (Hints.mk (fun i=>none) (fun i=>none) (fun i=>none) []) (by kernel_rfl) Go.Proofs.Tryz.func46 (by kernel_rfl) (fun C=>arith_New C contexts h K Kp) (fun C=>by kernel_rfl) H
theorem call_arith_Coder_Flush {c:Option Addr} {h:Heap} {K:VK} {Kp:PK} (H:arith_Coder_Flush (CallsHP Go.Proofs.Tryz.prog) c h K Kp):CallsHP Go.Proofs.Tryz.prog F_arith_Coder_Flush #[.pointer c] h K Kp :=
 callsHP_ofE (Hints.mk (fun i=>bif Nat.beq i 4 then some ([], .take 0 <| .take 1 <| .take 2 <| .take 4 <| .take 5 <| .take 6 <| .take 3 <| .take 7 <| .take 8 <| .take 9 <| .done) else (bif Nat.beq i 10 then some ([11], .take 0 <| .take 1 <| .take 2 <| .take 4 <| .take 5 <| .take 6 <| .take 3 <| .take 7 <| .take 8 <| .take 9 <| .take 10 <| .bar 11 [] <| .done) else (none))) (fun i=>bif Nat.beq i 9 then some ([(42, .int .i64)],288225978105200640) else (none)) (fun i=>bif Nat.beq i 8 then some ([],4398042316800) else (none)) []) (by kernel_rfl) Go.Proofs.Tryz.func49 (by kernel_rfl) (fun C=>arith_Coder_Flush C c h K Kp) (fun C=>by kernel_rfl) H
theorem call_arith_NewDecoder {b:Option Addr} {bn:Nat} {bc:Nat} {contexts:Int} {h:Heap} {K:VK} {Kp:PK} (H:arith_NewDecoder (CallsHP Go.Proofs.Tryz.prog) b bn bc contexts h K Kp):CallsHP Go.Proofs.Tryz.prog F_arith_NewDecoder #[.slice b bn bc, .int .i64 contexts] h K Kp :=
 callsHP_ofE (Hints.mk (fun i=>bif Nat.beq i 4 then some ([4], .take 1 <| .take 0 <| .go 2 <| .take 3 <| .bar 4 [] <| .take 5 <| .done) else (none)) (fun i=>none) (fun i=>none) []) (by kernel_rfl) Go.Proofs.Tryz.func80 (by kernel_rfl) (fun C=>arith_NewDecoder C b bn bc contexts h K Kp) (fun C=>by kernel_rfl) H
theorem call_arith_made {contexts:Int} {h:Heap} {K:VK} {Kp:PK} (H:arith_made (CallsHP Go.Proofs.Tryz.prog) contexts h K Kp):CallsHP Go.Proofs.Tryz.prog F_arith_made #[.int .i64 contexts] h K Kp :=
 callsHP_ofE (Hints.mk (fun i=>bif Nat.beq i 3 then some ([4], .take 1 <| .alt 0 (.go 2 <| .take 3 <| .bar 4 [] <| .take 5 <| .done) <| .go 2 <| .go 0 <| .take 3 <| .bar 4 [] <| .take 5 <| .done) else (none)) (fun i=>none) (fun i=>none) []) (by kernel_rfl) Go.Proofs.Tryz.func92 (by kernel_rfl) (fun C=>arith_made C contexts h K Kp) (fun C=>by kernel_rfl) H
theorem call_arith_Coder_out {c:Option Addr} {h:Heap} {K:VK} {Kp:PK} (H:arith_Coder_out (CallsHP Go.Proofs.Tryz.prog) c h K Kp):CallsHP Go.Proofs.Tryz.prog F_arith_Coder_out #[.pointer c] h K Kp :=
 callsHP_ofE (Hints.mk (fun i=>bif Nat.beq i 0 then some ([], .take 0 <| .take 1 <| .take 2 <| .take 4 <| .take 5 <| .take 6 <| .take 3 <| .take 7 <| .take 8 <| .take 9 <| .take 10 <| .take 11 <| .done) else (bif Nat.beq i 7 then some ([13,16], .take 0 <| .take 1 <| .take 2 <| .take 3 <| .take 5 <| .take 6 <| .take 7 <| .take 9 <| .take 4 <| .take 8 <| .take 10 <| .take 11 <| .go 12 <| .bar 13 [16] <| .take 14 <| .take 15 <| .bar 16 [] <| .done) else (bif Nat.beq i 8 then some ([10], .take 0 <| .take 1 <| .take 2 <| .take 4 <| .take 5 <| .take 6 <| .take 3 <| .take 7 <| .take 8 <| .take 9 <| .bar 10 [] <| .done) else (none)))) (fun i=>none) (fun i=>bif Nat.beq i 2 then some ([(25, .bool)],67076096) else (bif Nat.beq i 4 then some ([],274877874176) else (bif Nat.beq i 7 then some ([(3, .int .i64)],34909494181896) else (none)))) []) (by kernel_rfl) Go.Proofs.Tryz.func96 (by kernel_rfl) (fun C=>arith_Coder_out C c h K Kp) (fun C=>by kernel_rfl) H
theorem call_arith_Decoder_byte {d:Option Addr} {i:Int} {h:Heap} {K:VK} {Kp:PK} (H:arith_Decoder_byte (CallsHP Go.Proofs.Tryz.prog) d i h K Kp):CallsHP Go.Proofs.Tryz.prog F_arith_Decoder_byte #[.pointer d, .int .i64 i] h K Kp :=
 callsHP_ofE (Hints.mk (fun i=>none) (fun i=>none) (fun i=>none) []) (by kernel_rfl) Go.Proofs.Tryz.func122 (by kernel_rfl) (fun C=>arith_Decoder_byte C d i h K Kp) (fun C=>by kernel_rfl) H
theorem call_arith_Decoder_in {d:Option Addr} {h:Heap} {K:VK} {Kp:PK} (H:arith_Decoder_in (CallsHP Go.Proofs.Tryz.prog) d h K Kp):CallsHP Go.Proofs.Tryz.prog F_arith_Decoder_in #[.pointer d] h K Kp :=
 callsHP_ofE (Hints.mk (fun i=>bif Nat.beq i 1 then some ([14], .take 0 <| .take 1 <| .take 2 <| .take 4 <| .take 5 <| .take 6 <| .take 7 <| .take 3 <| .take 8 <| .go 9 <| .take 10 <| .take 11 <| .take 12 <| .take 13 <| .bar 14 [] <| .done) else (bif Nat.beq i 5 then some ([14], .take 0 <| .take 1 <| .take 2 <| .take 4 <| .take 5 <| .take 6 <| .take 7 <| .take 3 <| .take 8 <| .go 9 <| .take 10 <| .take 11 <| .take 12 <| .take 13 <| .bar 14 [] <| .done) else (none))) (fun i=>none) (fun i=>none) []) (by kernel_rfl) Go.Proofs.Tryz.func123 (by kernel_rfl) (fun C=>arith_Decoder_in C d h K Kp) (fun C=>by kernel_rfl) H
theorem call_arith_rows  {h:Heap} {K:VK} {Kp:PK} (H:arith_rows (CallsHP Go.Proofs.Tryz.prog)  h K Kp):CallsHP Go.Proofs.Tryz.prog F_arith_rows #[] h K Kp :=
 callsHP_ofE (Hints.mk (fun i=>none) (fun i=>none) (fun i=>none) []) (by kernel_rfl) Go.Proofs.Tryz.func140 (by kernel_rfl) (fun C=>arith_rows C  h K Kp) (fun C=>by kernel_rfl) H
theorem call_arith_Coder_Put {c:Option Addr} {context:Int} {bit:Int} {h:Heap} {K:VK} {Kp:PK} (H:arith_Coder_Put (CallsHP Go.Proofs.Tryz.prog) c context bit h K Kp):CallsHP Go.Proofs.Tryz.prog F_arith_Coder_Put #[.pointer c, .int .i64 context, .int .i64 bit] h K Kp :=
 callsHP_ofE (Hints.mk (fun i=>bif Nat.beq i 9 then some ([9], .take 0 <| .take 1 <| .take 2 <| .take 4 <| .take 3 <| .take 5 <| .take 6 <| .take 7 <| .take 8 <| .bar 9 [] <| .done) else (bif Nat.beq i 12 then some ([9], .take 0 <| .take 1 <| .take 2 <| .take 4 <| .take 3 <| .take 5 <| .take 6 <| .take 7 <| .take 8 <| .bar 9 [] <| .done) else (bif Nat.beq i 14 then some ([], .take 0 <| .take 1 <| .take 2 <| .take 4 <| .take 3 <| .take 5 <| .take 6 <| .done) else (bif Nat.beq i 16 then some ([9], .take 0 <| .take 1 <| .take 2 <| .take 4 <| .take 3 <| .take 5 <| .take 6 <| .take 7 <| .take 8 <| .bar 9 [] <| .done) else (bif Nat.beq i 18 then some ([], .take 0 <| .take 1 <| .take 2 <| .take 4 <| .take 3 <| .take 5 <| .take 6 <| .done) else (bif Nat.beq i 19 then some ([9], .take 0 <| .take 1 <| .take 2 <| .take 4 <| .take 3 <| .take 5 <| .take 6 <| .take 7 <| .take 8 <| .bar 9 [] <| .done) else (none))))))) (fun i=>none) (fun i=>bif Nat.beq i 7 then some ([],268435008) else (none)) []) (by kernel_rfl) Go.Proofs.Tryz.func143 (by kernel_rfl) (fun C=>arith_Coder_Put C c context bit h K Kp) (fun C=>by kernel_rfl) H
theorem call_arith_table_Contexts {t:Option Addr} {h:Heap} {K:VK} {Kp:PK} (H:arith_table_Contexts (CallsHP Go.Proofs.Tryz.prog) t h K Kp):CallsHP Go.Proofs.Tryz.prog F_arith_table_Contexts #[.pointer t] h K Kp :=
 callsHP_ofE (Hints.mk (fun i=>none) (fun i=>none) (fun i=>none) []) (by kernel_rfl) Go.Proofs.Tryz.func146 (by kernel_rfl) (fun C=>arith_table_Contexts C t h K Kp) (fun C=>by kernel_rfl) H
theorem call_arith_Decoder_Get {d:Option Addr} {context:Int} {h:Heap} {K:VK} {Kp:PK} (H:arith_Decoder_Get (CallsHP Go.Proofs.Tryz.prog) d context h K Kp):CallsHP Go.Proofs.Tryz.prog F_arith_Decoder_Get #[.pointer d, .int .i64 context] h K Kp :=
 callsHP_ofE (Hints.mk (fun i=>bif Nat.beq i 6 then some ([9], .take 0 <| .take 1 <| .take 2 <| .take 4 <| .take 3 <| .take 5 <| .take 6 <| .take 7 <| .take 8 <| .bar 9 [] <| .done) else (bif Nat.beq i 7 then some ([], .take 0 <| .take 1 <| .take 2 <| .take 5 <| .take 3 <| .take 4 <| .take 6 <| .take 7 <| .take 8 <| .done) else (bif Nat.beq i 9 then some ([10], .take 0 <| .take 1 <| .take 2 <| .take 4 <| .take 3 <| .take 5 <| .take 6 <| .take 7 <| .take 8 <| .take 9 <| .bar 10 [] <| .done) else (bif Nat.beq i 12 then some ([], .take 0 <| .take 1 <| .take 2 <| .take 3 <| .take 5 <| .take 4 <| .take 6 <| .take 7 <| .take 8 <| .done) else (none))))) (fun i=>none) (fun i=>bif Nat.beq i 12 then some ([],9444696936942271463472) else (bif Nat.beq i 16 then some ([(8, .int .i64)],1237930594552414535608697088) else (none))) []) (by kernel_rfl) Go.Proofs.Tryz.func169 (by kernel_rfl) (fun C=>arith_Decoder_Get C d context h K Kp) (fun C=>by kernel_rfl) H
theorem call_arith_table_at {t:Option Addr} {context:Int} {h:Heap} {K:VK} {Kp:PK} (H:arith_table_at (CallsHP Go.Proofs.Tryz.prog) t context h K Kp):CallsHP Go.Proofs.Tryz.prog F_arith_table_at #[.pointer t, .int .i64 context] h K Kp :=
 callsHP_ofE (Hints.mk (fun i=>bif Nat.beq i 2 then some ([], .take 0 <| .take 1 <| .take 2 <| .take 4 <| .take 5 <| .take 6 <| .take 7 <| .take 8 <| .take 9 <| .take 10 <| .take 3 <| .take 11 <| .take 12 <| .done) else (bif Nat.beq i 3 then some ([11], .take 0 <| .take 1 <| .take 2 <| .take 3 <| .take 6 <| .take 7 <| .take 10 <| .take 4 <| .take 5 <| .take 8 <| .take 9 <| .bar 11 [] <| .done) else (none))) (fun i=>none) (fun i=>none) []) (by kernel_rfl) Go.Proofs.Tryz.func180 (by kernel_rfl) (fun C=>arith_table_at C t context h K Kp) (fun C=>by kernel_rfl) H
theorem call_arith_likely {s:Option Addr} {r_1:Int} {r_2:Int} {r_3:Int} {r_4:Int} {h:Heap} {K:VK} {Kp:PK} (H:arith_likely (CallsHP Go.Proofs.Tryz.prog) s r_1 r_2 r_3 r_4 h K Kp):CallsHP Go.Proofs.Tryz.prog F_arith_likely #[.pointer s, .agg #[.int .u32 r_1, .int .u8 r_2, .int .u8 r_3, .int .u8 r_4]] h K Kp :=
 callsHP_ofE (Hints.mk (fun i=>bif Nat.beq i 1 then some ([10], .take 0 <| .take 1 <| .take 4 <| .take 5 <| .take 2 <| .take 3 <| .take 6 <| .take 7 <| .take 8 <| .take 9 <| .bar 10 [] <| .done) else (none)) (fun i=>none) (fun i=>none) []) (by kernel_rfl) Go.Proofs.Tryz.func181 (by kernel_rfl) (fun C=>arith_likely C s r_1 r_2 r_3 r_4 h K Kp) (fun C=>by kernel_rfl) H
theorem call_arith_unlikely {s:Option Addr} {r_1:Int} {r_2:Int} {r_3:Int} {r_4:Int} {h:Heap} {K:VK} {Kp:PK} (H:arith_unlikely (CallsHP Go.Proofs.Tryz.prog) s r_1 r_2 r_3 r_4 h K Kp):CallsHP Go.Proofs.Tryz.prog F_arith_unlikely #[.pointer s, .agg #[.int .u32 r_1, .int .u8 r_2, .int .u8 r_3, .int .u8 r_4]] h K Kp :=
 callsHP_ofE (Hints.mk (fun i=>bif Nat.beq i 1 then some ([13], .take 0 <| .take 1 <| .take 4 <| .take 5 <| .take 9 <| .take 2 <| .take 3 <| .take 6 <| .take 7 <| .take 8 <| .take 10 <| .take 11 <| .take 12 <| .bar 13 [] <| .done) else (none)) (fun i=>none) (fun i=>none) []) (by kernel_rfl) Go.Proofs.Tryz.func182 (by kernel_rfl) (fun C=>arith_unlikely C s r_1 r_2 r_3 r_4 h K Kp) (fun C=>by kernel_rfl) H
theorem call_arith_Coder_renew {c:Option Addr} {h:Heap} {K:VK} {Kp:PK} (H:arith_Coder_renew (CallsHP Go.Proofs.Tryz.prog) c h K Kp):CallsHP Go.Proofs.Tryz.prog F_arith_Coder_renew #[.pointer c] h K Kp :=
 callsHP_ofE (Hints.mk (fun i=>none) (fun i=>bif Nat.beq i 0 then some ([],34359738364) else (none)) (fun i=>none) []) (by kernel_rfl) Go.Proofs.Tryz.func183 (by kernel_rfl) (fun C=>arith_Coder_renew C c h K Kp) (fun C=>by kernel_rfl) H
theorem call_arith_Decoder_renew {d:Option Addr} {h:Heap} {K:VK} {Kp:PK} (H:arith_Decoder_renew (CallsHP Go.Proofs.Tryz.prog) d h K Kp):CallsHP Go.Proofs.Tryz.prog F_arith_Decoder_renew #[.pointer d] h K Kp :=
 callsHP_ofE (Hints.mk (fun i=>none) (fun i=>bif Nat.beq i 0 then some ([],34359738364) else (none)) (fun i=>bif Nat.beq i 2 then some ([],508) else (none)) []) (by kernel_rfl) Go.Proofs.Tryz.func195 (by kernel_rfl) (fun C=>arith_Decoder_renew C d h K Kp) (fun C=>by kernel_rfl) H
end Go.Den.YtbknfejmdekhpaaGreat
namespace Go.Ar
open Go Go.Den Go.Den.YtbknfejmdekhpaaGreat
def u8s (l:List Nat):List Value:=l.map fun x:Nat => .int .u8 (x:Int)
theorem u8s_length (l:List Nat):(u8s l).length=l.length:=by simp [u8s]
theorem u8s_get {l:List Nat} {i x:Nat} (h:l[i]? = some x):(u8s l)[i]? = some (.int .u8 (x:Int)):=by
 unfold u8s; rw [List.getElem?_map,h]; rfl
theorem u8s_set (l:List Nat) (i x:Nat):u8s (l.set i x)=(u8s l).set i (.int .u8 (x:Int)):=by simp [u8s,List.map_set]
theorem u8s_cells (l:List Nat):∀ v∈u8s l,v.oneCell'=true:=fun v hv=>by
 obtain ⟨x,_,rfl⟩:=List.mem_map.1 hv; rfl
theorem get_app {R T:List Value} {i:Nat} {v:Value} (h:R[i]? = some v):(R++T)[i]? = some v:=by
 rw [List.getElem?_append_left (List.getElem?_eq_some_iff.1 h).1]; exact h
theorem set_app {R T:List Value} {i:Nat} {v:Value} (h:i<R.length):(R++T).set i v=R.set i v++T:=List.set_append_left _ _ h
def rowC (r:Nat):List Value:=[.int .u32 (qOf r:Nat), .int .u8 (mOf r:Nat), .int .u8 (lOf r:Nat), .int .u8 (cOf r:Nat)]
def rowsN:Nat->List Value
 | 0=>[]
 | n+1=>rowsN n++rowC n
theorem rowsN_length:∀ n,(rowsN n).length=4*n
 | 0=>rfl
 | n+1=>by rw [rowsN,List.length_append,rowsN_length n]; show 4*n+4=_; omega
theorem rowsN_get:∀ {n r j:Nat} {v:Value},r<n->(rowC r)[j]? = some v->(rowsN n)[4*r+j]? = some v
 | 0,r,j,v,h,_=>by omega
 | n+1,r,j,v,h,hv=>by
  rw [rowsN]
  have hj:j<4:=(List.getElem?_eq_some_iff.1 hv).1
  rcases Nat.lt_or_ge r n with h1 | h1
  ·exact get_app (rowsN_get h1 hv)
  ·have:r=n:=by omega
   subst this
   exact app_get (rowsN_length r) j hv
def rowsV:List Value:=rowsN 47
theorem hR:rowsV.length=188:=rowsN_length 47
def crest (q:Nat) (nst n a c:Nat) (t:Int) (r:Nat) (bl bc:Nat) (done:Bool):List Value :=
 [.slice (some ⟨q,0,none⟩) nst nst, .int .i64 (n:Nat), .int .u32 (a:Nat), .int .u32 (c:Nat), .int .i64 t, .slice (some ⟨r,0,none⟩) bl bc, .bool done]
def codE (p q r:Nat) (s:Cod) (rest:List Value):Ent :=
 ⟨p,true,T_arith_Coder,rowsV++crest q s.st.length s.n s.a s.c (s.t:Nat) r (s.bs.length+1) (s.bs.length+1+rest.length) s.done⟩
def codL (p q r:Nat) (s:Cod) (rest:List Value):List Ent :=
 [codE p q r s rest,⟨q,true,T_uint8,u8s s.st⟩,⟨r,true,T_uint8,u8s (s.bs++[s.l])++rest⟩]
abbrev CP:CallP:=CallsHP Go.Proofs.Tryz.prog
abbrev at0 (p:Nat):Option Addr:=some ⟨p,0,none⟩
theorem last_get (bs:List Nat) (l:Nat) (rest:List Value):(u8s (bs++[l])++rest)[bs.length]? = some (.int .u8 (l:Int)):=get_app (u8s_get (by simp))
theorem last_set (bs:List Nat) (l l':Nat) (rest:List Value):(u8s (bs++[l])++rest).set bs.length (.int .u8 (l':Int))=u8s (bs++[l'])++rest:=by
 rw [set_app (by rw [u8s_length]; simp),<- u8s_set]
 simp
theorem out_ok {h:Heap} {p q r:Nat} {s:Cod} {rest:List Value} {F:List Nat} {h0:Heap} (H:Hp h0 F h (codL p q r s rest)) (hl:s.l<256) (hc:s.c<4294967296) (hb:s.bs.length<1000000000)
  {K:VK} {Kp:PK} (hk:∀ r' rest' h',Hp h0 F h' (codL p q r' (outM s) rest')->K (.tuple #[]) h') :
  CP F_arith_Coder_out #[.pointer (at0 p)] h K Kp:=by
 refine call_arith_Coder_out ?_
 unfold arith_Coder_out
 try simp only [ptr_some_eq,add_mk,Nat.zero_add,Nat.add_zero]
 refine ldS_of (H.cell 0 rfl (app_get hR 5 rfl)) ?_
 refine ldS_of (H.cell 0 rfl (app_get hR 5 rfl)) ?_
 refine bindI_of (((s.bs.length:Nat):Int)) (by exact i64_at _ _ (by omega) (by omega) (by omega)) ?_
 refine needs_of (by constructor <;> omega) ?_
 try simp only [ptr_some_eq,add_mk,Nat.zero_add,Nat.add_zero]
 simp only [Int.toNat_natCast,Nat.mul_one]
 refine ⟨fun vs h'=>vs=[]/\Hp h0 F h' (codL p q r (if s.l≠255/\134217728<=s.c then { s with l:=s.l+1,c:=s.c % 134217728 } else s) rest),?_,?_⟩
 ·refine ⟨fun vs h'=>vs=[.bool (decide (s.l≠255/\134217728<=s.c))]/\h'=h,?_,?_⟩
  ·refine ldI_of (H.cell 2 rfl (last_get _ _ _)) ?_
   refine bcase_of (fun h1=>?_) fun h1=>?_
   ·refine ldI_of (H.cell 0 rfl (app_get hR 3 rfl)) ?_
    refine ⟨?_,rfl⟩
    have h1:s.l≠255:=by simp at h1; omega
    congr 2
    simp [h1]
    omega
   ·refine ⟨?_,rfl⟩
    have h1:s.l=255:=by simp at h1; omega
    simp [h1]
  ·rintro h' u x ⟨hx,rfl⟩
   injection hx with hx
   injection hx with hx
   subst hx
   refine bcase_of (fun h1=>?_) fun h1=>?_
   ·have h1:s.l≠255/\134217728<=s.c:=of_decide_eq_true h1
    refine ldI_of (H.cell 2 rfl (last_get _ _ _)) ?_
    refine bindI_of (((s.l+1:Nat):Int)) (by rw [<- u8_in (s.l+1) (by omega)]; rfl) ?_
    refine stV_hp H 2 rfl (by simp [u8s_length]; omega) rfl fun h hsz H=>?_
    rw [last_set] at H
    refine ldI_of (H.cell 0 rfl (app_get hR 3 rfl)) ?_
    refine bindI_of (((s.c % 134217728:Nat):Int)) (by exact (and32 _ 134217727 (by omega) (by omega)).trans (by congr 1; exact Nat.and_two_pow_sub_one_eq_mod s.c 27)) ?_
    refine stV_hr H 0 rfl hR 3 (Nat.le_of_ble_eq_true rfl) rfl fun h hsz H=>?_
    refine ⟨rfl,?_⟩
    rw [if_pos h1]
    exact H
   ·have h1:¬ (s.l≠255/\134217728<=s.c):=of_decide_eq_false h1
    refine ⟨rfl,?_⟩
    rw [if_neg h1]
    exact H
 ·rintro h' u ⟨_,H'⟩
  have e:outM s=outTail (if s.l≠255/\134217728<=s.c then { s with l:=s.l+1,c:=s.c % 134217728 } else s) (if s.l≠255/\134217728<=s.c then { s with l:=s.l+1,c:=s.c % 134217728 } else s).l (if s.l≠255/\134217728<=s.c then { s with l:=s.l+1,c:=s.c % 134217728 } else s).c:=by
   unfold outM; split <;> rfl
  have hs':(if s.l≠255/\134217728<=s.c then { s with l:=s.l+1,c:=s.c % 134217728 } else s).l<256/\(if s.l≠255/\134217728<=s.c then { s with l:=s.l+1,c:=s.c % 134217728 } else s).c<4294967296/\(if s.l≠255/\134217728<=s.c then { s with l:=s.l+1,c:=s.c % 134217728 } else s).bs=s.bs:=by
   split
   ·exact ⟨by show s.l+1<256; omega,by show s.c % 134217728<_; omega,rfl⟩
   ·exact ⟨hl,hc,rfl⟩
  generalize (if s.l≠255/\134217728<=s.c then { s with l:=s.l+1,c:=s.c % 134217728 } else s)=s' at e hs' H'
  clear H
  obtain ⟨hl',hc',hb'⟩:=hs'
  rw [e] at hk
  rw [<- hb'] at hb ⊢
  have H:=H'
  clear H'
  refine ⟨fun vs h''=>vs=[.int .i64 ((if s'.l=255 then 20 else 19:Nat):Int)]/\h''=h',?_,?_⟩
  ·refine ldI_of (H.cell 2 rfl (last_get _ _ _)) ?_
   refine bcase_of (fun h1=>?_) fun h1=>?_
   ·refine bindI_of ((19:Int)) (by decide) ?_
    have h1:s'.l≠255:=by simp at h1; omega
    exact ⟨by rw [if_neg h1]; rfl,rfl⟩
   ·have h1:s'.l=255:=by simp at h1; omega
    exact ⟨by rw [if_pos h1]; rfl,rfl⟩
  ·rintro h'' u x ⟨hx,rfl⟩
   injection hx with hx
   injection hx with _ hx
   have hn:∃ i:Nat,(i=20/\s'.l=255\/i=19/\s'.l≠255)/\x=((i:Nat):Int):=by
    by_cases h1:s'.l=255
    ·rw [if_pos h1] at hx; exact ⟨20, .inl ⟨rfl,h1⟩,hx⟩
    ·rw [if_neg h1] at hx; exact ⟨19, .inr ⟨rfl,h1⟩,hx⟩
   clear hx
   obtain ⟨i,hi,rfl⟩:=hn
   have hi20:i<=20:=by omega
   have hi0:19<=i:=by omega
   refine ldS_of (H.cell 0 rfl (app_get hR 5 rfl)) ?_
   refine ldI_of (H.cell 0 rfl (app_get hR 3 rfl)) ?_
   refine needs_of (by omega) ?_
   refine bindI_of (((s'.c / 2 ^ i:Nat):Int)) (by exact shr_of (by show i<=32; omega)) ?_
   refine bindI_of (((s'.c / 2 ^ i % 256:Nat):Int)) (by rw [IntKind.wrap_u8]; omega) ?_
   refine newC_hp H fun b h H=>?_
   refine appC_own H 2 rfl (xs:=u8s (s'.bs++[s'.l])) (by rw [u8s_length]; simp) (by rw [List.length_append,u8s_length]; simp) (rdO_hp (o:=0) (n:=1*1) H 3 rfl (Nat.le_refl _)) rfl (fun v hv=>by rw [List.mem_singleton.1 hv]; rfl) (by omega) fun r' rest' h H=>?_
   refine stV_hr H 0 rfl hR 5 (Nat.le_of_ble_eq_true rfl) rfl fun h hsz H=>?_
   refine needs_of (by omega) ?_
   have hp:(2:Nat) ^ i<4294967296:=by rcases hi with ⟨rfl,_⟩ | ⟨rfl,_⟩ <;> decide
   have hp0:0<(2:Nat) ^ i:=Nat.two_pow_pos i
   refine bindI_of (((2 ^ i:Nat):Int)) (by exact shl_of (x:=1) (by show i<=32; omega) (by rw [Nat.one_mul]; exact u32_in _ hp)) ?_
   refine bindI_of (((2 ^ i-1:Nat):Int)) (by exact u32_at _ _ (by omega) (by omega)) ?_
   refine ldI_of (H.cell 0 rfl (app_get hR 3 rfl)) ?_
   refine bindI_of (((s'.c % 2 ^ i:Nat):Int)) (by exact (and32 _ _ hc' (by omega)).trans (by rw [Nat.and_two_pow_sub_one_eq_mod])) ?_
   refine stV_hr H 0 rfl hR 3 (Nat.le_of_ble_eq_true rfl) rfl fun h hsz H=>?_
   refine bindI_of (((27-i:Nat):Int)) (by exact i64_at _ _ (by omega) (by omega) (by omega)) ?_
   refine stV_hr H 0 rfl hR 4 (Nat.le_of_ble_eq_true rfl) rfl fun h hsz H=>?_
   refine hk r' rest' _ ?_
   have H2:=H.take 3
   have e2:outTail s' s'.l s'.c = { s' with bs:=s'.bs++[s'.l],l:=s'.c / 2 ^ i % 256,c:=s'.c % 2 ^ i,t:=27-i }:=by
    unfold outTail
    rcases hi with ⟨rfl,h1⟩ | ⟨rfl,h1⟩
    ·rw [if_pos h1]
    ·rw [if_neg h1]
   rw [e2]
   refine H2.as ?_
   simp [codL,codE,crest,u8s]
   omega
theorem shiftM_eq (s:Cod):shiftM s=if s.t-1=0 then outM { s with a:=2*s.a,c:=2*s.c,t:=s.t-1 } else { s with a:=2*s.a,c:=2*s.c,t:=s.t-1 }:=rfl
theorem renewM_succ (n:Nat) (s:Cod):renewM (n+1) s=if 0x8000<=(shiftM s).a then shiftM s else renewM n (shiftM s):=rfl
theorem renew_ok {h:Heap} {p q r:Nat} {s:Cod} {rest:List Value} {F:List Nat} {h0:Heap} (H:Hp h0 F h (codL p q r s rest)) (hs:Mid s) (ha:1<=s.a) (ha':s.a<0x8000) (hb:s.bs.length<999999983)
  {K:VK} {Kp:PK} (hk:∀ r' rest' h',Hp h0 F h' (codL p q r' (renewM 17 s) rest')->K (.tuple #[]) h') :
  CP F_arith_Coder_renew #[.pointer (at0 p)] h K Kp:=by
 refine call_arith_Coder_renew ?_
 unfold arith_Coder_renew
 refine ⟨fun n vs h'=>∃ (s':Cod) (r':Nat) (rest':List Value),Hp h0 F h' (codL p q r' s' rest')/\Mid s'/\s'.a<0x8000/\0x8000<=s'.a*2 ^ n/\renewM n s'=renewM 17 s/\s'.bs.length+n<1000000000,
  ⟨17,s,r,rest,H,hs,ha',by have:(2:Nat) ^ 17=131072:=rfl; omega,rfl,by omega⟩,?_⟩
 clear H
 rintro n h u ⟨s',r',rest',H,hm,hlt,hge,he,hbn⟩
 obtain ⟨n,rfl⟩:∃ m,n=m+1:=by
  cases n with
  | zero=>simp at hge; omega
  | succ m=>exact ⟨m,rfl⟩
 have ht1:=hm.t1
 have ht2:=hm.t12
 have hca:=hm.ca
 have hcp:=pow_le ht1
 obtain ⟨g1,g2,g3,g4,g5,g6⟩:=shiftM_mid hm hlt
 have hnext:0x8000<=(shiftM s').a*2 ^ n:=by
  rw [g2]
  rw [Nat.pow_succ] at hge
  have:s'.a*(2 ^ n*2)=2*s'.a*2 ^ n:=by rw [Nat.mul_comm (2 ^ n) 2,<- Nat.mul_assoc,Nat.mul_comm s'.a 2]
  omega
 rw [renewM_succ] at he
 try simp only [ptr_some_eq,add_mk,Nat.zero_add,Nat.add_zero]
 refine ldI_of (H.cell 0 rfl (app_get hR 2 rfl)) ?_
 refine bindI_of (((2*s'.a:Nat):Int)) (by exact shl_of (i:=1) (by decide) ((u32_in _ (by omega)).trans (by omega))) ?_
 refine stV_hr H 0 rfl hR 2 (Nat.le_of_ble_eq_true rfl) rfl fun h hsz H=>?_
 refine ldI_of (H.cell 0 rfl (app_get hR 3 rfl)) ?_
 refine bindI_of (((2*s'.c:Nat):Int)) (by exact shl_of (i:=1) (by decide) ((u32_in _ (by omega)).trans (by omega))) ?_
 refine stV_hr H 0 rfl hR 3 (Nat.le_of_ble_eq_true rfl) rfl fun h hsz H=>?_
 refine ldI_of (H.cell 0 rfl (app_get hR 4 rfl)) ?_
 refine bindI_of (((s'.t-1:Nat):Int)) (by exact i64_at _ _ (by omega) (by omega) (by omega)) ?_
 refine stV_hr H 0 rfl hR 4 (Nat.le_of_ble_eq_true rfl) rfl fun h hsz H=>?_
 refine ldI_of (H.cell 0 rfl (app_get hR 4 rfl)) ?_
 refine bcase_of (fun h1=>?_) fun h1=>?_
 ·have h1:s'.t-1=0:=by simp at h1; omega
  rw [shiftM_eq,if_pos h1] at g1 g2 g3 g4 g5 g6 hnext he
  have H2:Hp h0 F _ (codL p q r' { s' with a:=2*s'.a,c:=2*s'.c,t:=s'.t-1 } rest'):=H
  refine out_ok H2 hm.l (by show 2*s'.c<_; omega) (by show s'.bs.length<_; omega) fun r2 rest2 h2 H=>?_
  refine ldI_of (H.cell 0 rfl (app_get hR 2 rfl)) ?_
  refine bcase_of (fun h3=>?_) fun h3=>?_
  ·have h3:0x8000<=(outM { s' with a:=2*s'.a,c:=2*s'.c,t:=s'.t-1 }).a:=by simp at h3; omega
   rw [if_pos h3] at he
   exact hk r2 rest2 _ (he ▸ H)
  ·have h3:¬ 0x8000<=(outM { s' with a:=2*s'.a,c:=2*s'.c,t:=s'.t-1 }).a:=by simp at h3; omega
   rw [if_neg h3] at he
   exact ⟨n,Nat.lt_succ_self n,_,r2,rest2,H,g1,by omega,hnext,he,by omega⟩
 ·have h1:¬ s'.t-1=0:=by simp at h1; omega
  rw [shiftM_eq,if_neg h1] at g1 g2 g3 g4 g5 g6 hnext he
  have H2:Hp h0 F _ (codL p q r' { s' with a:=2*s'.a,c:=2*s'.c,t:=s'.t-1 } rest'):=H
  refine ldI_of (H.cell 0 rfl (app_get hR 2 rfl)) ?_
  refine bcase_of (fun h3=>?_) fun h3=>?_
  ·have h3:0x8000<=2*s'.a:=by simp at h3; omega
   rw [if_pos h3] at he
   exact hk r' rest' _ (he ▸ H2)
  ·have h3:¬ 0x8000<=2*s'.a:=by simp at h3; omega
   rw [if_neg h3] at he
   exact ⟨n,Nat.lt_succ_self n,_,r',rest',H2,g1,by omega,hnext,he,by show s'.bs.length+n<_; omega⟩
theorem likely_ok {h:Heap} {q i x:Nat} {st:List Nat} {F:List Nat} {h0:Heap} {L:List Ent} (H:Hp h0 F h L) (k:Nat) (hq:L[k]? = some ⟨q,true,T_uint8,u8s st⟩) (hi:st[i]? = some x) (hx:x<94) {a b c d:Int}
  (hb:b=(mOf (x / 2):Nat)) {K:VK} {Kp:PK} (hk:∀ h',Hp h0 F h' (L.set k ⟨q,true,T_uint8,u8s (st.set i (upM x))⟩)->K (.tuple #[]) h') :
  CP F_arith_likely #[.pointer (some ⟨q,i,none⟩), .agg #[.int .u32 a, .int .u8 b, .int .u8 c, .int .u8 d]] h K Kp:=by
 refine call_arith_likely ?_
 unfold arith_likely
 have hm:=mOf_lt (r:=x / 2) (by omega)
 have hkl:k<L.length:=(List.getElem?_eq_some_iff.1 hq).1
 have hil:i<st.length:=(List.getElem?_eq_some_iff.1 hi).1
 subst hb
 refine newC_hp H fun b h H=>?_
 have hq2:(L++[(⟨b,true,T_arith_row,[.int .u32 a, .int .u8 (mOf (x / 2):Nat), .int .u8 c, .int .u8 d]⟩:Ent)])[k]? = some ⟨q,true,T_uint8,u8s st⟩:=by rw [List.getElem?_append_left hkl]; exact hq
 try simp only [ptr_some_eq,add_mk,Nat.zero_add,Nat.add_zero]
 refine ldI_of (H.cell L.length List.getElem?_concat_length rfl) ?_
 refine bindI_of (((2*mOf (x / 2):Nat):Int)) (by exact shl_of (i:=1) (by decide) ((u8_in _ (by omega)).trans (by omega))) ?_
 refine ldI_of (H.cell k hq2 (u8s_get hi)) ?_
 refine bindI_of (((x % 2:Nat):Int)) (by exact (and8 _ 1 (by omega) (by omega)).trans (by rw [Nat.and_one_is_mod])) ?_
 refine bindI_of (((upM x:Nat):Int)) (by exact (or8 _ _ (by omega) (by omega)).trans (by congr 1; exact (Nat.two_pow_add_eq_or_of_lt (i:=1) (by omega) _).symm)) ?_
 refine stV_hp H k hq2 (by rw [u8s_length]; exact hil) rfl fun h hsz H=>?_
 refine hk _ ?_
 have H2:=H.take L.length
 refine H2.as ?_
 rw [<- u8s_set,List.set_append_left _ _ hkl,List.take_left' (by simp)]
theorem unlikely_ok {h:Heap} {q i x:Nat} {st:List Nat} {F:List Nat} {h0:Heap} {L:List Ent} (H:Hp h0 F h L) (k:Nat) (hq:L[k]? = some ⟨q,true,T_uint8,u8s st⟩) (hi:st[i]? = some x) (hx:x<94) {a b c d:Int}
  (hc:c=(lOf (x / 2):Nat)) (hd:d=(cOf (x / 2):Nat)) {K:VK} {Kp:PK} (hk:∀ h',Hp h0 F h' (L.set k ⟨q,true,T_uint8,u8s (st.set i (upL x))⟩)->K (.tuple #[]) h') :
  CP F_arith_unlikely #[.pointer (some ⟨q,i,none⟩), .agg #[.int .u32 a, .int .u8 b, .int .u8 c, .int .u8 d]] h K Kp:=by
 refine call_arith_unlikely ?_
 unfold arith_unlikely
 have hm:=lOf_lt (r:=x / 2) (by omega)
 have hm2:=cOf_le (r:=x / 2) (by omega)
 have hkl:k<L.length:=(List.getElem?_eq_some_iff.1 hq).1
 have hil:i<st.length:=(List.getElem?_eq_some_iff.1 hi).1
 subst hc hd
 refine newC_hp H fun b' h H=>?_
 have hq2:(L++[(⟨b',true,T_arith_row,[.int .u32 a, .int .u8 b, .int .u8 (lOf (x / 2):Nat), .int .u8 (cOf (x / 2):Nat)]⟩:Ent)])[k]? = some ⟨q,true,T_uint8,u8s st⟩:=by rw [List.getElem?_append_left hkl]; exact hq
 try simp only [ptr_some_eq,add_mk,Nat.zero_add,Nat.add_zero]
 refine ldI_of (H.cell L.length List.getElem?_concat_length rfl) ?_
 refine bindI_of (((2*lOf (x / 2):Nat):Int)) (by exact shl_of (i:=1) (by decide) ((u8_in _ (by omega)).trans (by omega))) ?_
 refine ldI_of (H.cell k hq2 (u8s_get hi)) ?_
 refine bindI_of (((x % 2:Nat):Int)) (by exact (and8 _ 1 (by omega) (by omega)).trans (by rw [Nat.and_one_is_mod])) ?_
 refine bindI_of (((2*lOf (x / 2)+x % 2:Nat):Int)) (by exact (or8 _ _ (by omega) (by omega)).trans (by congr 1; exact (Nat.two_pow_add_eq_or_of_lt (i:=1) (by omega) _).symm)) ?_
 refine ldI_of (H.cell L.length List.getElem?_concat_length rfl) ?_
 have hxor:(2*lOf (x / 2)+x % 2) ^^^ cOf (x / 2)=upL x:=by
  have e0:x % 2<2:=Nat.mod_lt _ (by omega)
  unfold upL
  generalize lOf (x / 2)=l at hm ⊢
  generalize cOf (x / 2)=c at hm2 ⊢
  generalize x % 2=y at e0 ⊢
  have:∀ l∈List.range 47,∀ y∈List.range 2,∀ c∈List.range 2,(2*l+y) ^^^ c=2*l+(y+c) % 2:=by decide
  exact this l (List.mem_range.2 hm) y (List.mem_range.2 e0) c (List.mem_range.2 (by omega))
 refine bindI_of (((upL x:Nat):Int)) (by exact (xor8 _ _ (by omega) (by omega)).trans (by rw [hxor])) ?_
 refine stV_hp H k hq2 (by rw [u8s_length]; exact hil) rfl fun h hsz H=>?_
 refine hk _ ?_
 have H2:=H.take L.length
 refine H2.as ?_
 rw [<- u8s_set,List.set_append_left _ _ hkl,List.take_left' (by simp)]
def idx (ctx:Int) (n:Nat):Nat:=(ctx % (n:Int)).toNat
theorem idx_lt (ctx:Int) {n:Nat} (hn:1<=n):idx ctx n<n:=by
 unfold idx
 have h1:=Int.emod_nonneg ctx (b:=(n:Int)) (by omega)
 have h2:=Int.emod_lt_of_pos ctx (b:=(n:Int)) (by omega)
 omega
theorem tmod_abs (ctx:Int) {n:Nat} (hn:1<=n):-(n:Int)<ctx.tmod n/\ctx.tmod n<n:=by
 constructor
 ·have h1:=Int.lt_tmod_of_pos ctx (b:=(n:Int)) (by omega)
  exact h1
 ·exact Int.tmod_lt_of_pos ctx (by omega)
theorem idx_eq (ctx:Int) {n:Nat} (hn:1<=n):(ctx.tmod n+n).tmod n=((idx ctx n:Nat):Int):=by
 have h1:=Int.emod_nonneg ctx (b:=(n:Int)) (by omega)
 have h3:=tmod_abs ctx hn
 have e1:((idx ctx n:Nat):Int)=ctx % n:=by unfold idx; omega
 rw [e1,Int.tmod_eq_emod_of_nonneg (by omega),Int.add_emod_right,Int.tmod_eq_emod]
 split
 ·rw [show ((0:Nat):Int)=0 from rfl,Int.sub_zero,Int.emod_emod_of_dvd _ (Int.dvd_refl _)]
 ·have:((n:Int).natAbs:Int)=n:=by omega
  rw [this,Int.sub_emod_right,Int.emod_emod_of_dvd _ (Int.dvd_refl _)]
theorem at_ok {h:Heap} {p q:Nat} {st:List Nat} {F:List Nat} {h0:Heap} {L:List Ent} (H:Hp h0 F h L) (kp kq:Nat) {w:Bool} {t:TypeId} {T:List Value} (hp:L[kp]? = some ⟨p,w,t,rowsV++(.slice (some ⟨q,0,none⟩) st.length st.length::T)⟩)
  (hq:L[kq]? = some ⟨q,true,T_uint8,u8s st⟩) (hn:1<=st.length) (hn2:st.length<=131072) (hst:∀ x∈st,x<94) {ctx:Int} {K:VK} {Kp:PK}
  (hk:∀ h' x,st[idx ctx st.length]? = some x->x<94->Hp h0 F h' L->K (.tuple #[.pointer (some ⟨q,idx ctx st.length,none⟩), .agg #[.int .u32 (qOf (x / 2):Nat), .int .u8 (mOf (x / 2):Nat), .int .u8 (lOf (x / 2):Nat), .int .u8 (cOf (x / 2):Nat)]]) h') :
  CP F_arith_table_at #[.pointer (at0 p), .int .i64 ctx] h K Kp:=by
 refine call_arith_table_at ?_
 unfold arith_table_at
 have hi:=idx_lt ctx hn
 have habs:=tmod_abs ctx hn
 obtain ⟨x,hx⟩:∃ x,st[idx ctx st.length]? = some x:=⟨_,List.getElem?_eq_getElem hi⟩
 have hx94:x<94:=hst x (List.mem_of_getElem? hx)
 have hkp:kp<L.length:=(List.getElem?_eq_some_iff.1 hp).1
 have hkq:kq<L.length:=(List.getElem?_eq_some_iff.1 hq).1
 refine newC_hp H fun b h H=>?_
 have hp2:∀ e,(L++[e])[kp]? = some ⟨p,w,t,rowsV++(.slice (some ⟨q,0,none⟩) st.length st.length::T)⟩:=fun e=>by rw [List.getElem?_append_left hkp]; exact hp
 have hq2:∀ e,(L++[e])[kq]? = some ⟨q,true,T_uint8,u8s st⟩:=fun e=>by rw [List.getElem?_append_left hkq]; exact hq
 try simp only [ptr_some_eq,add_mk,Nat.zero_add,Nat.add_zero]
 refine ldS_of (H.cell kp (hp2 _) (app_get hR 0 rfl)) ?_
 refine needs_of (by exact ⟨trivial,by omega⟩) ?_
 refine bindI_gen fun z6 e6=>?_
 subst e6
 refine bindI_of (ctx.tmod st.length+st.length) (i64_in _ (by omega) (by omega)) ?_
 refine needs_of (by exact ⟨trivial,by omega⟩) ?_
 refine bindI_of _ (idx_eq ctx hn) ?_
 refine ldS_of (H.cell kp (hp2 _) (app_get hR 0 rfl)) ?_
 refine needs_of (by omega) ?_
 simp only [Int.toNat_natCast,Nat.mul_one]
 try simp only [ptr_some_eq,add_mk,Nat.zero_add,Nat.add_zero]
 refine ldI_of (H.cell kq (hq2 _) (u8s_get hx)) ?_
 refine bindI_of (((x / 2:Nat):Int)) (by exact shr_of (i:=1) (by decide)) ?_
 refine needs_of (by omega) ?_
 simp only [Int.toNat_natCast]
 have hr:x / 2<47:=by omega
 have hrow:∀ j v,(rowC (x / 2))[j]? = some v->(rowsV++(.slice (some ⟨q,0,none⟩) st.length st.length::T))[x / 2*4+j]? = some v:=fun j v hv=>get_app (by rw [Nat.mul_comm]; exact rowsN_get hr hv)
 refine ldI_of (H.cell kp (hp2 _) (hrow 0 _ rfl)) ?_
 refine ldI_of (H.cell kp (hp2 _) (hrow 1 _ rfl)) ?_
 refine ldI_of (H.cell kp (hp2 _) (hrow 2 _ rfl)) ?_
 refine ldI_of (H.cell kp (hp2 _) (hrow 3 _ rfl)) ?_
 refine stV_hp H L.length List.getElem?_concat_length (by simp) rfl fun h hsz H=>?_
 simp only [List.set_append_right _ _ (Nat.le_refl _),Nat.sub_self,List.set_cons_zero,List.set_cons_succ] at H
 refine stV_hp H L.length List.getElem?_concat_length (by simp) rfl fun h hsz H=>?_
 simp only [List.set_append_right _ _ (Nat.le_refl _),Nat.sub_self,List.set_cons_zero,List.set_cons_succ] at H
 refine stV_hp H L.length List.getElem?_concat_length (by simp) rfl fun h hsz H=>?_
 simp only [List.set_append_right _ _ (Nat.le_refl _),Nat.sub_self,List.set_cons_zero,List.set_cons_succ] at H
 refine stV_hp H L.length List.getElem?_concat_length (by simp) rfl fun h hsz H=>?_
 simp only [List.set_append_right _ _ (Nat.le_refl _),Nat.sub_self,List.set_cons_zero,List.set_cons_succ] at H
 refine ldI_of (H.cell L.length List.getElem?_concat_length rfl) ?_
 refine ldI_of (H.cell L.length List.getElem?_concat_length rfl) ?_
 refine ldI_of (H.cell L.length List.getElem?_concat_length rfl) ?_
 refine ldI_of (H.cell L.length List.getElem?_concat_length rfl) ?_
 exact hk _ x hx hx94 ((H.take L.length).as (List.take_left' rfl))
theorem getD_of {st:List Nat} {k x:Nat} (h:st[k]? = some x):st.getD k 0=x:=by rw [List.getD_eq_getElem?_getD,h]; rfl
theorem putM_at (s:Cod) (k bit x:Nat) (hx:s.st[k]? = some x):putM s k bit =
 if bit=x % 2 then
  if 0x8000<=s.a-qOf (x / 2) then { s with a:=s.a-qOf (x / 2),c:=s.c+qOf (x / 2),n:=s.n+1 }
  else if s.a-qOf (x / 2)<qOf (x / 2) then renewM 17 { s with a:=qOf (x / 2),n:=s.n+1,st:=s.st.set k (upM x) }
  else renewM 17 { s with a:=s.a-qOf (x / 2),c:=s.c+qOf (x / 2),n:=s.n+1,st:=s.st.set k (upM x) }
 else
  if s.a-qOf (x / 2)<qOf (x / 2) then renewM 17 { s with a:=s.a-qOf (x / 2),c:=s.c+qOf (x / 2),n:=s.n+1,st:=s.st.set k (upL x) }
  else renewM 17 { s with a:=qOf (x / 2),n:=s.n+1,st:=s.st.set k (upL x) }:=by
 rw [<- getD_of hx]; rfl
theorem put_ok {h:Heap} {p q r:Nat} {s:Cod} {rest:List Value} {F:List Nat} {h0:Heap} (H:Hp h0 F h (codL p q r s rest)) (hs:Wf s) (hd:s.done=false) (hn:s.n<16777216) (hl:1<=s.st.length) (hl2:s.st.length<=131072)
  {ctx:Int} {bit:Nat} (hbit:bit<=1) {K:VK} {Kp:PK} (hk:∀ r' rest' h',Hp h0 F h' (codL p q r' (putM s (idx ctx s.st.length) bit) rest')->K (.int .i64 0) h') :
  CP F_arith_Coder_Put #[.pointer (at0 p), .int .i64 ctx, .int .i64 (bit:Nat)] h K Kp:=by
 refine call_arith_Coder_Put ?_
 unfold arith_Coder_Put
 refine ⟨fun vs h'=>h'=h,?_,?_⟩
 ·try simp only [ptr_some_eq,add_mk,Nat.zero_add,Nat.add_zero]
  refine ldB_of (H.cell 0 rfl (app_get hR 6 (congrArg (fun b=>some (Value.bool b)) hd))) ?_
  refine bcase_false (by rfl) ?_
  refine bcase_of (fun h1=>?_) fun h1=>?_
  ·refine bcase_of (fun h2=>?_) fun h2=>?_
   ·simp at h1 h2; omega
   ·refine ldI_of (H.cell 0 rfl (app_get hR 1 rfl)) ?_
    refine bcase_false (by simp; omega) ?_
    trivial
  ·refine ldI_of (H.cell 0 rfl (app_get hR 1 rfl)) ?_
   refine bcase_false (by simp; omega) ?_
   trivial
 ·rintro h' u rfl
  try simp only [ptr_some_eq,add_mk,Nat.zero_add,Nat.add_zero]
  refine ldI_of (H.cell 0 rfl (app_get hR 1 rfl)) ?_
  refine bindI_of (((s.n+1:Nat):Int)) (by exact i64_at _ _ (by omega) (by omega) (by omega)) ?_
  refine stV_hr H 0 rfl hR 1 (Nat.le_of_ble_eq_true rfl) rfl fun h hsz H=>?_
  refine at_ok H 0 1 rfl rfl hl hl2 hs.st fun h x hx hx94 H=>?_
  refine ⟨_,_,_,_,_,rfl,?_⟩
  refine newC_hp H fun b h H=>?_
  try simp only [ptr_some_eq,add_mk,Nat.zero_add,Nat.add_zero]
  refine stV_hp H 3 rfl (by first | exact Nat.le_of_ble_eq_true rfl | simp) rfl fun h hsz H=>?_
  refine stV_hp H 3 rfl (by first | exact Nat.le_of_ble_eq_true rfl | simp) rfl fun h hsz H=>?_
  refine stV_hp H 3 rfl (by first | exact Nat.le_of_ble_eq_true rfl | simp) rfl fun h hsz H=>?_
  refine stV_hp H 3 rfl (by first | exact Nat.le_of_ble_eq_true rfl | simp) rfl fun h hsz H=>?_
  refine ldI_of (H.cell 0 rfl (app_get hR 2 rfl)) ?_
  refine ldI_of (H.cell 3 rfl rfl) ?_
  have hr:x / 2<47:=by omega
  have hq1:=qOf_pos hr
  have hq2:=qOf_le hr
  have hlo:=hs.lo
  have hhi:=hs.hi
  have hca:=hs.ca
  have hcp:=pow_le hs.t1
  have hlen:=hs.len
  have hM:=set_lt hs.st (k:=idx ctx s.st.length) (upM_lt hx94)
  have hL:=set_lt hs.st (k:=idx ctx s.st.length) (upL_lt hx94)
  rw [putM_at s _ bit x hx] at hk
  refine bindI_of (((s.a-qOf (x / 2):Nat):Int)) (by exact u32_at _ _ (by omega) (by omega)) ?_
  refine stV_hr H 0 rfl hR 2 (Nat.le_of_ble_eq_true rfl) rfl fun h hsz H=>?_
  refine ldI_of (H.cell 1 rfl (u8s_get hx)) ?_
  refine bindI_of (((x % 2:Nat):Int)) (by exact (and8 _ 1 (by omega) (by omega)).trans (by rw [Nat.and_one_is_mod])) ?_
  refine bindI_of (((x % 2:Nat):Int)) (by exact i64_in _ (by omega) (by omega)) ?_
  refine bcase_of (fun h1=>?_) fun h1=>?_
  ·have h1:bit=x % 2:=by simp at h1; omega
   rw [if_pos h1] at hk
   refine ldI_of (H.cell 0 rfl (app_get hR 2 rfl)) ?_
   refine bcase_of (fun h2=>?_) fun h2=>?_
   ·have h2:0x8000<=s.a-qOf (x / 2):=by simp at h2; omega
    rw [if_pos h2] at hk
    refine ldI_of (H.cell 0 rfl (app_get hR 3 rfl)) ?_
    refine ldI_of (H.cell 3 rfl rfl) ?_
    refine bindI_of (((s.c+qOf (x / 2):Nat):Int)) (by exact u32_at _ _ (by omega) (by omega)) ?_
    refine stV_hr H 0 rfl hR 3 (Nat.le_of_ble_eq_true rfl) rfl fun h hsz H=>?_
    exact hk r rest _ (H.take 3)
   ·have h2:¬ 0x8000<=s.a-qOf (x / 2):=by simp at h2; omega
    rw [if_neg h2] at hk
    refine ldI_of (H.cell 0 rfl (app_get hR 2 rfl)) ?_
    refine ldI_of (H.cell 3 rfl rfl) ?_
    refine bcase_of (fun h3=>?_) fun h3=>?_
    ·have h3:s.a-qOf (x / 2)<qOf (x / 2):=by simp at h3; omega
     rw [if_pos h3] at hk
     refine ldI_of (H.cell 3 rfl rfl) ?_
     refine stV_hr H 0 rfl hR 2 (Nat.le_of_ble_eq_true rfl) rfl fun h hsz H=>?_
     refine ldI_of (H.cell 3 rfl rfl) ?_
     refine ldI_of (H.cell 3 rfl rfl) ?_
     refine ldI_of (H.cell 3 rfl rfl) ?_
     refine ldI_of (H.cell 3 rfl rfl) ?_
     refine likely_ok H 1 rfl hx hx94 rfl fun h H=>?_
     have H2:Hp h0 F h (codL p q r { s with a:=qOf (x / 2),n:=s.n+1,st:=s.st.set (idx ctx s.st.length) (upM x) } rest):=(H.take 3).as (by simp [codL,codE,crest])
     exact renew_ok H2 ⟨hs.t1,hs.t12,by show s.c+qOf _<2 ^ (28-s.t); omega,hs.l,hs.bs,hM⟩ hq1 (by show qOf _<_; omega) (by show s.bs.length<_; omega) hk
    ·have h3:¬ s.a-qOf (x / 2)<qOf (x / 2):=by simp at h3; omega
     rw [if_neg h3] at hk
     refine ldI_of (H.cell 0 rfl (app_get hR 3 rfl)) ?_
     refine ldI_of (H.cell 3 rfl rfl) ?_
     refine bindI_of (((s.c+qOf (x / 2):Nat):Int)) (by exact u32_at _ _ (by omega) (by omega)) ?_
     refine stV_hr H 0 rfl hR 3 (Nat.le_of_ble_eq_true rfl) rfl fun h hsz H=>?_
     refine ldI_of (H.cell 3 rfl rfl) ?_
     refine ldI_of (H.cell 3 rfl rfl) ?_
     refine ldI_of (H.cell 3 rfl rfl) ?_
     refine ldI_of (H.cell 3 rfl rfl) ?_
     refine likely_ok H 1 rfl hx hx94 rfl fun h H=>?_
     have H2:Hp h0 F h (codL p q r { s with a:=s.a-qOf (x / 2),c:=s.c+qOf (x / 2),n:=s.n+1,st:=s.st.set (idx ctx s.st.length) (upM x) } rest):=(H.take 3).as (by simp [codL,codE,crest])
     exact renew_ok H2 ⟨hs.t1,hs.t12,by show s.c+qOf _+(s.a-qOf _)<2 ^ (28-s.t); omega,hs.l,hs.bs,hM⟩ (by show 1<=s.a-qOf _; omega) (by show s.a-qOf _<_; omega) (by show s.bs.length<_; omega) hk
  ·have h1:¬ bit=x % 2:=by simp at h1; omega
   rw [if_neg h1] at hk
   refine ldI_of (H.cell 0 rfl (app_get hR 2 rfl)) ?_
   refine ldI_of (H.cell 3 rfl rfl) ?_
   refine bcase_of (fun h3=>?_) fun h3=>?_
   ·have h3:s.a-qOf (x / 2)<qOf (x / 2):=by simp at h3; omega
    rw [if_pos h3] at hk
    refine ldI_of (H.cell 0 rfl (app_get hR 3 rfl)) ?_
    refine ldI_of (H.cell 3 rfl rfl) ?_
    refine bindI_of (((s.c+qOf (x / 2):Nat):Int)) (by exact u32_at _ _ (by omega) (by omega)) ?_
    refine stV_hr H 0 rfl hR 3 (Nat.le_of_ble_eq_true rfl) rfl fun h hsz H=>?_
    refine ldI_of (H.cell 3 rfl rfl) ?_
    refine ldI_of (H.cell 3 rfl rfl) ?_
    refine ldI_of (H.cell 3 rfl rfl) ?_
    refine ldI_of (H.cell 3 rfl rfl) ?_
    refine unlikely_ok H 1 rfl hx hx94 rfl rfl fun h H=>?_
    have H2:Hp h0 F h (codL p q r { s with a:=s.a-qOf (x / 2),c:=s.c+qOf (x / 2),n:=s.n+1,st:=s.st.set (idx ctx s.st.length) (upL x) } rest):=(H.take 3).as (by simp [codL,codE,crest])
    exact renew_ok H2 ⟨hs.t1,hs.t12,by show s.c+qOf _+(s.a-qOf _)<2 ^ (28-s.t); omega,hs.l,hs.bs,hL⟩ (by show 1<=s.a-qOf _; omega) (by show s.a-qOf _<_; omega) (by show s.bs.length<_; omega) hk
   ·have h3:¬ s.a-qOf (x / 2)<qOf (x / 2):=by simp at h3; omega
    rw [if_neg h3] at hk
    refine ldI_of (H.cell 3 rfl rfl) ?_
    refine stV_hr H 0 rfl hR 2 (Nat.le_of_ble_eq_true rfl) rfl fun h hsz H=>?_
    refine ldI_of (H.cell 3 rfl rfl) ?_
    refine ldI_of (H.cell 3 rfl rfl) ?_
    refine ldI_of (H.cell 3 rfl rfl) ?_
    refine ldI_of (H.cell 3 rfl rfl) ?_
    refine unlikely_ok H 1 rfl hx hx94 rfl rfl fun h H=>?_
    have H2:Hp h0 F h (codL p q r { s with a:=qOf (x / 2),n:=s.n+1,st:=s.st.set (idx ctx s.st.length) (upL x) } rest):=(H.take 3).as (by simp [codL,codE,crest])
    exact renew_ok H2 ⟨hs.t1,hs.t12,by show s.c+qOf _<2 ^ (28-s.t); omega,hs.l,hs.bs,hL⟩ hq1 (by show qOf _<_; omega) (by show s.bs.length<_; omega) hk
end Go.Ar
namespace Go.Ar
open Go Go.Den Go.Den.YtbknfejmdekhpaaGreat
theorem rows_ok {h:Heap} {K:VK} {Kp:PK} (hk:∀ h',hext h h'->K (.agg rowsV.toArray) h'):CP F_arith_rows #[] h K Kp:=by
 refine call_arith_rows ?_
 unfold arith_rows
 have H:=Hp.nil h []
 refine newC_hp H fun r h H=>?_
 refine stVs_all H 0 rfl (by kernel_rfl) (List.all_eq_true.1 (by kernel_rfl)) fun h' hsz H'=>?_
 refine ldAll_hp H' 0 rfl (by kernel_rfl) ?_
 have key:∀ X,X=rowsV->K (.agg X.toArray) h':=fun X e=>e ▸ hk _ H'.hext
 refine key _ ?_
 kernel_rfl
def tabV (q n:Nat):List Value:=rowsV++[.slice (some ⟨q,0,none⟩) n n, .int .i64 0]
theorem tab_eq (q n:Nat):putL (putL Z_arith_table 0 rowsV) 188 [.slice (some ⟨q,0,none⟩) n n]=tabV q n:=by kernel_rfl
theorem tab_length (q n:Nat):(tabV q n).length=190:=by kernel_rfl
theorem rows_cells:∀ n,(rowsN n).all Value.oneCell'=true
 | 0=>rfl
 | n+1=>by rw [rowsN,List.all_append,rows_cells n]; rfl
theorem tab_cells (q n:Nat):∀ v∈tabV q n,v.oneCell'=true:=List.all_eq_true.1 (by unfold tabV; rw [List.all_append]; unfold rowsV; rw [rows_cells]; rfl)
theorem u8s_zero (n:Nat):repZ [.int .u8 0] n=u8s (List.replicate n 0):=by rw [repZ_one]; simp [u8s]
theorem made_ok {h:Heap} {n:Nat} (h1:1<=n) (h2:n<=131072) {K:VK} {Kp:PK}
  (hk:∀ q h',Hp h [] h' [⟨q,true,T_uint8,u8s (List.replicate n 0)⟩]->K (.tuple #[.agg (tabV q n).toArray, .bool true]) h'):CP F_arith_made #[.int .i64 (n:Nat)] h K Kp:=by
 refine call_arith_made ?_
 unfold arith_made
 have H:=Hp.nil h []
 refine newC_hp H fun r h H=>?_
 refine bcase_false (by simp; omega) ?_
 refine bcase_false (by simp; omega) ?_
 refine ⟨rows_ok fun h2 e=>?_,?_⟩
 ·refine ⟨rowsV,hR,rfl,e,?_⟩
  have H:=H.ext e
  refine needs_of (by simp; omega) ?_
  simp only [Int.toNat_natCast,u8s_zero]
  refine newC_hp H fun q h H=>?_
  refine needs_of ⟨hR,by decide⟩ ?_
  refine needs_of (by exact ⟨rfl,by rw [putL_length]; decide⟩) ?_
  refine needs_of (by rw [tab_eq]; exact tab_length q n) ?_
  rw [tab_eq]
  refine stVs_all H 0 rfl (tab_length q n) (tab_cells q n) fun h' hsz H=>?_
  refine ldAll_hp H 0 rfl (tab_length q n) ?_
  exact hk q _ (H.pick [1] (by decide) rfl)
 ·refine needs_of (by simp; omega) ?_
  simp only [Int.toNat_natCast,u8s_zero]
  refine newC_hp H fun q h H=>?_
  refine rows_ok fun h2 e=>?_
  refine ⟨rowsV,hR,rfl,e,?_⟩
  have H:=H.ext e
  refine needs_of ⟨hR,by decide⟩ ?_
  refine needs_of (by exact ⟨rfl,by rw [putL_length]; decide⟩) ?_
  refine needs_of (by rw [tab_eq]; exact tab_length q n) ?_
  rw [tab_eq]
  refine stVs_all H 0 rfl (tab_length q n) (tab_cells q n) fun h' hsz H=>?_
  refine ldAll_hp H 0 rfl (tab_length q n) ?_
  exact hk q _ (H.pick [1] (by decide) rfl)
theorem new_eq (q r n:Nat):putL (putL (putL (putL Z_arith_Coder 0 (tabV q n)) 190 ([.int .u32 32768]:List Value)) 192 ([.int .i64 12]:List Value)) 193 ([.slice (some ⟨r,0,none⟩) 1 1]:List Value)=rowsV++crest q n 0 0x8000 0 12 r 1 1 false:=by kernel_rfl
theorem new_ok {h:Heap} {n:Nat} (h1:1<=n) (h2:n<=131072) {K:VK} {Kp:PK}
  (hk:∀ p q r h',Hp h [] h' (codL p q r (newC n) [])->K (.tuple #[.pointer (at0 p), .int .i64 0]) h'):CP F_arith_New #[.int .i64 (n:Nat)] h K Kp:=by
 refine call_arith_New ?_
 unfold arith_New
 refine made_ok h1 h2 fun q h' H=>?_
 refine ⟨tabV q n,tab_length q n,true,rfl,?_⟩
 refine newC_hp H fun t h H=>?_
 refine needs_of (tab_length q n) ?_
 refine stVs_all H 1 rfl (tab_length q n) (tab_cells q n) fun h' hsz H=>?_
 refine bcase_false (by rfl) ?_
 refine ldAll_hp H 1 rfl (tab_length q n) ?_
 refine newC_hp H fun r h H=>?_
 refine needs_of ⟨tab_length q n,by decide⟩ ?_
 refine needs_of (by exact ⟨rfl,by simp only [putL_length]; decide⟩) ?_
 refine needs_of (by exact ⟨rfl,by simp only [putL_length]; decide⟩) ?_
 refine needs_of (by exact ⟨rfl,by simp only [putL_length]; decide⟩) ?_
 rw [new_eq]
 refine newC_hp H fun p h H=>?_
 refine hk p q r _ ?_
 have H2:=H.pick [3,0,2] (by decide) (L':=codL p q r (newC n) []) (by simp [codL,codE,newC,u8s])
 exact H2
theorem flushC_or (c:Nat):c ||| 65535=c / 65536*65536+65535:=by
 have h1:c % 65536 ||| 65535=65535:=by
  apply Nat.eq_of_testBit_eq
  intro i
  rw [Nat.testBit_or,show 65535=2 ^ 16-1 from rfl,Nat.testBit_two_pow_sub_one]
  by_cases hi:i<16
  ·simp [hi]
  ·have:(c % 65536).testBit i=false:=Nat.testBit_lt_two_pow (Nat.lt_of_lt_of_le (Nat.mod_lt c (by decide:65536 > 0)) (by
    have:2 ^ 16<=2 ^ i:=Nat.pow_le_pow_right (by omega) (by omega)
    simpa using this))
   simp [hi,this]
 have h2:=Nat.two_pow_add_eq_or_of_lt (i:=16) (b:=c % 65536) (by omega) (c / 65536)
 have h3:=Nat.two_pow_add_eq_or_of_lt (i:=16) (b:=65535) (by omega) (c / 65536)
 calc c ||| 65535=(2 ^ 16*(c / 65536)+c % 65536) ||| 65535:=by congr 1; omega
  _=(2 ^ 16*(c / 65536)) ||| (c % 65536 ||| 65535):=by rw [h2,Nat.or_assoc]
  _=_:=by rw [h1,<- h3]; omega
def flushI:Nat->Cod->Cod
 | 0,s=>s
 | n+1,s=>flushS (flushI n s)
structure Fl (s:Cod) (k:Nat):Prop where
 c:s.c*2 ^ s.t<4294967296
 t:s.t<=12
 l:s.l<256
 n:s.bs.length<=900000000+k
theorem flushS_fl {s:Cod} {k:Nat} (h:Fl s k):Fl (flushS s) (k+1)/\(flushS s).bs.length=s.bs.length+1:=by
 have hm:∀ (s:Cod) (l c:Nat),l<256->c<4294967296->s.bs.length<=900000000+k->Fl (outTail s l c) (k+1)/\(outTail s l c).bs.length=s.bs.length+1:=fun s l c hl hc hn=>by
  unfold outTail
  split
  ·exact ⟨⟨by show c % 1048576*2 ^ 7<_; omega,by show 7<=12; omega,by show c / 1048576 % 256<256; omega,by simp; omega⟩,by simp⟩
  ·exact ⟨⟨by show c % 524288*2 ^ 8<_; omega,by show 8<=12; omega,by show c / 524288 % 256<256; omega,by simp; omega⟩,by simp⟩
 unfold flushS outM
 split
 ·rename_i h1
  have h1:s.l≠255/\_:=h1
  exact hm { s with c:=s.c*2 ^ s.t } _ _ (by show s.l+1<256; have:=h.l; omega) (by show s.c*2 ^ s.t % 134217728<_; have:=h.c; omega) h.n
 ·exact hm { s with c:=s.c*2 ^ s.t } _ _ h.l h.c h.n
theorem flush_ok {h:Heap} {p q r:Nat} {s:Cod} {rest:List Value} {F:List Nat} {h0:Heap} (H:Hp h0 F h (codL p q r s rest)) (hs:Wf s) (hd:s.done=false)
  {K:VK} {Kp:PK} (hk:∀ r' rest' o orest h',Hp h0 F h' (codL p q r' (flushM s) rest'++[⟨o,true,T_uint8,u8s (bytesM (flushM s))++orest⟩]) ->
   K (.tuple #[.slice (at0 o) (bytesM (flushM s)).length ((bytesM (flushM s)).length+orest.length), .int .i64 0]) h') :
  CP F_arith_Coder_Flush #[.pointer (at0 p)] h K Kp:=by
 refine call_arith_Coder_Flush ?_
 unfold arith_Coder_Flush
 have hca:=hs.ca
 have hcp:=pow_le hs.t1
 have hlen:=hs.len
 have hn:=hs.n
 have hcl:flushC s<2 ^ (28-s.t)+65536:=by
  unfold flushC
  simp only []
  split <;> omega
 have hfl:Fl { s with c:=flushC s,done:=true } 0:=by
  refine ⟨?_,hs.t12,hs.l,by show s.bs.length<=_; omega⟩
  show flushC s*2 ^ s.t<4294967296
  have h1:(2:Nat) ^ s.t<=2 ^ 12:=Nat.pow_le_pow_right (by omega) hs.t12
  have h2:flushC s*2 ^ s.t<(2 ^ (28-s.t)+65536)*2 ^ s.t:=Nat.mul_lt_mul_of_pos_right hcl (Nat.two_pow_pos _)
  have h3:2 ^ (28-s.t)*2 ^ s.t=2 ^ 28:=by rw [<- Nat.pow_add]; congr 1; have:=hs.t12; omega
  rw [Nat.add_mul,h3] at h2
  omega
 try simp only [ptr_some_eq,add_mk,Nat.zero_add,Nat.add_zero]
 refine ldB_of (H.cell 0 rfl (app_get hR 6 (congrArg (fun b=>some (Value.bool b)) hd))) ?_
 refine bcase_false (by rfl) ?_
 refine stV_hr H 0 rfl hR 6 (Nat.le_of_ble_eq_true rfl) rfl fun h hsz H=>?_
 refine ldI_of (H.cell 0 rfl (app_get hR 3 rfl)) ?_
 refine ldI_of (H.cell 0 rfl (app_get hR 2 rfl)) ?_
 refine bindI_of (((s.c+s.a:Nat):Int)) (by exact u32_at _ _ (by omega) (by omega)) ?_
 refine ⟨fun vs h'=>Hp h0 F h' (codL p q r { s with c:=flushC s,done:=true } rest),?_,?_⟩
 ·refine ldI_of (H.cell 0 rfl (app_get hR 3 rfl)) ?_
  refine bindI_of (((s.c / 65536*65536+65535:Nat):Int)) (by exact (or32 _ 65535 (by omega) (by omega)).trans (by rw [flushC_or])) ?_
  refine stV_hr H 0 rfl hR 3 (Nat.le_of_ble_eq_true rfl) rfl fun h hsz H=>?_
  refine ldI_of (H.cell 0 rfl (app_get hR 3 rfl)) ?_
  refine bcase_of (fun h1=>?_) fun h1=>?_
  ·have h1:s.c+s.a<=s.c / 65536*65536+65535:=by simp at h1; omega
   refine ldI_of (H.cell 0 rfl (app_get hR 3 rfl)) ?_
   refine bindI_of (((s.c / 65536*65536+65535-0x8000:Nat):Int)) (by exact u32_at _ _ (by omega) (by omega)) ?_
   refine stV_hr H 0 rfl hR 3 (Nat.le_of_ble_eq_true rfl) rfl fun h hsz H=>?_
   have e:flushC s=s.c / 65536*65536+65535-0x8000:=by unfold flushC; simp only []; rw [if_pos h1]
   rw [e]
   exact H
  ·have h1:¬ s.c+s.a<=s.c / 65536*65536+65535:=by simp at h1; omega
   have e:flushC s=s.c / 65536*65536+65535:=by unfold flushC; simp only []; rw [if_neg h1]
   rw [e]
   exact H
 ·intro h u H
  generalize hS:({ s with c:=flushC s,done:=true }:Cod)=S at H hfl
  have hfm:flushM s=flushI 2 S:=by rw [<- hS]; rfl
  rw [hfm] at hk
  refine ⟨fun n vs h'=>∃ r' rest',n<=2/\vs=[.int .i64 ((2-n:Nat):Int)]/\Hp h0 F h' (codL p q r' (flushI (2-n) S) rest')/\Fl (flushI (2-n) S) (2-n)/\(flushI (2-n) S).bs.length=S.bs.length+(2-n),⟨2,r,rest,Nat.le_refl _,rfl,H,by simpa [flushI] using hfl,rfl⟩,?_⟩
  clear H
  rintro n h u x ⟨r',rest',hn2,hx,H,hf,hbl⟩
  injection hx with hx
  injection hx with _ hx
  subst hx
  try simp only [ptr_some_eq,add_mk,Nat.zero_add,Nat.add_zero]
  refine bcase_of (fun h1=>?_) fun h1=>?_
  ·have h1:1<=n:=by simp at h1; omega
   obtain ⟨m,rfl⟩:∃ m,n=m+1:=⟨n-1,by omega⟩
   have hm1:2-m=(2-(m+1))+1:=by omega
   generalize 2-(m+1)=k at hm1 H hf hbl
   obtain ⟨hf2,hbl2⟩:=flushS_fl hf
   have hft:=hf.t
   have hfc:=hf.c
   have hfn:=hf.n
   have hc0:(flushI k S).c<4294967296:=Nat.lt_of_le_of_lt (Nat.le_mul_of_pos_right _ (Nat.two_pow_pos _)) hfc
   refine ldI_of (H.cell 0 rfl (app_get hR 3 rfl)) ?_
   refine ldI_of (H.cell 0 rfl (app_get hR 4 rfl)) ?_
   refine needs_of (by omega) ?_
   refine bindI_of ((((flushI k S).c*2 ^ (flushI k S).t:Nat):Int)) (by exact shl_of (by show (flushI k S).t<=32; omega) (u32_in _ hfc)) ?_
   refine stV_hr H 0 rfl hR 3 (Nat.le_of_ble_eq_true rfl) rfl fun h hsz H=>?_
   have H2:Hp h0 F _ (codL p q r' { flushI k S with c:=(flushI k S).c*2 ^ (flushI k S).t } rest'):=H
   refine out_ok H2 hf.l hfc (by show (flushI k S).bs.length<_; omega) fun r2 rest2 h2 H=>?_
   refine bindI_of (((k+1:Nat):Int)) (by exact i64_at _ _ (by omega) (by omega) (by omega)) ?_
   refine ⟨m,Nat.lt_succ_self m,r2,rest2,by omega,by rw [hm1],?_,?_,?_⟩
   ·rw [hm1]; exact H
   ·rw [hm1]; exact hf2
   ·rw [hm1]; show (flushS (flushI k S)).bs.length=_; omega
  ·have h1:n=0:=by simp at h1; omega
   subst h1
   have hbl:(flushI 2 S).bs.length=S.bs.length+2:=hbl
   have H:Hp h0 F h (codL p q r' (flushI 2 S) rest'):=H
   have hfn:(flushI 2 S).bs.length<=900000000+2:=hf.n
   generalize hE:flushI 2 S=E at H hbl hk
   have hEn:E.bs.length<900000005:=by rw [<- hE]; omega
   have hEl:E.l<256:=by rw [<- hE]; exact hf.l
   refine ldS_of (H.cell 0 rfl (app_get hR 5 rfl)) ?_
   refine needs_of (by omega) ?_
   have hsub:((E.bs.length+1-(1:Int).toNat:Nat):Int)=(E.bs.length:Nat):=by simp
   rw [hsub]
   refine bindI_of (((E.bs.length-1:Nat):Int)) (by exact i64_at _ _ (by omega) (by omega) (by omega)) ?_
   refine needs_of (by omega) ?_
   have e1:subA (some ⟨r',0,none⟩) (E.bs.length+1+rest'.length) (1:Int).toNat 1=some ⟨r',1,none⟩:=by
    unfold subA
    rw [if_neg (by simp; omega)]
    rfl
   rw [e1]
   try simp only [ptr_some_eq,add_mk,Nat.zero_add,Nat.add_zero]
   simp only [Int.toNat_natCast,Nat.mul_one]
   have e2:1+(E.bs.length-1)=E.bs.length:=by omega
   rw [e2]
   refine ldI_of (H.cell 2 rfl (last_get _ _ _)) ?_
   have hb:bytesM E=if E.l=255 then ((E.bs++[E.l]).drop 1).dropLast else (E.bs++[E.l]).drop 1:=rfl
   refine bcase_of (fun h1=>?_) fun h1=>?_
   ·have h1:E.l=255:=by simp at h1; omega
    rw [if_pos h1] at hb
    refine bindI_of (((E.bs.length-1:Nat):Int)) (by exact i64_at _ _ (by omega) (by omega) (by omega)) ?_
    refine needs_of (by simp; omega) ?_
    have e3:subA (some ⟨r',1,none⟩) (E.bs.length+1+rest'.length-(1:Int).toNat) 0 1=some ⟨r',1,none⟩:=by
     unfold subA
     split <;> rfl
    rw [e3]
    simp only [Int.toNat_natCast,Nat.sub_zero]
    have hlen:((u8s (E.bs++[E.l])++rest').drop 1).take ((E.bs.length-1)*1)=u8s (bytesM E):=by
     rw [hb,Nat.mul_one,List.drop_append_of_le_length (by rw [u8s_length]; simp),List.take_append_of_le_length (by rw [List.length_drop,u8s_length]; simp)]
     unfold u8s
     rw [<- List.map_drop,<- List.map_take,List.dropLast_eq_take]
     congr 2
     simp
    have hl2:(bytesM E).length=E.bs.length-1:=by rw [hb]; simp
    have hr:=rdO_hp H 2 (o:=1) (n:=(E.bs.length-1)*1) rfl (by simp [u8s_length]; omega)
    rw [hlen] at hr
    refine appC_new H hr (by rw [u8s_length,hl2]) (by omega) (by omega) fun o orest h' _ H=>?_
    have:=hk r' rest' o orest _ H
    rw [hl2] at this
    exact this
   ·have h1:¬ E.l=255:=by simp at h1; omega
    rw [if_neg h1] at hb
    have hlen:((u8s (E.bs++[E.l])++rest').drop 1).take (E.bs.length*1)=u8s (bytesM E):=by
     rw [hb,Nat.mul_one,List.drop_append_of_le_length (by rw [u8s_length]; simp),List.take_append_of_le_length (by rw [List.length_drop,u8s_length]; simp)]
     unfold u8s
     rw [<- List.map_drop,<- List.map_take,List.take_of_length_le (by simp)]
    have hl2:(bytesM E).length=E.bs.length:=by rw [hb]; simp
    have hr:=rdO_hp H 2 (o:=1) (n:=E.bs.length*1) rfl (by simp [u8s_length]; omega)
    rw [hlen] at hr
    have e4:E.bs.length+1-(1:Int).toNat=E.bs.length:=by simp
    rw [e4]
    refine appC_new H hr (by rw [u8s_length,hl2]) (by omega) (by omega) fun o orest h' _ H=>?_
    have:=hk r' rest' o orest _ H
    rw [hl2] at this
    exact this
end Go.Ar
namespace Go.Ar
open Go Go.Den Go.Den.YtbknfejmdekhpaaGreat
def BOk (e:Ent) (bp:Option Addr) (b:List Nat):Prop:=e.w=true/\(b=[]\/∃ rest,bp=some ⟨e.b,0,none⟩/\e.cs=u8s b++rest)
def drest (q nst n a c:Nat) (t:Int) (bp:Option Addr) (bl bc:Nat) (i:Nat):List Value :=
 [.slice (some ⟨q,0,none⟩) nst nst, .int .i64 (n:Nat), .int .u32 (a:Nat), .int .u32 (c:Nat), .int .i64 t, .slice bp bl bc, .int .i64 (i:Nat)]
def decE (p q:Nat) (bp:Option Addr) (bc:Nat) (s:Dec):Ent :=
 ⟨p,true,T_arith_Decoder,rowsV++drest q s.st.length s.n s.a s.c (s.t:Nat) bp s.b.length bc s.i⟩
def decL (p q:Nat) (e:Ent) (bp:Option Addr) (bc:Nat) (s:Dec):List Ent:=[decE p q bp bc s,⟨q,true,T_uint8,u8s s.st⟩,e]
theorem byte_ok {h:Heap} {p q:Nat} {e:Ent} {bp:Option Addr} {bc:Nat} {s:Dec} {F:List Nat} {h0:Heap} (H:Hp h0 F h (decL p q e bp bc s)) (hb:BOk e bp s.b) (hb8:∀ x∈s.b,x<256) {i:Nat}
  {K:VK} {Kp:PK} (hk:K (.int .u32 (byteD s i:Nat)) h):CP F_arith_Decoder_byte #[.pointer (at0 p), .int .i64 (i:Nat)] h K Kp:=by
 refine call_arith_Decoder_byte ?_
 unfold arith_Decoder_byte
 try simp only [ptr_some_eq,add_mk,Nat.zero_add,Nat.add_zero]
 refine ldS_of (H.cell 0 rfl (app_get hR 5 rfl)) ?_
 refine bcase_of (fun h1=>?_) fun h1=>?_
 ·have h1:i<s.b.length:=by simp at h1; omega
  obtain ⟨_,hb | ⟨rest,hbp,he⟩⟩:=hb
  ·rw [hb] at h1; simp at h1
  ·have hg:s.b[i]? = some (byteD s i):=by
    unfold byteD
    rw [List.getD_eq_getElem?_getD,List.getElem?_eq_getElem h1]; rfl
   have hlt:=byteD_lt hb8 (s:=s) i
   refine ldS_of (H.cell 0 rfl (app_get hR 5 rfl)) ?_
   refine needs_of (by omega) ?_
   rw [hbp]
   simp only [Int.toNat_natCast,Nat.mul_one]
   try simp only [ptr_some_eq,add_mk,Nat.zero_add,Nat.add_zero]
   refine ldI_of (H.cell 2 rfl (i:=i) (by rw [he]; exact get_app (u8s_get hg))) ?_
   refine bindI_of (((byteD s i:Nat):Int)) (by exact u32_in _ (by omega)) ?_
   exact hk
 ·have h1:s.b.length<=i:=by simp at h1; omega
  have hg:byteD s i=255:=by
   unfold byteD
   rw [List.getD_eq_getElem?_getD,List.getElem?_eq_none h1]; rfl
  rw [hg] at hk
  exact hk
theorem inD_eq (s:Dec):inD s =
 if byteD s s.i≠255 then { s with i:=s.i+1,c:=(s.c+byteD s (s.i+1)*256) % M32,t:=8 }
 else if byteD s (s.i+1) > 143 then { s with c:=(s.c+65280) % M32,t:=8 }
 else { s with i:=s.i+1,c:=(s.c+byteD s (s.i+1)*512) % M32,t:=7 }:=rfl
theorem in_ok {h:Heap} {p q:Nat} {e:Ent} {bp:Option Addr} {bc:Nat} {s:Dec} {F:List Nat} {h0:Heap} (H:Hp h0 F h (decL p q e bp bc s)) (hb:BOk e bp s.b) (hs:MidD s) (hbl:s.b.length<140737488351300)
  {K:VK} {Kp:PK} (hk:∀ h',Hp h0 F h' (decL p q e bp bc (inD s))->K (.tuple #[]) h'):CP F_arith_Decoder_in #[.pointer (at0 p)] h K Kp:=by
 refine call_arith_Decoder_in ?_
 unfold arith_Decoder_in
 have hi:=hs.i
 have hc:=hs.c
 have hM:M32=4294967296:=rfl
 have hb1:=byteD_lt hs.b (s:=s) (s.i+1)
 have hb0:=byteD_lt hs.b (s:=s) s.i
 try simp only [ptr_some_eq,add_mk,Nat.zero_add,Nat.add_zero]
 refine ldI_of (H.cell 0 rfl (app_get hR 6 rfl)) ?_
 refine byte_ok H hb hs.b ?_
 refine ⟨_,rfl,?_⟩
 rw [inD_eq] at hk
 refine bcase_of (fun h1=>?_) fun h1=>?_
 ·have h1:byteD s s.i≠255:=by simp at h1; omega
  rw [if_pos h1] at hk
  refine ldI_of (H.cell 0 rfl (app_get hR 6 rfl)) ?_
  refine bindI_of (((s.i+1:Nat):Int)) (by exact i64_at _ _ (by omega) (by omega) (by omega)) ?_
  refine stV_hr H 0 rfl hR 6 (Nat.le_of_ble_eq_true rfl) rfl fun h hsz H=>?_
  refine ldI_of (H.cell 0 rfl (app_get hR 3 rfl)) ?_
  refine ldI_of (H.cell 0 rfl (app_get hR 6 rfl)) ?_
  have H2:Hp h0 F h (decL p q e bp bc { s with i:=s.i+1 }):=H
  refine byte_ok H2 hb hs.b ?_
  refine ⟨_,rfl,hext.refl _,?_⟩
  have hb2:byteD { s with i:=s.i+1 } (s.i+1)=byteD s (s.i+1):=rfl
  rw [hb2]
  refine bindI_of (((byteD s (s.i+1)*256:Nat):Int)) (by exact shl_of (i:=8) (by decide) (u32_in _ (by omega))) ?_
  refine bindI_of ((((s.c+byteD s (s.i+1)*256) % M32:Nat):Int)) (by rw [IntKind.wrap_u32,hM]; omega) ?_
  refine stV_hr H 0 rfl hR 3 (Nat.le_of_ble_eq_true rfl) rfl fun h hsz H=>?_
  refine stV_hr H 0 rfl hR 4 (Nat.le_of_ble_eq_true rfl) rfl fun h hsz H=>?_
  exact hk _ H
 ·have h1:¬ byteD s s.i≠255:=by simp at h1; omega
  rw [if_neg h1] at hk
  refine ldI_of (H.cell 0 rfl (app_get hR 6 rfl)) ?_
  refine bindI_of (((s.i+1:Nat):Int)) (by exact i64_at _ _ (by omega) (by omega) (by omega)) ?_
  refine byte_ok H hb hs.b ?_
  refine ⟨_,rfl,?_⟩
  refine bcase_of (fun h2=>?_) fun h2=>?_
  ·have h2:byteD s (s.i+1) > 143:=by simp at h2; omega
   rw [if_pos h2] at hk
   refine ldI_of (H.cell 0 rfl (app_get hR 3 rfl)) ?_
   refine bindI_of ((((s.c+65280) % M32:Nat):Int)) (by rw [IntKind.wrap_u32,hM]; omega) ?_
   refine stV_hr H 0 rfl hR 3 (Nat.le_of_ble_eq_true rfl) rfl fun h hsz H=>?_
   refine stV_hr H 0 rfl hR 4 (Nat.le_of_ble_eq_true rfl) rfl fun h hsz H=>?_
   exact hk _ H
  ·have h2:¬ byteD s (s.i+1) > 143:=by simp at h2; omega
   rw [if_neg h2] at hk
   refine ldI_of (H.cell 0 rfl (app_get hR 6 rfl)) ?_
   refine bindI_of (((s.i+1:Nat):Int)) (by exact i64_at _ _ (by omega) (by omega) (by omega)) ?_
   refine stV_hr H 0 rfl hR 6 (Nat.le_of_ble_eq_true rfl) rfl fun h hsz H=>?_
   refine ldI_of (H.cell 0 rfl (app_get hR 3 rfl)) ?_
   refine ldI_of (H.cell 0 rfl (app_get hR 6 rfl)) ?_
   have H2:Hp h0 F h (decL p q e bp bc { s with i:=s.i+1 }):=H
   refine byte_ok H2 hb hs.b ?_
   refine ⟨_,rfl,hext.refl _,?_⟩
   have hb2:byteD { s with i:=s.i+1 } (s.i+1)=byteD s (s.i+1):=rfl
   rw [hb2]
   refine bindI_of (((byteD s (s.i+1)*512:Nat):Int)) (by exact shl_of (i:=9) (by decide) (u32_in _ (by omega))) ?_
   refine bindI_of ((((s.c+byteD s (s.i+1)*512) % M32:Nat):Int)) (by rw [IntKind.wrap_u32,hM]; omega) ?_
   refine stV_hr H 0 rfl hR 3 (Nat.le_of_ble_eq_true rfl) rfl fun h hsz H=>?_
   refine stV_hr H 0 rfl hR 4 (Nat.le_of_ble_eq_true rfl) rfl fun h hsz H=>?_
   exact hk _ H
theorem shiftD_eq (s:Dec):shiftD s = { (if s.t=0 then inD s else s) with a:=2*(if s.t=0 then inD s else s).a,c:=2*(if s.t=0 then inD s else s).c % M32,t:=(if s.t=0 then inD s else s).t-1 }:=rfl
theorem renewD_succ (n:Nat) (s:Dec):renewD (n+1) s=if 0x8000<=(shiftD s).a then shiftD s else renewD n (shiftD s):=rfl
theorem renewD_ok {h:Heap} {p q:Nat} {e:Ent} {bp:Option Addr} {bc:Nat} {s:Dec} {F:List Nat} {h0:Heap} (H:Hp h0 F h (decL p q e bp bc s)) (hb:BOk e bp s.b) (hs:MidD s) (hbl:s.b.length<140737488351300) (ha:1<=s.a) (ha':s.a<0x8000)
  {K:VK} {Kp:PK} (hk:∀ h',Hp h0 F h' (decL p q e bp bc (renewD 17 s))->K (.tuple #[]) h'):CP F_arith_Decoder_renew #[.pointer (at0 p)] h K Kp:=by
 refine call_arith_Decoder_renew ?_
 unfold arith_Decoder_renew
 refine ⟨fun n vs h'=>∃ s':Dec,Hp h0 F h' (decL p q e bp bc s')/\MidD s'/\s'.a<0x8000/\0x8000<=s'.a*2 ^ n/\renewD n s'=renewD 17 s/\s'.b=s.b,
  ⟨17,s,H,hs,ha',by have:(2:Nat) ^ 17=131072:=rfl; omega,rfl,rfl⟩,?_⟩
 clear H
 rintro n h u ⟨s',H,hm,hlt,hge,he,hbe⟩
 obtain ⟨n,rfl⟩:∃ m,n=m+1:=by
  cases n with
  | zero=>simp at hge; omega
  | succ m=>exact ⟨m,rfl⟩
 obtain ⟨g1,g2,g3,g4,g5⟩:=shiftD_mid hm
 have hnext:0x8000<=(shiftD s').a*2 ^ n:=by
  rw [g2]
  rw [Nat.pow_succ] at hge
  have:s'.a*(2 ^ n*2)=2*s'.a*2 ^ n:=by rw [Nat.mul_comm (2 ^ n) 2,<- Nat.mul_assoc,Nat.mul_comm s'.a 2]
  omega
 rw [renewD_succ] at he
 rw [<- hbe] at hb hbl
 refine ⟨fun vs h'=>Hp h0 F h' (decL p q e bp bc (if s'.t=0 then inD s' else s')),?_,?_⟩
 ·try simp only [ptr_some_eq,add_mk,Nat.zero_add,Nat.add_zero]
  refine ldI_of (H.cell 0 rfl (app_get hR 4 rfl)) ?_
  refine bcase_of (fun h1=>?_) fun h1=>?_
  ·have h1:s'.t=0:=by simp at h1; omega
   refine in_ok H hb hm hbl fun h' H=>?_
   rw [if_pos h1]
   exact H
  ·have h1:¬ s'.t=0:=by simp at h1; omega
   rw [if_neg h1]
   exact H
 ·intro h u H
  rw [shiftD_eq] at g1 g2 g5 hnext he
  have hS:MidD (if s'.t=0 then inD s' else s')/\(if s'.t=0 then inD s' else s').a=s'.a/\1<=(if s'.t=0 then inD s' else s').t:=by
   split
   ·obtain ⟨i1,i2,_,_,_,i6⟩:=inD_mid hm
    exact ⟨i1,i2,i6⟩
   ·exact ⟨hm,rfl,by omega⟩
  generalize (if s'.t=0 then inD s' else s')=S at H g1 g2 g5 hnext he hS
  obtain ⟨hS1,hS2,hS3⟩:=hS
  have hSc:=hS1.c
  have hSt:=hS1.t8
  have hM:M32=4294967296:=rfl
  try simp only [ptr_some_eq,add_mk,Nat.zero_add,Nat.add_zero]
  refine ldI_of (H.cell 0 rfl (app_get hR 2 rfl)) ?_
  refine bindI_of (((2*S.a:Nat):Int)) (by exact shl_of (i:=1) (by decide) ((u32_in _ (by omega)).trans (by omega))) ?_
  refine stV_hr H 0 rfl hR 2 (Nat.le_of_ble_eq_true rfl) rfl fun h hsz H=>?_
  refine ldI_of (H.cell 0 rfl (app_get hR 3 rfl)) ?_
  refine bindI_of (((2*S.c % M32:Nat):Int)) (by exact shl_of (i:=1) (by decide) (by rw [IntKind.wrap_u32,hM]; omega)) ?_
  refine stV_hr H 0 rfl hR 3 (Nat.le_of_ble_eq_true rfl) rfl fun h hsz H=>?_
  refine ldI_of (H.cell 0 rfl (app_get hR 4 rfl)) ?_
  refine bindI_of (((S.t-1:Nat):Int)) (by exact i64_at _ _ (by omega) (by omega) (by omega)) ?_
  refine stV_hr H 0 rfl hR 4 (Nat.le_of_ble_eq_true rfl) rfl fun h hsz H=>?_
  refine ldI_of (H.cell 0 rfl (app_get hR 2 rfl)) ?_
  have H2:Hp h0 F h (decL p q e bp bc { S with a:=2*S.a,c:=2*S.c % M32,t:=S.t-1 }):=H
  refine bcase_of (fun h3=>?_) fun h3=>?_
  ·have h3:0x8000<=2*S.a:=by simp at h3; omega
   rw [if_pos h3] at he
   exact hk _ (he ▸ H2)
  ·have h3:¬ 0x8000<=2*S.a:=by simp at h3; omega
   rw [if_neg h3] at he
   exact ⟨n,Nat.lt_succ_self n,_,H2,g1,by show 2*S.a<_; omega,hnext,he,g5.trans hbe⟩
theorem dec_eq (q n:Nat) (bp:Option Addr) (bl bc:Nat):putL (putL (putL Z_arith_Decoder 0 (tabV q n)) 190 ([.int .u32 32768]:List Value)) 193 ([.slice bp bl bc]:List Value)=rowsV++drest q n 0 0x8000 0 0 bp bl bc 0:=by kernel_rfl
def dec0 (b:List Nat) (n:Nat):Dec:={ a:=0x8000,c:=0,t:=0,n:=0,st:=List.replicate n 0,b:=b,i:=0 }
theorem appC_nil {h0 h:Heap} {F:List Nat} {L:List Ent} (H:Hp h0 F h L) {t:TypeId} {by_:Nat} {z:Value} {src:Option Addr} {new:List Value} (hr:rdO h src (0*1) new) {K:Option Addr->Nat->Nat->Heap->Prop} (hk:K none 0 0 h) :
  appC h t 1 by_ [z] none 0 0 src 0 K:=⟨new,hr,by rw [if_pos (Nat.le_refl _)]; exact hk⟩
theorem newDecoder_ok {hB:Heap} {n:Nat} (h1:1<=n) (h2:n<=131072) {b:List Nat} (hb:∀ x∈b,x<256) (hbl:b.length<140737488351300) {src:Option Addr} {bc0:Nat} (hr:rdO hB src (b.length*1) (u8s b)) {K:VK} {Kp:PK}
  (hk:∀ p q e bp bc h',BOk e bp b->Hp hB [] h' (decL p q e bp bc (newD b n))->K (.tuple #[.pointer (at0 p), .int .i64 0]) h'):CP F_arith_NewDecoder #[.slice src b.length bc0, .int .i64 (n:Nat)] hB K Kp:=by
 refine call_arith_NewDecoder ?_
 unfold arith_NewDecoder
 refine made_ok h1 h2 fun q h' H=>?_
 refine ⟨tabV q n,tab_length q n,true,rfl,?_⟩
 refine newC_hp H fun t h H=>?_
 refine needs_of (tab_length q n) ?_
 refine stVs_all H 1 rfl (tab_length q n) (tab_cells q n) fun h' hsz H=>?_
 refine bcase_false (by rfl) ?_
 refine ldAll_hp H 1 rfl (tab_length q n) ?_
 have goal:∀ (bp:Option Addr) (bc:Nat) (e:Ent) (h2:Heap),BOk e bp b->Hp hB [] h2 [⟨q,true,T_uint8,u8s (List.replicate n 0)⟩,e] ->
   needs ((tabV q n).length=190/\0+190<=(Z_arith_Decoder).length) (
   needs ((([.int .u32 32768]:List Value)).length=1/\190+1<=((putL Z_arith_Decoder 0 (tabV q n))).length) <|
   needs ((([.slice bp b.length bc]:List Value)).length=1/\193+1<=((putL (putL Z_arith_Decoder 0 (tabV q n)) 190 ([.int .u32 32768]:List Value))).length) <|
   Go.Den.newC h2 ((putL (putL (putL Z_arith_Decoder 0 (tabV q n)) 190 ([.int .u32 32768]:List Value)) 193 ([.slice bp b.length bc]:List Value))) T_arith_Decoder fun r_11 h_12 =>
   CP F_arith_Decoder_byte #[.pointer (some ⟨r_11,0,none⟩), .int .i64 0] h_12 (fun v_13 h_14 =>
   ∃ (r_15:Int),v_13 = .int .u32 r_15/\(
   bindI (shlI .u32 r_15 (16:Int)) fun z_16 =>
   stV h_14 ((⟨r_11,0,none⟩:Addr).add 191) (.int .u32 z_16) fun h_17 =>
   CP F_arith_Decoder_in #[.pointer (some ⟨r_11,0,none⟩)] h_17 (fun v_18 h_19 =>
   ldI h_19 ((⟨r_11,0,none⟩:Addr).add 191) .u32 fun x_20 =>
   bindI (shlI .u32 x_20 (7:Int)) fun z_21 =>
   stV h_19 ((⟨r_11,0,none⟩:Addr).add 191) (.int .u32 z_21) fun h_22 =>
   ldI h_22 ((⟨r_11,0,none⟩:Addr).add 192) .i64 fun x_23 =>
   bindI (IntKind.i64.wrap (x_23-(7:Int))) fun z_24 =>
   stV h_22 ((⟨r_11,0,none⟩:Addr).add 192) (.int .i64 z_24) fun h_25 =>
   K (.tuple #[.pointer (some ⟨r_11,0,none⟩), .int .i64 0]) h_25) (Kp))) (Kp)):=by
  intro bp bc e h2 hbo H
  refine needs_of ⟨tab_length q n,by decide⟩ ?_
  refine needs_of ⟨rfl,by simp only [putL_length]; decide⟩ ?_
  refine needs_of ⟨rfl,by simp only [putL_length]; decide⟩ ?_
  rw [dec_eq]
  refine newC_hp H fun p h H=>?_
  have H2:=H.pick [2,0,1] (by decide) (L':=decL p q e bp bc (dec0 b n)) (by simp [decL,decE,dec0])
  have H:=H2
  clear H2
  have hb0:=byteD_lt (s:=dec0 b n) hb 0
  refine byte_ok (i:=0) H hbo hb ?_
  refine ⟨_,rfl,?_⟩
  refine bindI_of (((byteD (dec0 b n) 0*65536:Nat):Int)) (by exact shl_of (i:=16) (by decide) (u32_in _ (by omega))) ?_
  try simp only [ptr_some_eq,add_mk,Nat.zero_add,Nat.add_zero]
  refine stV_hr H 0 rfl hR 3 (Nat.le_of_ble_eq_true rfl) rfl fun h hsz H=>?_
  have H2:Hp _ [] h (decL p q e bp bc { dec0 b n with c:=byteD (dec0 b n) 0*65536 }):=H
  have hm:MidD { dec0 b n with c:=byteD (dec0 b n) 0*65536 }:=⟨Nat.zero_le _,by show byteD (dec0 b n) 0*65536<4294967296; omega,hb,fun x hx=>by simp only [dec0,List.mem_replicate] at hx; omega,Nat.zero_le _⟩
  obtain ⟨i1,i2,i3,i4,i5,i6⟩:=inD_mid hm
  refine in_ok H2 hbo hm hbl fun h H=>?_
  have hn:newD b n = { inD { dec0 b n with c:=byteD (dec0 b n) 0*65536 } with c:=(inD { dec0 b n with c:=byteD (dec0 b n) 0*65536 }).c*128 % M32,t:=(inD { dec0 b n with c:=byteD (dec0 b n) 0*65536 }).t-7 }:=rfl
  have ht7:7<=(inD { dec0 b n with c:=byteD (dec0 b n) 0*65536 }).t:=by
   unfold inD
   split
   ·show 7<=8; omega
   ·split
    ·show 7<=8; omega
    ·show 7<=7; omega
  generalize inD { dec0 b n with c:=byteD (dec0 b n) 0*65536 }=S at H hn i1 ht7
  have hSc:=i1.c
  have hSt:=i1.t8
  have hM:M32=4294967296:=rfl
  refine ldI_of (H.cell 0 rfl (app_get hR 3 rfl)) ?_
  refine bindI_of (((S.c*128 % M32:Nat):Int)) (by exact shl_of (i:=7) (by decide) (by rw [IntKind.wrap_u32,hM]; omega)) ?_
  refine stV_hr H 0 rfl hR 3 (Nat.le_of_ble_eq_true rfl) rfl fun h hsz H=>?_
  refine ldI_of (H.cell 0 rfl (app_get hR 4 rfl)) ?_
  refine bindI_of (((S.t-7:Nat):Int)) (by exact i64_at _ _ (by omega) (by omega) (by omega)) ?_
  refine stV_hr H 0 rfl hR 4 (Nat.le_of_ble_eq_true rfl) rfl fun h hsz H=>?_
  refine hk p q e bp bc _ hbo ?_
  rw [hn]
  exact H
 have hr2:=H.rdO hr
 rcases Nat.eq_zero_or_pos b.length with hz | hpos
 ·have hbn:b=[]:=List.length_eq_zero_iff.1 hz
  rw [hz] at hr2 goal ⊢
  refine appC_nil H hr2 ⟨hext.refl _,?_⟩
  exact goal none 0 ⟨t,true,T_arith_table,tabV q n⟩ _ ⟨rfl, .inl hbn⟩ H
 ·refine appC_new H hr2 (u8s_length b) hpos (by omega) fun o rest h' he H'=>⟨he,?_⟩
  ·exact goal (some ⟨o,0,none⟩) _ ⟨o,true,T_uint8,u8s b++rest⟩ _ ⟨rfl, .inr ⟨rest,rfl,rfl⟩⟩ (H'.pick [0,2] (by decide) rfl)
theorem getD_at (s:Dec) (k x:Nat) (hx:s.st[k]? = some x):getD s k =
 if s.c / 65536<qOf (x / 2) then
  if s.a-qOf (x / 2)<qOf (x / 2) then (renewD 17 { s with a:=qOf (x / 2),n:=s.n+1,st:=s.st.set k (upM x) },x % 2)
  else (renewD 17 { s with a:=qOf (x / 2),n:=s.n+1,st:=s.st.set k (upL x) },1-x % 2)
 else
  if 0x8000<=s.a-qOf (x / 2) then ({ s with a:=s.a-qOf (x / 2),c:=s.c-qOf (x / 2)*65536,n:=s.n+1 },x % 2)
  else if s.a-qOf (x / 2)<qOf (x / 2) then (renewD 17 { s with a:=s.a-qOf (x / 2),c:=s.c-qOf (x / 2)*65536,n:=s.n+1,st:=s.st.set k (upL x) },1-x % 2)
  else (renewD 17 { s with a:=s.a-qOf (x / 2),c:=s.c-qOf (x / 2)*65536,n:=s.n+1,st:=s.st.set k (upM x) },x % 2):=by
 rw [<- getD_of hx]; rfl
theorem xor_one {y:Nat} (hy:y<2):y ^^^ 1=1-y:=by
 have:∀ y∈List.range 2,y ^^^ 1=1-y:=by decide
 exact this y (List.mem_range.2 hy)
theorem get_ok {h:Heap} {p q:Nat} {e:Ent} {bp:Option Addr} {bc:Nat} {s:Dec} {F:List Nat} {h0:Heap} (H:Hp h0 F h (decL p q e bp bc s)) (hb:BOk e bp s.b) (hs:WfD s) (hbl:s.b.length<140737488351300) (hn:s.n<16777216) (hl:1<=s.st.length) (hl2:s.st.length<=131072)
  {ctx:Int} {K:VK} {Kp:PK} (hk:∀ h',Hp h0 F h' (decL p q e bp bc (getD s (idx ctx s.st.length)).1)->K (.tuple #[.int .i64 ((getD s (idx ctx s.st.length)).2:Nat), .int .i64 0]) h') :
  CP F_arith_Decoder_Get #[.pointer (at0 p), .int .i64 ctx] h K Kp:=by
 refine call_arith_Decoder_Get ?_
 unfold arith_Decoder_Get
 try simp only [ptr_some_eq,add_mk,Nat.zero_add,Nat.add_zero]
 refine ldI_of (H.cell 0 rfl (app_get hR 1 rfl)) ?_
 refine bcase_false (by simp; omega) ?_
 refine ldI_of (H.cell 0 rfl (app_get hR 1 rfl)) ?_
 refine bindI_of (((s.n+1:Nat):Int)) (by exact i64_at _ _ (by omega) (by omega) (by omega)) ?_
 refine stV_hr H 0 rfl hR 1 (Nat.le_of_ble_eq_true rfl) rfl fun h hsz H=>?_
 refine at_ok H 0 1 rfl rfl hl hl2 hs.st fun h x hx hx94 H=>?_
 refine ⟨_,_,_,_,_,rfl,?_⟩
 refine newC_hp H fun w h H=>?_
 try simp only [ptr_some_eq,add_mk,Nat.zero_add,Nat.add_zero]
 refine stV_hp H 3 rfl (by first | exact Nat.le_of_ble_eq_true rfl | simp) rfl fun h hsz H=>?_
 refine stV_hp H 3 rfl (by first | exact Nat.le_of_ble_eq_true rfl | simp) rfl fun h hsz H=>?_
 refine stV_hp H 3 rfl (by first | exact Nat.le_of_ble_eq_true rfl | simp) rfl fun h hsz H=>?_
 refine stV_hp H 3 rfl (by first | exact Nat.le_of_ble_eq_true rfl | simp) rfl fun h hsz H=>?_
 refine ldI_of (H.cell 1 rfl (u8s_get hx)) ?_
 refine bindI_of (((x % 2:Nat):Int)) (by exact (and8 _ 1 (by omega) (by omega)).trans (by rw [Nat.and_one_is_mod])) ?_
 refine bindI_of (((x % 2:Nat):Int)) (by exact i64_in _ (by omega) (by omega)) ?_
 refine ldI_of (H.cell 0 rfl (app_get hR 2 rfl)) ?_
 refine ldI_of (H.cell 3 rfl rfl) ?_
 have hr:x / 2<47:=by omega
 have hq1:=qOf_pos hr
 have hq2:=qOf_le hr
 have hlo:=hs.lo
 have hhi:=hs.hi
 have hc:=hs.c
 have hM32:M32=4294967296:=rfl
 have hM:=set_lt hs.st (k:=idx ctx s.st.length) (upM_lt hx94)
 have hL:=set_lt hs.st (k:=idx ctx s.st.length) (upL_lt hx94)
 have hil:idx ctx s.st.length<s.st.length:=idx_lt ctx hl
 rw [getD_at s _ x hx] at hk
 generalize idx ctx s.st.length=k at hk hM hL hx hil H ⊢
 refine bindI_of (((s.a-qOf (x / 2):Nat):Int)) (by exact u32_at _ _ (by omega) (by omega)) ?_
 refine stV_hr H 0 rfl hR 2 (Nat.le_of_ble_eq_true rfl) rfl fun h hsz H=>?_
 refine ldI_of (H.cell 0 rfl (app_get hR 3 rfl)) ?_
 refine bindI_of (((s.c / 65536:Nat):Int)) (by exact shr_of (i:=16) (by decide)) ?_
 refine ldI_of (H.cell 3 rfl rfl) ?_
 have hcmp:decide (((s.c / 65536:Nat):Int)<((qOf (x / 2):Nat):Int))=decide (s.c / 65536<qOf (x / 2)):=by
  by_cases h1:s.c / 65536<qOf (x / 2)
  ·rw [decide_eq_true h1]; exact decide_eq_true (by omega)
  ·rw [decide_eq_false h1]; exact decide_eq_false (by omega)
 rw [hcmp]
 have H2:Hp h0 F h (decL p q e bp bc { s with a:=s.a-qOf (x / 2),n:=s.n+1 }++[⟨w,true,T_arith_row,[.int .u32 (qOf (x / 2):Nat), .int .u8 (mOf (x / 2):Nat), .int .u8 (lOf (x / 2):Nat), .int .u8 (cOf (x / 2):Nat)]⟩]):=H
 have H:=H2
 clear H2
 refine ⟨fun vs h'=>(s.c / 65536<qOf (x / 2)/\h'=h)\/(¬ s.c / 65536<qOf (x / 2)/\¬ 0x8000<=s.a-qOf (x / 2)/\Hp h0 F h' (decL p q e bp bc { s with a:=s.a-qOf (x / 2),c:=s.c-qOf (x / 2)*65536,n:=s.n+1 }++[⟨w,true,T_arith_row,[.int .u32 (qOf (x / 2):Nat), .int .u8 (mOf (x / 2):Nat), .int .u8 (lOf (x / 2):Nat), .int .u8 (cOf (x / 2):Nat)]⟩])),?_,?_⟩
 ·refine bcase_of (fun h1=>?_) fun h1=>?_
  ·have h1:¬ s.c / 65536<qOf (x / 2):=by simpa using h1
   refine ldI_of (H.cell 0 rfl (app_get hR 3 rfl)) ?_
   refine ldI_of (H.cell 3 rfl rfl) ?_
   refine bindI_of (((qOf (x / 2)*65536:Nat):Int)) (by exact shl_of (i:=16) (by decide) (u32_in _ (by omega))) ?_
   refine bindI_of (((s.c-qOf (x / 2)*65536:Nat):Int)) (by exact u32_at _ _ (by show (s.c:Int)-((qOf (x / 2)*65536:Nat):Int)=_; omega) (by omega)) ?_
   refine stV_hr H 0 rfl hR 3 (Nat.le_of_ble_eq_true rfl) rfl fun h hsz H=>?_
   refine ldI_of (H.cell 0 rfl (app_get hR 2 rfl)) ?_
   refine bcase_of (fun h2=>?_) fun h2=>?_
   ·have h2:0x8000<=s.a-qOf (x / 2):=by simp at h2; omega
    rw [if_neg h1,if_pos h2] at hk
    exact hk _ (H.take 3)
   ·have h2:¬ 0x8000<=s.a-qOf (x / 2):=by simp at h2; omega
    exact .inr ⟨h1,h2,H⟩
  ·have h1:s.c / 65536<qOf (x / 2):=by simpa using h1
   exact .inl ⟨h1,rfl⟩
 ·rintro h' u (⟨h1,rfl⟩ | ⟨h1,h2,H'⟩)
  ·rw [decide_eq_true h1]
   rw [if_pos h1] at hk
   refine ⟨fun vs h''=>(s.a-qOf (x / 2)<qOf (x / 2)/\vs=[.int .i64 ((x % 2:Nat):Int)]/\Hp h0 F h'' (decL p q e bp bc { s with a:=s.a-qOf (x / 2),n:=s.n+1,st:=s.st.set k (upM x) }++[⟨w,true,T_arith_row,[.int .u32 (qOf (x / 2):Nat), .int .u8 (mOf (x / 2):Nat), .int .u8 (lOf (x / 2):Nat), .int .u8 (cOf (x / 2):Nat)]⟩])) \/
    (¬ s.a-qOf (x / 2)<qOf (x / 2)/\vs=[.int .i64 ((1-x % 2:Nat):Int)]/\Hp h0 F h'' (decL p q e bp bc { s with a:=s.a-qOf (x / 2),n:=s.n+1,st:=s.st.set k (upL x) }++[⟨w,true,T_arith_row,[.int .u32 (qOf (x / 2):Nat), .int .u8 (mOf (x / 2):Nat), .int .u8 (lOf (x / 2):Nat), .int .u8 (cOf (x / 2):Nat)]⟩])),?_,?_⟩
   ·refine ldI_of (H.cell 0 rfl (app_get hR 2 rfl)) ?_
    refine ldI_of (H.cell 3 rfl rfl) ?_
    refine bcase_of (fun h3=>?_) fun h3=>?_
    ·have h3:s.a-qOf (x / 2)<qOf (x / 2):=by simp at h3; omega
     refine ldI_of (H.cell 3 rfl rfl) ?_
     refine ldI_of (H.cell 3 rfl rfl) ?_
     refine ldI_of (H.cell 3 rfl rfl) ?_
     refine ldI_of (H.cell 3 rfl rfl) ?_
     refine likely_ok H 1 rfl hx hx94 rfl fun h H=>?_
     exact .inl ⟨h3,rfl,H.as (by simp [decL,decE,drest])⟩
    ·have h3:¬ s.a-qOf (x / 2)<qOf (x / 2):=by simp at h3; omega
     refine bindI_of (((1-x % 2:Nat):Int)) (by exact (xor63 _ 1 (by omega) (by omega)).trans (by rw [xor_one (by omega)])) ?_
     refine ldI_of (H.cell 3 rfl rfl) ?_
     refine ldI_of (H.cell 3 rfl rfl) ?_
     refine ldI_of (H.cell 3 rfl rfl) ?_
     refine ldI_of (H.cell 3 rfl rfl) ?_
     refine unlikely_ok H 1 rfl hx hx94 rfl rfl fun h H=>?_
     exact .inr ⟨h3,rfl,H.as (by simp [decL,decE,drest])⟩
   ·rintro h'' u y (⟨h3,hy,H⟩ | ⟨h3,hy,H⟩)
    ·injection hy with hy
     injection hy with _ hy
     subst hy
     rw [if_pos h3] at hk
     refine bcase_true (by rfl) ?_
     refine ldI_of (H.cell 3 rfl rfl) ?_
     refine stV_hr H 0 rfl hR 2 (Nat.le_of_ble_eq_true rfl) rfl fun h hsz H=>?_
     exact renewD_ok (s:={ s with a:=qOf (x / 2),n:=s.n+1,st:=s.st.set k (upM x) }) (H.take 3) hb ⟨hs.t8,hc,hs.b,hM,hs.i⟩ hbl hq1 (by show qOf _<_; omega) hk
    ·injection hy with hy
     injection hy with _ hy
     subst hy
     rw [if_neg h3] at hk
     refine bcase_true (by rfl) ?_
     refine ldI_of (H.cell 3 rfl rfl) ?_
     refine stV_hr H 0 rfl hR 2 (Nat.le_of_ble_eq_true rfl) rfl fun h hsz H=>?_
     exact renewD_ok (s:={ s with a:=qOf (x / 2),n:=s.n+1,st:=s.st.set k (upL x) }) (H.take 3) hb ⟨hs.t8,hc,hs.b,hL,hs.i⟩ hbl hq1 (by show qOf _<_; omega) hk
  ·have H:=H'
   clear H'
   rw [decide_eq_false h1]
   rw [if_neg h1,if_neg h2] at hk
   have hc':s.c-qOf (x / 2)*65536<M32:=by omega
   refine ⟨fun vs h''=>(s.a-qOf (x / 2)<qOf (x / 2)/\vs=[.int .i64 ((1-x % 2:Nat):Int)]/\Hp h0 F h'' (decL p q e bp bc { s with a:=s.a-qOf (x / 2),c:=s.c-qOf (x / 2)*65536,n:=s.n+1,st:=s.st.set k (upL x) }++[⟨w,true,T_arith_row,[.int .u32 (qOf (x / 2):Nat), .int .u8 (mOf (x / 2):Nat), .int .u8 (lOf (x / 2):Nat), .int .u8 (cOf (x / 2):Nat)]⟩])) \/
    (¬ s.a-qOf (x / 2)<qOf (x / 2)/\vs=[.int .i64 ((x % 2:Nat):Int)]/\Hp h0 F h'' (decL p q e bp bc { s with a:=s.a-qOf (x / 2),c:=s.c-qOf (x / 2)*65536,n:=s.n+1,st:=s.st.set k (upM x) }++[⟨w,true,T_arith_row,[.int .u32 (qOf (x / 2):Nat), .int .u8 (mOf (x / 2):Nat), .int .u8 (lOf (x / 2):Nat), .int .u8 (cOf (x / 2):Nat)]⟩])),?_,?_⟩
   ·refine ldI_of (H.cell 0 rfl (app_get hR 2 rfl)) ?_
    refine ldI_of (H.cell 3 rfl rfl) ?_
    refine bcase_of (fun h3=>?_) fun h3=>?_
    ·have h3:¬ s.a-qOf (x / 2)<qOf (x / 2):=by simp at h3; omega
     refine ldI_of (H.cell 3 rfl rfl) ?_
     refine ldI_of (H.cell 3 rfl rfl) ?_
     refine ldI_of (H.cell 3 rfl rfl) ?_
     refine ldI_of (H.cell 3 rfl rfl) ?_
     refine likely_ok H 1 rfl hx hx94 rfl fun h H=>?_
     exact .inr ⟨h3,rfl,H.as (by simp [decL,decE,drest])⟩
    ·have h3:s.a-qOf (x / 2)<qOf (x / 2):=by simp at h3; omega
     refine bindI_of (((1-x % 2:Nat):Int)) (by exact (xor63 _ 1 (by omega) (by omega)).trans (by rw [xor_one (by omega)])) ?_
     refine ldI_of (H.cell 3 rfl rfl) ?_
     refine ldI_of (H.cell 3 rfl rfl) ?_
     refine ldI_of (H.cell 3 rfl rfl) ?_
     refine ldI_of (H.cell 3 rfl rfl) ?_
     refine unlikely_ok H 1 rfl hx hx94 rfl rfl fun h H=>?_
     exact .inl ⟨h3,rfl,H.as (by simp [decL,decE,drest])⟩
   ·rintro h'' u y (⟨h3,hy,H⟩ | ⟨h3,hy,H⟩)
    ·injection hy with hy
     injection hy with _ hy
     subst hy
     rw [if_pos h3] at hk
     refine bcase_false (by rfl) ?_
     exact renewD_ok (s:={ s with a:=s.a-qOf (x / 2),c:=s.c-qOf (x / 2)*65536,n:=s.n+1,st:=s.st.set k (upL x) }) (H.take 3) hb ⟨hs.t8,hc',hs.b,hL,hs.i⟩ hbl (by show 1<=s.a-_; omega) (by show s.a-_<_; omega) hk
    ·injection hy with hy
     injection hy with _ hy
     subst hy
     rw [if_neg h3] at hk
     refine bcase_false (by rfl) ?_
     exact renewD_ok (s:={ s with a:=s.a-qOf (x / 2),c:=s.c-qOf (x / 2)*65536,n:=s.n+1,st:=s.st.set k (upM x) }) (H.take 3) hb ⟨hs.t8,hc',hs.b,hM,hs.i⟩ hbl (by show 1<=s.a-_; omega) (by show s.a-_<_; omega) hk
end Go.Ar
namespace Go.Ar
def codN (k b:Nat->Nat) (m:Nat):Nat->Cod
 | 0=>newC m
 | n+1=>putM (codN k b m n) (k n) (b n)
def decN (k:Nat->Nat) (bytes:List Nat) (m:Nat):Nat->Dec
 | 0=>newD bytes m
 | n+1=>(getD (decN k bytes m n) (k n)).1
end Go.Ar
namespace Go.Den.YtbknfejmdekhpaaGreat
open Go Go.Den
def burinkit_Within (C:CallP) (i:Int) (n:Int) (h:Heap) (K:VK) (Kp:PK):Prop :=
needs (IntKind.i64=IntKind.i64/\n≠0) <|
bindI (i.tmod n) fun z_1 =>
bcase (decide (z_1<(0:Int))) (
bindI (IntKind.i64.wrap (z_1+n)) fun z_2 =>
K (.int .i64 z_2) h) <|
K (.int .i64 z_1) h
end Go.Den.YtbknfejmdekhpaaGreat
namespace Go.Den.YtbknfejmdekhpaaGreat
open Go Go.Den
theorem call_burinkit_Within {i:Int} {n:Int} {h:Heap} {K:VK} {Kp:PK} (H:burinkit_Within (CallsHP Go.Proofs.Tryz.prog) i n h K Kp):CallsHP Go.Proofs.Tryz.prog F_burinkit_Within #[.int .i64 i, .int .i64 n] h K Kp :=
 callsHP_ofE (Hints.mk (fun i=>none) (fun i=>none) (fun i=>none) []) (by kernel_rfl) Go.Proofs.Tryz.func41 (by kernel_rfl) (fun C=>burinkit_Within C i n h K Kp) (fun C=>by kernel_rfl) H
end Go.Den.YtbknfejmdekhpaaGreat
namespace Go.Ar
open Go Go.Den Go.Den.YtbknfejmdekhpaaGreat
structure CodOk (m n:Nat) (s:Cod):Prop where
 wf:Wf s
 n:s.n=n
 len:s.st.length=m
 done:s.done=false
theorem newC_ok (m:Nat):CodOk m 0 (newC m):=⟨newC_wf m,rfl,by simp [newC],rfl⟩
theorem putM_ok {m n:Nat} {s:Cod} (h:CodOk m n s) (k b:Nat) (hn:n<16777216):CodOk m (n+1) (putM s k b):=by
 obtain ⟨h1,h2,h3⟩:=putM_n s k b
 exact ⟨putM_wf h.wf k b (by rw [h.n]; exact hn),by rw [h1,h.n],by rw [h2,h.len],by rw [h3,h.done]⟩
theorem renewD_st:∀ (k:Nat) (s:Dec),(renewD k s).st=s.st/\(renewD k s).n=s.n/\(renewD k s).b=s.b:=by
 have hi:∀ s:Dec,(inD s).st=s.st/\(inD s).n=s.n/\(inD s).b=s.b:=fun s=>by
  unfold inD
  split
  ·exact ⟨rfl,rfl,rfl⟩
  ·split <;> exact ⟨rfl,rfl,rfl⟩
 have hs:∀ s:Dec,(shiftD s).st=s.st/\(shiftD s).n=s.n/\(shiftD s).b=s.b:=fun s=>by
  rw [shiftD_eq]
  split
  ·exact hi s
  ·exact ⟨rfl,rfl,rfl⟩
 intro k
 induction k with
 | zero=>intro s; exact ⟨rfl,rfl,rfl⟩
 | succ k ih =>
  intro s
  obtain ⟨h1,h2,h3⟩:=hs s
  rw [renewD_succ]
  split
  ·exact ⟨h1,h2,h3⟩
  ·obtain ⟨g1,g2,g3⟩:=ih (shiftD s)
   exact ⟨g1.trans h1,g2.trans h2,g3.trans h3⟩
theorem getD_n (s:Dec) (k:Nat):(getD s k).1.n=s.n+1/\(getD s k).1.st.length=s.st.length/\(getD s k).1.b=s.b:=by
 have hr:∀ S:Dec,S.n=s.n+1->S.st.length=s.st.length->S.b=s.b->(renewD 17 S).n=s.n+1/\(renewD 17 S).st.length=s.st.length/\(renewD 17 S).b=s.b:=fun S e1 e2 e3=>by
  obtain ⟨h1,h2,h3⟩:=renewD_st 17 S
  exact ⟨h2.trans e1,by rw [h1,e2],h3.trans e3⟩
 unfold getD
 simp only []
 split
 ·split
  ·exact hr _ rfl (List.length_set ..) rfl
  ·exact hr _ rfl (List.length_set ..) rfl
 ·split
  ·exact ⟨rfl,rfl,rfl⟩
  ·split
   ·exact hr _ rfl (List.length_set ..) rfl
   ·exact hr _ rfl (List.length_set ..) rfl
theorem getD_bit {s:Dec} (k:Nat):(getD s k).2<=1:=by
 have:s.st.getD k 0 % 2<2:=Nat.mod_lt _ (by omega)
 unfold getD
 simp only []
 split
 ·split
  ·show s.st.getD k 0 % 2<=1; omega
  ·show 1-s.st.getD k 0 % 2<=1; omega
 ·split
  ·show s.st.getD k 0 % 2<=1; omega
  ·split
   ·show 1-s.st.getD k 0 % 2<=1; omega
   ·show s.st.getD k 0 % 2<=1; omega
theorem newD_wf {b:List Nat} (hb:∀ x∈b,x<256) (n:Nat):WfD (newD b n)/\(newD b n).n=0/\(newD b n).st.length=n/\(newD b n).b=b:=by
 have hm:MidD { dec0 b n with c:=byteD (dec0 b n) 0*65536 }:=⟨Nat.zero_le _,by
  show byteD (dec0 b n) 0*65536<4294967296
  have:=byteD_lt (s:=dec0 b n) hb 0
  omega,hb,fun x hx=>by simp only [dec0,List.mem_replicate] at hx; omega,Nat.zero_le _⟩
 obtain ⟨i1,i2,i3,i4,i5,i6⟩:=inD_mid hm
 have hn:newD b n = { inD { dec0 b n with c:=byteD (dec0 b n) 0*65536 } with c:=(inD { dec0 b n with c:=byteD (dec0 b n) 0*65536 }).c*128 % M32,t:=(inD { dec0 b n with c:=byteD (dec0 b n) 0*65536 }).t-7 }:=rfl
 generalize inD { dec0 b n with c:=byteD (dec0 b n) 0*65536 }=S at hn i1 i2 i3 i4 i5
 rw [hn]
 have e2:S.a=0x8000:=i2
 have e3:S.n=0:=i3
 have e4:S.st=List.replicate n 0:=i4
 have e5:S.b=b:=i5
 refine ⟨⟨⟨by show S.t-7<=8; have:=i1.t8; omega,Nat.mod_lt _ (by decide),i1.b,i1.st,i1.i⟩,by show S.n<=_; omega,by show _<=S.a; omega,by show S.a<_; omega⟩,e3,?_,e5⟩
 show S.st.length=n
 rw [e4]
 simp
structure DecOk (bytes:List Nat) (m n:Nat) (s:Dec):Prop where
 wf:WfD s
 n:s.n=n
 len:s.st.length=m
 b:s.b=bytes
theorem newD_ok {b:List Nat} (hb:∀ x∈b,x<256) (m:Nat):DecOk b m 0 (newD b m):=by
 obtain ⟨h1,h2,h3,h4⟩:=newD_wf hb m
 exact ⟨h1,h2,h3,h4⟩
theorem getD_ok {b:List Nat} {m n:Nat} {s:Dec} (h:DecOk b m n s) (k:Nat) (hn:n<16777216):DecOk b m (n+1) (getD s k).1:=by
 obtain ⟨h1,h2,h3⟩:=getD_n s k
 exact ⟨getD_wf h.wf k (by rw [h.n]; exact hn),by rw [h1,h.n],by rw [h2,h.len],by rw [h3,h.b]⟩
theorem outM_lt {s:Cod} (hl:s.l<256) (hb:∀ x∈s.bs,x<256):(outM s).l<256/\∀ x∈(outM s).bs,x<256:=by
 have hm:∀ (l c:Nat),l<256->(outTail s l c).l<256/\∀ x∈(outTail s l c).bs,x<256:=fun l c h=>by
  have h2:∀ x∈s.bs++[l],x<256:=fun x hx=>by
   rcases List.mem_append.1 hx with h3 | h3
   ·exact hb x h3
   ·rw [List.mem_singleton.1 h3]; exact h
  unfold outTail
  split
  ·exact ⟨Nat.mod_lt _ (by omega),h2⟩
  ·exact ⟨Nat.mod_lt _ (by omega),h2⟩
 unfold outM
 split
 ·exact hm _ _ (by omega)
 ·exact hm _ _ hl
theorem flushM_lt {s:Cod} (h:Wf s):∀ x∈bytesM (flushM s),x<256:=by
 have h1:(flushS { s with c:=flushC s,done:=true }).l<256/\∀ x∈(flushS { s with c:=flushC s,done:=true }).bs,x<256:=outM_lt (s:={ s with c:=flushC s*2 ^ s.t,done:=true }) h.l h.bs
 have h2:(flushM s).l<256/\∀ x∈(flushM s).bs,x<256:=outM_lt (s:={ flushS { s with c:=flushC s,done:=true } with c:=(flushS { s with c:=flushC s,done:=true }).c*2 ^ (flushS { s with c:=flushC s,done:=true }).t }) h1.1 h1.2
 have h3:∀ x∈(flushM s).bs++[(flushM s).l],x<256:=fun x hx=>by
  rcases List.mem_append.1 hx with h4 | h4
  ·exact h2.2 x h4
  ·rw [List.mem_singleton.1 h4]; exact h2.1
 intro x hx
 unfold bytesM at hx
 simp only [] at hx
 split at hx
 ·exact h3 x (List.mem_of_mem_drop ((List.dropLast_sublist _).subset hx))
 ·exact h3 x (List.mem_of_mem_drop hx)
theorem flushM_len (s:Cod):(bytesM (flushM s)).length<=s.bs.length+3:=by
 have h1:(flushS { s with c:=flushC s,done:=true }).bs.length=s.bs.length+1:=(outM_same _).2.2.2.2
 have h2:(flushM s).bs.length=(flushS { s with c:=flushC s,done:=true }).bs.length+1:=(outM_same _).2.2.2.2
 unfold bytesM
 simp only []
 split
 ·simp; omega
 ·simp; omega
end Go.Ar
namespace Go.Ar
open Go Go.Den Go.Den.YtbknfejmdekhpaaGreat
end Go.Ar
namespace Go.Ar
open Go Go.Den Go.Den.YtbknfejmdekhpaaGreat
theorem add_add' (a:Addr) (m n:Nat):(a.add m).add n=a.add (m+n):=by
 unfold Addr.add
 by_cases h1:m=0
 ·subst h1; simp
 ·by_cases h2:n=0
  ·subst h2; simp
  ·rw [if_neg h1,if_neg h2,if_neg (by omega)]
   simp [Nat.add_assoc]
end Go.Ar
namespace Go.Den.YtbknfejmdekhpaaGreat
open Go Go.Den
end Go.Den.YtbknfejmdekhpaaGreat
namespace Go.Den.YtbknfejmdekhpaaGreat
open Go Go.Den
end Go.Den.YtbknfejmdekhpaaGreat
namespace Go.Ar
open Go Go.Den Go.Den.YtbknfejmdekhpaaGreat
end Go.Ar
namespace Go.Ar
open Go Go.Den Go.Den.YtbknfejmdekhpaaGreat
end Go.Ar
namespace Go.Ar
open Go Go.Den Go.Den.YtbknfejmdekhpaaGreat
structure RP where
 p:Nat
 g:Nat
 gc:Nat
 sq:Nat
 bq:Nat
 grest:List Value
end Go.Ar
namespace Go.Ar
open Go Go.Den Go.Den.YtbknfejmdekhpaaGreat
end Go.Ar
namespace Go.Ar
open Go Go.Den Go.Den.YtbknfejmdekhpaaGreat
end Go.Ar
namespace Go.Ar
open Go Go.Den Go.Den.YtbknfejmdekhpaaGreat
end Go.Ar
namespace Go.Ar
open Go Go.Den Go.Den.YtbknfejmdekhpaaGreat
end Go.Ar
namespace Go.Ar
open Go Go.Den Go.Den.YtbknfejmdekhpaaGreat
theorem contexts_ok {h:Heap} {p q n:Nat} {F:List Nat} {h0:Heap} {L:List Ent} (H:Hp h0 F h L) (kp:Nat) {w:Bool} {t:TypeId} {T:List Value} (hp:L[kp]? = some ⟨p,w,t,rowsV++(.slice (some ⟨q,0,none⟩) n n::T)⟩)
  {K:VK} {Kp:PK} (hk:K (.int .i64 (n:Nat)) h):CP F_arith_table_Contexts #[.pointer (at0 p)] h K Kp:=by
 refine call_arith_table_Contexts ?_
 unfold arith_table_Contexts
 try simp only [ptr_some_eq,add_mk,Nat.zero_add,Nat.add_zero]
 refine ldS_of (H.cell kp hp (app_get hR 0 rfl)) ?_
 exact hk
end Go.Ar
namespace Go.Ar
open Go Go.Den Go.Den.YtbknfejmdekhpaaGreat
end Go.Ar
namespace Go.Bm
open Go Go.Den Go.Den.YtbknfejmdekhpaaGreat
theorem newC_hpx {h0 h:Heap} {F:List Nat} {L:List Ent} (H:Hp h0 F h L) {t:TypeId} {cs:List Value} {K:Nat->Heap->Prop} (hk:∀ r h',hext h h'->Hp h0 F h' (L++[⟨r,true,t,cs⟩])->K r h'):newC h cs t K:=hk _ _ (hext.push h _) (H.new t cs)
theorem rdO_ext {h h':Heap} (e:hext h h') {a:Option Addr} {n:Nat} {vs:List Value} (hr:rdO h a n vs):rdO h' a n vs :=
 Fr.rdO (F:=[]) ⟨e.1,fun b hb _=>e.2 b hb⟩ (fun _ _=>by simp) hr
theorem Slot.rdO' {h0 h:Heap} {F:List Nat} {L D:List Ent} {t:TypeId} {sz n c:Nat} {q:Option Addr} {xs:List Value} (hd:Slot t sz D q n c xs) (H:Hp h0 F h L) (hs:∀ e∈D,e∈L):rdO h q (n*sz) xs:=by
 obtain ⟨hl,⟨rfl,rfl,rfl,rfl⟩ | ⟨b,rest,rfl,rfl,hc⟩⟩:=hd
 ·rw [Nat.zero_mul] at hl ⊢
  rw [List.length_eq_zero_iff.1 hl]
  exact rfl
 ·exact H.rdO_mem (hs _ (List.mem_singleton.2 rfl)) hl
structure Pg where
 W:Nat
 X:Nat
 d:Nat
 s:Nat
 ws:List Nat
 nx:Nat
 dn:Bool
structure PgOk (g:Pg):Prop where
 size:SizeP (g.W:Int) (g.X:Int)
 len:g.ws.length=g.X*wds g.W
 w:W64 g.ws
 nx:g.nx<=g.X
 s:g.s<=1048576
theorem PgOk.b {g:Pg} (h:PgOk g):1<=g.W/\g.W<=1048576/\1<=g.X/\g.X<=1048576/\1<=g.ws.length/\g.ws.length<=1048576:=by
 obtain ⟨W',X',e1,e2,hW1,hW2,hX1,hX2,hWX⟩:=size_nat h.size
 have e1:g.W=W':=by omega
 have e2:g.X=X':=by omega
 rw [h.len,e1,e2]
 have:=hw_le hW1 hWX
 have h1:1<=X'*wds W':=Nat.mul_pos hX1 (wds_pos hW1)
 omega
theorem pix_zero (n wd x y:Nat):pix (List.replicate n 0) wd x y=false:=by
 unfold pix
 rw [List.getD_eq_getElem?_getD]
 cases h:(List.replicate n 0)[y*wd+x / 64]? with
 | none=>exact Nat.zero_testBit _
 | some v=>rw [(List.mem_replicate.1 (List.mem_of_getElem? h)).2]; exact Nat.zero_testBit _
end Go.Bm
namespace Go.Bm
open Go Go.Den Go.Den.YtbknfejmdekhpaaGreat
end Go.Bm
namespace Go.Bm
open Go Go.Den Go.Den.YtbknfejmdekhpaaGreat
end Go.Bm
