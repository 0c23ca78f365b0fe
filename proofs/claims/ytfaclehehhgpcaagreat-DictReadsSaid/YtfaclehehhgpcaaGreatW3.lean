/- W3: put together by wip/tools/bundle.py: Marith Barith ArB ArC ArD ArK Mburinkit Bburinkit ArE ArF ArG Mburinref4 Bburinref4 ArR ArS ArT ArU ArV ArW ArX ArH ArY Mpage Bpage Mburinref15 Bburinref15 PgA PgB Mlaw15x Blaw15x PgC PgD PgF RfE RfF. -/
import Derived.Test.YtfaclehehhgpcaaGreatW1
import Derived.Test.YtfaclehehhgpcaaGreatW2
import Derived.Test.YtfaclehehhgpcaaGreatProg
set_option linter.unusedVariables false
set_option linter.unusedSimpArgs false
set_option maxRecDepth 100000
namespace Go.Den.YtfaclehehhgpcaaGreat
open Go Go.Den
def arith_New (C:CallP) (contexts:Int) (h:Heap) (K:VK) (Kp:PK):Prop :=
C F_arith_made #[.int .i64 contexts] h (fun v_1 h_2 =>
∃ (cs_3:List Value),cs_3.length=190/\∃ (r_4:Bool),v_1 = .tuple #[.agg (cs_3).toArray, .bool r_4]/\(
newC h_2 Z_arith_table T_arith_table fun r_5 h_6 =>
needs ((cs_3).length=190)<|stVs h_6 (⟨r_5,0,none⟩:Addr) 0 (cs_3) fun h_7 =>
bcase (!r_4) (
K (.tuple #[.pointer none, .int .i64 40]) h_7) <|
ldAll h_7 (⟨r_5,0,none⟩:Addr) 190 fun cs_8 =>
newC h_7 [.int .u8 0] T_uint8 fun r_9 h_10 =>
needs ((cs_8).length=190/\0+190<=(Z_arith_Coder).length) <|
needs ((([.int .u32 32768]:List Value)).length=1/\190+1<=((putL Z_arith_Coder 0 cs_8)).length) <|
needs ((([.int .i64 12]:List Value)).length=1/\192+1<=((putL (putL Z_arith_Coder 0 cs_8) 190 ([.int .u32 32768]:List Value))).length) <|
needs ((([.slice (some ⟨r_9,0,none⟩) 1 1]:List Value)).length=1/\193+1<=((putL (putL (putL Z_arith_Coder 0 cs_8) 190 ([.int .u32 32768]:List Value)) 192 ([.int .i64 12]:List Value))).length) <|
newC h_10 ((putL (putL (putL (putL Z_arith_Coder 0 cs_8) 190 ([.int .u32 32768]:List Value)) 192 ([.int .i64 12]:List Value)) 193 ([.slice (some ⟨r_9,0,none⟩) 1 1]:List Value))) T_arith_Coder fun r_11 h_12 =>
K (.tuple #[.pointer (some ⟨r_11,0,none⟩), .int .i64 0]) h_12)) (Kp)
def arith_Coder_Flush (C:CallP) (a0:Option Addr) (h:Heap) (K:VK) (Kp:PK):Prop :=
ptr a0 fun a_1 =>
ldB h (a_1.add 194) fun x_2 =>
bcase x_2 (
K (.tuple #[.slice none 0 0, .int .i64 43]) h) <|
ptr a0 fun a_3 =>
stV h (a_3.add 194) (.bool true) fun h_4 =>
ptr a0 fun a_5 =>
ptr a0 fun a_6 =>
ldI h_4 (a_5.add 191) .u32 fun x_7 =>
ldI h_4 (a_6.add 190) .u32 fun x_8 =>
bindI (IntKind.u32.wrap (x_7+x_8)) fun z_9 =>
∃ K_10:List Value->Heap->Prop,(
ptr a0 fun a_13 =>
ldI h_4 (a_13.add 191) .u32 fun x_14 =>
bindI (bitI .or .u32 x_14 (65535:Int)) fun z_15 =>
ptr a0 fun a_16 =>
stV h_4 (a_16.add 191) (.int .u32 z_15) fun h_17 =>
ptr a0 fun a_18 =>
ldI h_17 (a_18.add 191) .u32 fun x_19 =>
bcase (decide (x_19≥z_9)) (
ptr a0 fun a_20 =>
ldI h_17 (a_20.add 191) .u32 fun x_21 =>
bindI (IntKind.u32.wrap (x_21-(32768:Int))) fun z_22 =>
ptr a0 fun a_23 =>
stV h_17 (a_23.add 191) (.int .u32 z_22) fun h_24 =>
K_10 [] h_24) <|
K_10 [] h_17)/\∀ (h_11:Heap) (u_12:Nat->Value) ,K_10 [] h_11->(
∃ J_25:Nat->List Value->Heap->Prop,(∃ n_27,J_25 n_27 [.int .i64 0] h_11)/\∀ (n_27:Nat) (h_28:Heap) (u_29:Nat->Value) (x_30:Int),J_25 n_27 [.int .i64 x_30] h_28->(
bcase (decide (x_30<(2:Int))) (
ptr a0 fun a_31 =>
ptr a0 fun a_32 =>
ldI h_28 (a_31.add 191) .u32 fun x_33 =>
ldI h_28 (a_32.add 192) .i64 fun x_34 =>
needs (0<=x_34) <|
bindI (shlI .u32 x_33 x_34) fun z_35 =>
ptr a0 fun a_36 =>
stV h_28 (a_36.add 191) (.int .u32 z_35) fun h_37 =>
C F_arith_Coder_out #[.pointer a0] h_37 (fun v_38 h_39 =>
bindI (IntKind.i64.wrap (x_30+(1:Int))) fun z_40 =>
∃ m_26,m_26<n_27/\J_25 m_26 [.int .i64 z_40] h_39) (Kp)) <|
ptr a0 fun a_41 =>
ldS h_28 (a_41.add 193) fun x_42 x_42n x_42c =>
needs (0<=(1:Int)/\(1:Int)<=((x_42n:Nat):Int)) <|
bindI (IntKind.i64.wrap ((((x_42n-(1:Int).toNat):Nat):Int)-(1:Int))) fun z_43 =>
needs (0<=z_43/\z_43<(((x_42n-(1:Int).toNat):Nat):Int)) <|
ptr (subA x_42 (x_42c) ((1:Int).toNat) 1) fun a_44 =>
ldI h_28 (a_44.add (z_43.toNat*1)) .u8 fun x_45 =>
bcase (x_45 == (255:Int)) (
bindI (IntKind.i64.wrap ((((x_42n-(1:Int).toNat):Nat):Int)-(1:Int))) fun z_46 =>
needs (0<=z_46/\z_46<=(((x_42c-(1:Int).toNat):Nat):Int)) <|
appC h_28 T_uint8 1 1 [.int .u8 0] none (0) (0) (subA (subA x_42 (x_42c) ((1:Int).toNat) 1) ((x_42c-(1:Int).toNat)) (0) 1) ((z_46.toNat-0)) fun q_47 q_47n q_47c h_48 =>
K (.tuple #[.slice q_47 q_47n q_47c, .int .i64 0]) h_48) <|
appC h_28 T_uint8 1 1 [.int .u8 0] none (0) (0) (subA x_42 (x_42c) ((1:Int).toNat) 1) ((x_42n-(1:Int).toNat)) fun q_49 q_49n q_49c h_50 =>
K (.tuple #[.slice q_49 q_49n q_49c, .int .i64 0]) h_50))
def arith_NewDecoder (C:CallP) (b:Option Addr) (bn:Nat) (bc:Nat) (contexts:Int) (h:Heap) (K:VK) (Kp:PK):Prop :=
C F_arith_made #[.int .i64 contexts] h (fun v_1 h_2 =>
∃ (cs_3:List Value),cs_3.length=190/\∃ (r_4:Bool),v_1 = .tuple #[.agg (cs_3).toArray, .bool r_4]/\(
newC h_2 Z_arith_table T_arith_table fun r_5 h_6 =>
needs ((cs_3).length=190)<|stVs h_6 (⟨r_5,0,none⟩:Addr) 0 (cs_3) fun h_7 =>
bcase (!r_4) (
K (.tuple #[.pointer none, .int .i64 40]) h_7) <|
ldAll h_7 (⟨r_5,0,none⟩:Addr) 190 fun cs_8 =>
appC h_7 T_uint8 1 1 [.int .u8 0] none (0) (0) b (bn) fun q_9 q_9n q_9c h_10 =>
hext h_7 h_10/\(
needs ((cs_8).length=190/\0+190<=(Z_arith_Decoder).length) <|
needs ((([.int .u32 32768]:List Value)).length=1/\190+1<=((putL Z_arith_Decoder 0 cs_8)).length) <|
needs ((([.slice q_9 q_9n q_9c]:List Value)).length=1/\193+1<=((putL (putL Z_arith_Decoder 0 cs_8) 190 ([.int .u32 32768]:List Value))).length) <|
newC h_10 ((putL (putL (putL Z_arith_Decoder 0 cs_8) 190 ([.int .u32 32768]:List Value)) 193 ([.slice q_9 q_9n q_9c]:List Value))) T_arith_Decoder fun r_11 h_12 =>
C F_arith_Decoder_byte #[.pointer (some ⟨r_11,0,none⟩), .int .i64 0] h_12 (fun v_13 h_14 =>
∃ (r_15:Int),v_13 = .int .u32 r_15/\(
bindI (shlI .u32 r_15 (16:Int)) fun z_16 =>
stV h_14 ((⟨r_11,0,none⟩:Addr).add 191) (.int .u32 z_16) fun h_17 =>
C F_arith_Decoder_in #[.pointer (some ⟨r_11,0,none⟩)] h_17 (fun v_18 h_19 =>
ldI h_19 ((⟨r_11,0,none⟩:Addr).add 191) .u32 fun x_20 =>
bindI (shlI .u32 x_20 (7:Int)) fun z_21 =>
stV h_19 ((⟨r_11,0,none⟩:Addr).add 191) (.int .u32 z_21) fun h_22 =>
ldI h_22 ((⟨r_11,0,none⟩:Addr).add 192) .i64 fun x_23 =>
bindI (IntKind.i64.wrap (x_23-(7:Int))) fun z_24 =>
stV h_22 ((⟨r_11,0,none⟩:Addr).add 192) (.int .i64 z_24) fun h_25 =>
K (.tuple #[.pointer (some ⟨r_11,0,none⟩), .int .i64 0]) h_25) (Kp))) (Kp)))) (Kp)
def arith_made (C:CallP) (contexts:Int) (h:Heap) (K:VK) (Kp:PK):Prop :=
newC h Z_arith_table T_arith_table fun r_1 h_2 =>
bcase (decide (contexts<(1:Int))) (
stVs h_2 (⟨r_1,0,none⟩:Addr) 0 [.int .u32 0, .int .u8 0, .int .u8 0, .int .u8 0, .int .u32 0, .int .u8 0, .int .u8 0, .int .u8 0, .int .u32 0, .int .u8 0, .int .u8 0, .int .u8 0, .int .u32 0, .int .u8 0, .int .u8 0, .int .u8 0, .int .u32 0, .int .u8 0, .int .u8 0, .int .u8 0, .int .u32 0, .int .u8 0, .int .u8 0, .int .u8 0, .int .u32 0, .int .u8 0, .int .u8 0, .int .u8 0, .int .u32 0, .int .u8 0, .int .u8 0, .int .u8 0, .int .u32 0, .int .u8 0, .int .u8 0, .int .u8 0, .int .u32 0, .int .u8 0, .int .u8 0, .int .u8 0, .int .u32 0, .int .u8 0, .int .u8 0, .int .u8 0, .int .u32 0, .int .u8 0, .int .u8 0, .int .u8 0, .int .u32 0, .int .u8 0, .int .u8 0, .int .u8 0, .int .u32 0, .int .u8 0, .int .u8 0, .int .u8 0, .int .u32 0, .int .u8 0, .int .u8 0, .int .u8 0, .int .u32 0, .int .u8 0, .int .u8 0, .int .u8 0, .int .u32 0, .int .u8 0, .int .u8 0, .int .u8 0, .int .u32 0, .int .u8 0, .int .u8 0, .int .u8 0, .int .u32 0, .int .u8 0, .int .u8 0, .int .u8 0, .int .u32 0, .int .u8 0, .int .u8 0, .int .u8 0, .int .u32 0, .int .u8 0, .int .u8 0, .int .u8 0, .int .u32 0, .int .u8 0, .int .u8 0, .int .u8 0, .int .u32 0, .int .u8 0, .int .u8 0, .int .u8 0, .int .u32 0, .int .u8 0, .int .u8 0, .int .u8 0, .int .u32 0, .int .u8 0, .int .u8 0, .int .u8 0, .int .u32 0, .int .u8 0, .int .u8 0, .int .u8 0, .int .u32 0, .int .u8 0, .int .u8 0, .int .u8 0, .int .u32 0, .int .u8 0, .int .u8 0, .int .u8 0, .int .u32 0, .int .u8 0, .int .u8 0, .int .u8 0, .int .u32 0, .int .u8 0, .int .u8 0, .int .u8 0, .int .u32 0, .int .u8 0, .int .u8 0, .int .u8 0, .int .u32 0, .int .u8 0, .int .u8 0, .int .u8 0, .int .u32 0, .int .u8 0, .int .u8 0, .int .u8 0, .int .u32 0, .int .u8 0, .int .u8 0, .int .u8 0, .int .u32 0, .int .u8 0, .int .u8 0, .int .u8 0, .int .u32 0, .int .u8 0, .int .u8 0, .int .u8 0, .int .u32 0, .int .u8 0, .int .u8 0, .int .u8 0, .int .u32 0, .int .u8 0, .int .u8 0, .int .u8 0, .int .u32 0, .int .u8 0, .int .u8 0, .int .u8 0, .int .u32 0, .int .u8 0, .int .u8 0, .int .u8 0, .int .u32 0, .int .u8 0, .int .u8 0, .int .u8 0, .int .u32 0, .int .u8 0, .int .u8 0, .int .u8 0, .int .u32 0, .int .u8 0, .int .u8 0, .int .u8 0, .int .u32 0, .int .u8 0, .int .u8 0, .int .u8 0, .int .u32 0, .int .u8 0, .int .u8 0, .int .u8 0, .int .u32 0, .int .u8 0, .int .u8 0, .int .u8 0, .int .u32 0, .int .u8 0, .int .u8 0, .int .u8 0, .slice none 0 0, .int .i64 0] fun h_3 =>
ldAll h_3 (⟨r_1,0,none⟩:Addr) 190 fun cs_4 =>
K (.tuple #[.agg (cs_4).toArray, .bool false]) h_3) <|
bcase (decide (contexts > (131072:Int))) (
stVs h_2 (⟨r_1,0,none⟩:Addr) 0 [.int .u32 0, .int .u8 0, .int .u8 0, .int .u8 0, .int .u32 0, .int .u8 0, .int .u8 0, .int .u8 0, .int .u32 0, .int .u8 0, .int .u8 0, .int .u8 0, .int .u32 0, .int .u8 0, .int .u8 0, .int .u8 0, .int .u32 0, .int .u8 0, .int .u8 0, .int .u8 0, .int .u32 0, .int .u8 0, .int .u8 0, .int .u8 0, .int .u32 0, .int .u8 0, .int .u8 0, .int .u8 0, .int .u32 0, .int .u8 0, .int .u8 0, .int .u8 0, .int .u32 0, .int .u8 0, .int .u8 0, .int .u8 0, .int .u32 0, .int .u8 0, .int .u8 0, .int .u8 0, .int .u32 0, .int .u8 0, .int .u8 0, .int .u8 0, .int .u32 0, .int .u8 0, .int .u8 0, .int .u8 0, .int .u32 0, .int .u8 0, .int .u8 0, .int .u8 0, .int .u32 0, .int .u8 0, .int .u8 0, .int .u8 0, .int .u32 0, .int .u8 0, .int .u8 0, .int .u8 0, .int .u32 0, .int .u8 0, .int .u8 0, .int .u8 0, .int .u32 0, .int .u8 0, .int .u8 0, .int .u8 0, .int .u32 0, .int .u8 0, .int .u8 0, .int .u8 0, .int .u32 0, .int .u8 0, .int .u8 0, .int .u8 0, .int .u32 0, .int .u8 0, .int .u8 0, .int .u8 0, .int .u32 0, .int .u8 0, .int .u8 0, .int .u8 0, .int .u32 0, .int .u8 0, .int .u8 0, .int .u8 0, .int .u32 0, .int .u8 0, .int .u8 0, .int .u8 0, .int .u32 0, .int .u8 0, .int .u8 0, .int .u8 0, .int .u32 0, .int .u8 0, .int .u8 0, .int .u8 0, .int .u32 0, .int .u8 0, .int .u8 0, .int .u8 0, .int .u32 0, .int .u8 0, .int .u8 0, .int .u8 0, .int .u32 0, .int .u8 0, .int .u8 0, .int .u8 0, .int .u32 0, .int .u8 0, .int .u8 0, .int .u8 0, .int .u32 0, .int .u8 0, .int .u8 0, .int .u8 0, .int .u32 0, .int .u8 0, .int .u8 0, .int .u8 0, .int .u32 0, .int .u8 0, .int .u8 0, .int .u8 0, .int .u32 0, .int .u8 0, .int .u8 0, .int .u8 0, .int .u32 0, .int .u8 0, .int .u8 0, .int .u8 0, .int .u32 0, .int .u8 0, .int .u8 0, .int .u8 0, .int .u32 0, .int .u8 0, .int .u8 0, .int .u8 0, .int .u32 0, .int .u8 0, .int .u8 0, .int .u8 0, .int .u32 0, .int .u8 0, .int .u8 0, .int .u8 0, .int .u32 0, .int .u8 0, .int .u8 0, .int .u8 0, .int .u32 0, .int .u8 0, .int .u8 0, .int .u8 0, .int .u32 0, .int .u8 0, .int .u8 0, .int .u8 0, .int .u32 0, .int .u8 0, .int .u8 0, .int .u8 0, .int .u32 0, .int .u8 0, .int .u8 0, .int .u8 0, .int .u32 0, .int .u8 0, .int .u8 0, .int .u8 0, .int .u32 0, .int .u8 0, .int .u8 0, .int .u8 0, .int .u32 0, .int .u8 0, .int .u8 0, .int .u8 0, .int .u32 0, .int .u8 0, .int .u8 0, .int .u8 0, .slice none 0 0, .int .i64 0] fun h_5 =>
ldAll h_5 (⟨r_1,0,none⟩:Addr) 190 fun cs_6 =>
K (.tuple #[.agg (cs_6).toArray, .bool false]) h_5) <|
(
C F_arith_rows #[] h_2 (fun v_7 h_8 =>
∃ (cs_9:List Value),cs_9.length=188/\v_7 = .agg (cs_9).toArray/\(
hext h_2 h_8/\(
needs (0<=contexts/\contexts<=contexts/\contexts<=9223372036854775807/\((1:Nat):Int)*contexts<=281474976710656) <|
newC h_8 (repZ [.int .u8 0] contexts.toNat) T_uint8 fun r_10 h_11 =>
needs ((cs_9).length=188/\0+188<=(Z_arith_table).length) <|
needs ((([.slice (some ⟨r_10,0,none⟩) contexts.toNat contexts.toNat]:List Value)).length=1/\188+1<=((putL Z_arith_table 0 cs_9)).length) <|
needs (((putL (putL Z_arith_table 0 cs_9) 188 ([.slice (some ⟨r_10,0,none⟩) contexts.toNat contexts.toNat]:List Value))).length=190)<|stVs h_11 (⟨r_1,0,none⟩:Addr) 0 ((putL (putL Z_arith_table 0 cs_9) 188 ([.slice (some ⟨r_10,0,none⟩) contexts.toNat contexts.toNat]:List Value))) fun h_12 =>
ldAll h_12 (⟨r_1,0,none⟩:Addr) 190 fun cs_13 =>
K (.tuple #[.agg (cs_13).toArray, .bool true]) h_12))) (Kp))/\(
needs (0<=contexts/\contexts<=contexts/\contexts<=9223372036854775807/\((1:Nat):Int)*contexts<=281474976710656) <|
newC h_2 (repZ [.int .u8 0] contexts.toNat) T_uint8 fun r_14 h_15 =>
C F_arith_rows #[] h_15 (fun v_16 h_17 =>
∃ (cs_18:List Value),cs_18.length=188/\v_16 = .agg (cs_18).toArray/\(
hext h_15 h_17/\(
needs ((cs_18).length=188/\0+188<=(Z_arith_table).length) <|
needs ((([.slice (some ⟨r_14,0,none⟩) contexts.toNat contexts.toNat]:List Value)).length=1/\188+1<=((putL Z_arith_table 0 cs_18)).length) <|
needs (((putL (putL Z_arith_table 0 cs_18) 188 ([.slice (some ⟨r_14,0,none⟩) contexts.toNat contexts.toNat]:List Value))).length=190)<|stVs h_17 (⟨r_1,0,none⟩:Addr) 0 ((putL (putL Z_arith_table 0 cs_18) 188 ([.slice (some ⟨r_14,0,none⟩) contexts.toNat contexts.toNat]:List Value))) fun h_19 =>
ldAll h_19 (⟨r_1,0,none⟩:Addr) 190 fun cs_20 =>
K (.tuple #[.agg (cs_20).toArray, .bool true]) h_19))) (Kp))
def arith_Coder_out (C:CallP) (a0:Option Addr) (h:Heap) (K:VK) (Kp:PK):Prop :=
ptr a0 fun a_1 =>
ptr a0 fun a_2 =>
ldS h (a_1.add 193) fun x_3 x_3n x_3c =>
ldS h (a_2.add 193) fun x_4 x_4n x_4c =>
bindI (IntKind.i64.wrap ((x_4n:Int)-(1:Int))) fun z_5 =>
needs (0<=z_5/\z_5<(x_3n:Int)) <|
ptr x_3 fun a_6 =>
∃ K_7:List Value->Heap->Prop,(
∃ K_10:List Value->Heap->Prop,(
ldI h (a_6.add (z_5.toNat*1)) .u8 fun x_13 =>
bcase (x_13 != (255:Int)) (
ptr a0 fun a_14 =>
ldI h (a_14.add 191) .u32 fun x_15 =>
K_10 [.bool (decide (x_15≥(134217728:Int)))] h) <|
K_10 [.bool false] h)/\∀ (h_11:Heap) (u_12:Nat->Value) (x_16:Bool),K_10 [.bool x_16] h_11->(
bcase x_16 (
ldI h_11 (a_6.add (z_5.toNat*1)) .u8 fun x_17 =>
bindI (IntKind.u8.wrap (x_17+(1:Int))) fun z_18 =>
stV h_11 (a_6.add (z_5.toNat*1)) (.int .u8 z_18) fun h_19 =>
ptr a0 fun a_20 =>
ldI h_19 (a_20.add 191) .u32 fun x_21 =>
bindI (bitI .and .u32 x_21 (134217727:Int)) fun z_22 =>
ptr a0 fun a_23 =>
stV h_19 (a_23.add 191) (.int .u32 z_22) fun h_24 =>
K_7 [] h_24) <|
K_7 [] h_11))/\∀ (h_8:Heap) (u_9:Nat->Value) ,K_7 [] h_8->(
∃ K_25:List Value->Heap->Prop,(
ldI h_8 (a_6.add (z_5.toNat*1)) .u8 fun x_28 =>
bcase (x_28 != (255:Int)) (
bindI (IntKind.i64.wrap ((20:Int)-(1:Int))) fun z_29 =>
K_25 [.int .i64 z_29] h_8) <|
K_25 [.int .i64 20] h_8)/\∀ (h_26:Heap) (u_27:Nat->Value) (x_30:Int),K_25 [.int .i64 x_30] h_26->(
ptr a0 fun a_31 =>
ptr a0 fun a_32 =>
ldS h_26 (a_31.add 193) fun x_33 x_33n x_33c =>
ldI h_26 (a_32.add 191) .u32 fun x_34 =>
needs (0<=x_30) <|
bindI (shrI .u32 x_34 x_30) fun z_35 =>
bindI (IntKind.u8.wrap z_35) fun z_36 =>
newC h_26 [.int .u8 z_36] T_uint8 fun r_37 h_38 =>
appC h_38 T_uint8 1 1 [.int .u8 0] x_33 (x_33n) (x_33c) (some ⟨r_37,0,none⟩) (1) fun q_39 q_39n q_39c h_40 =>
ptr a0 fun a_41 =>
stV h_40 (a_41.add 193) (.slice q_39 q_39n q_39c) fun h_42 =>
ptr a0 fun a_43 =>
needs (0<=x_30) <|
bindI (shlI .u32 (1:Int) x_30) fun z_44 =>
bindI (IntKind.u32.wrap (z_44-(1:Int))) fun z_45 =>
ldI h_42 (a_43.add 191) .u32 fun x_46 =>
bindI (bitI .and .u32 x_46 z_45) fun z_47 =>
ptr a0 fun a_48 =>
stV h_42 (a_48.add 191) (.int .u32 z_47) fun h_49 =>
bindI (IntKind.i64.wrap ((27:Int)-x_30)) fun z_50 =>
ptr a0 fun a_51 =>
stV h_49 (a_51.add 192) (.int .i64 z_50) fun h_52 =>
K (.tuple #[]) h_52))
def arith_Decoder_byte (C:CallP) (d:Option Addr) (i:Int) (h:Heap) (K:VK) (Kp:PK):Prop :=
ptr d fun a_1 =>
ldS h (a_1.add 193) fun x_2 x_2n x_2c =>
bcase (decide (i<(x_2n:Int))) (
ptr d fun a_3 =>
ldS h (a_3.add 193) fun x_4 x_4n x_4c =>
needs (0<=i/\i<(x_4n:Int)) <|
ptr x_4 fun a_5 =>
ldI h (a_5.add (i.toNat*1)) .u8 fun x_6 =>
bindI (IntKind.u32.wrap x_6) fun z_7 =>
K (.int .u32 z_7) h) <|
K (.int .u32 255) h
def arith_Decoder_in (C:CallP) (a0:Option Addr) (h:Heap) (K:VK) (Kp:PK):Prop :=
ptr a0 fun a_1 =>
ldI h (a_1.add 194) .i64 fun x_2 =>
C F_arith_Decoder_byte #[.pointer a0, .int .i64 x_2] h (fun v_3 h_4 =>
∃ (r_5:Int),v_3 = .int .u32 r_5/\(
bcase (r_5 != (255:Int)) (
ptr a0 fun a_6 =>
ldI h_4 (a_6.add 194) .i64 fun x_7 =>
bindI (IntKind.i64.wrap (x_7+(1:Int))) fun z_8 =>
ptr a0 fun a_9 =>
stV h_4 (a_9.add 194) (.int .i64 z_8) fun h_10 =>
ptr a0 fun a_11 =>
ptr a0 fun a_12 =>
ldI h_10 (a_11.add 191) .u32 fun x_13 =>
ldI h_10 (a_12.add 194) .i64 fun x_14 =>
C F_arith_Decoder_byte #[.pointer a0, .int .i64 x_14] h_10 (fun v_15 h_16 =>
∃ (r_17:Int),v_15 = .int .u32 r_17/\(
hext h_10 h_16/\(
bindI (shlI .u32 r_17 (8:Int)) fun z_18 =>
bindI (IntKind.u32.wrap (x_13+z_18)) fun z_19 =>
ptr a0 fun a_20 =>
stV h_16 (a_20.add 191) (.int .u32 z_19) fun h_21 =>
ptr a0 fun a_22 =>
stV h_21 (a_22.add 192) (.int .i64 8) fun h_23 =>
K (.tuple #[]) h_23))) (Kp)) <|
ptr a0 fun a_24 =>
ldI h_4 (a_24.add 194) .i64 fun x_25 =>
bindI (IntKind.i64.wrap (x_25+(1:Int))) fun z_26 =>
C F_arith_Decoder_byte #[.pointer a0, .int .i64 z_26] h_4 (fun v_27 h_28 =>
∃ (r_29:Int),v_27 = .int .u32 r_29/\(
bcase (decide (r_29 > (143:Int))) (
ptr a0 fun a_30 =>
ldI h_28 (a_30.add 191) .u32 fun x_31 =>
bindI (IntKind.u32.wrap (x_31+(65280:Int))) fun z_32 =>
ptr a0 fun a_33 =>
stV h_28 (a_33.add 191) (.int .u32 z_32) fun h_34 =>
ptr a0 fun a_35 =>
stV h_34 (a_35.add 192) (.int .i64 8) fun h_36 =>
K (.tuple #[]) h_36) <|
ptr a0 fun a_37 =>
ldI h_28 (a_37.add 194) .i64 fun x_38 =>
bindI (IntKind.i64.wrap (x_38+(1:Int))) fun z_39 =>
ptr a0 fun a_40 =>
stV h_28 (a_40.add 194) (.int .i64 z_39) fun h_41 =>
ptr a0 fun a_42 =>
ptr a0 fun a_43 =>
ldI h_41 (a_42.add 191) .u32 fun x_44 =>
ldI h_41 (a_43.add 194) .i64 fun x_45 =>
C F_arith_Decoder_byte #[.pointer a0, .int .i64 x_45] h_41 (fun v_46 h_47 =>
∃ (r_48:Int),v_46 = .int .u32 r_48/\(
hext h_41 h_47/\(
bindI (shlI .u32 r_48 (9:Int)) fun z_49 =>
bindI (IntKind.u32.wrap (x_44+z_49)) fun z_50 =>
ptr a0 fun a_51 =>
stV h_47 (a_51.add 191) (.int .u32 z_50) fun h_52 =>
ptr a0 fun a_53 =>
stV h_52 (a_53.add 192) (.int .i64 7) fun h_54 =>
K (.tuple #[]) h_54))) (Kp))) (Kp))) (Kp)
def arith_table_Contexts (C:CallP) (t:Option Addr) (h:Heap) (K:VK) (Kp:PK):Prop :=
ptr t fun a_1 =>
ldS h (a_1.add 188) fun x_2 x_2n x_2c =>
K (.int .i64 (x_2n:Int)) h
def arith_rows (C:CallP)  (h:Heap) (K:VK) (Kp:PK):Prop :=
newC h Z_47_arith_row T_47_arith_row fun r_1 h_2 =>
stVs h_2 (⟨r_1,0,none⟩:Addr) 0 [.int .u32 22017, .int .u8 1, .int .u8 1, .int .u8 1, .int .u32 13313, .int .u8 2, .int .u8 6, .int .u8 0, .int .u32 6145, .int .u8 3, .int .u8 9, .int .u8 0, .int .u32 2753, .int .u8 4, .int .u8 12, .int .u8 0, .int .u32 1313, .int .u8 5, .int .u8 29, .int .u8 0, .int .u32 545, .int .u8 38, .int .u8 33, .int .u8 0, .int .u32 22017, .int .u8 7, .int .u8 6, .int .u8 1, .int .u32 21505, .int .u8 8, .int .u8 14, .int .u8 0, .int .u32 18433, .int .u8 9, .int .u8 14, .int .u8 0, .int .u32 14337, .int .u8 10, .int .u8 14, .int .u8 0, .int .u32 12289, .int .u8 11, .int .u8 17, .int .u8 0, .int .u32 9217, .int .u8 12, .int .u8 18, .int .u8 0, .int .u32 7169, .int .u8 13, .int .u8 20, .int .u8 0, .int .u32 5633, .int .u8 29, .int .u8 21, .int .u8 0, .int .u32 22017, .int .u8 15, .int .u8 14, .int .u8 1, .int .u32 21505, .int .u8 16, .int .u8 14, .int .u8 0, .int .u32 20737, .int .u8 17, .int .u8 15, .int .u8 0, .int .u32 18433, .int .u8 18, .int .u8 16, .int .u8 0, .int .u32 14337, .int .u8 19, .int .u8 17, .int .u8 0, .int .u32 13313, .int .u8 20, .int .u8 18, .int .u8 0, .int .u32 12289, .int .u8 21, .int .u8 19, .int .u8 0, .int .u32 10241, .int .u8 22, .int .u8 19, .int .u8 0, .int .u32 9217, .int .u8 23, .int .u8 20, .int .u8 0, .int .u32 8705, .int .u8 24, .int .u8 21, .int .u8 0, .int .u32 7169, .int .u8 25, .int .u8 22, .int .u8 0, .int .u32 6145, .int .u8 26, .int .u8 23, .int .u8 0, .int .u32 5633, .int .u8 27, .int .u8 24, .int .u8 0, .int .u32 5121, .int .u8 28, .int .u8 25, .int .u8 0, .int .u32 4609, .int .u8 29, .int .u8 26, .int .u8 0, .int .u32 4353, .int .u8 30, .int .u8 27, .int .u8 0, .int .u32 2753, .int .u8 31, .int .u8 28, .int .u8 0, .int .u32 2497, .int .u8 32, .int .u8 29, .int .u8 0, .int .u32 2209, .int .u8 33, .int .u8 30, .int .u8 0, .int .u32 1313, .int .u8 34, .int .u8 31, .int .u8 0, .int .u32 1089, .int .u8 35, .int .u8 32, .int .u8 0, .int .u32 673, .int .u8 36, .int .u8 33, .int .u8 0, .int .u32 545, .int .u8 37, .int .u8 34, .int .u8 0, .int .u32 321, .int .u8 38, .int .u8 35, .int .u8 0, .int .u32 273, .int .u8 39, .int .u8 36, .int .u8 0, .int .u32 133, .int .u8 40, .int .u8 37, .int .u8 0, .int .u32 73, .int .u8 41, .int .u8 38, .int .u8 0, .int .u32 37, .int .u8 42, .int .u8 39, .int .u8 0, .int .u32 21, .int .u8 43, .int .u8 40, .int .u8 0, .int .u32 9, .int .u8 44, .int .u8 41, .int .u8 0, .int .u32 5, .int .u8 45, .int .u8 42, .int .u8 0, .int .u32 1, .int .u8 45, .int .u8 43, .int .u8 0, .int .u32 22017, .int .u8 46, .int .u8 46, .int .u8 0] fun h_3 =>
ldAll h_3 (⟨r_1,0,none⟩:Addr) 188 fun cs_4 =>
K (.agg (cs_4).toArray) h_3
def arith_Coder_Put (C:CallP) (a0:Option Addr) (a1:Int) (a2:Int) (h:Heap) (K:VK) (Kp:PK):Prop :=
∃ K_1:List Value->Heap->Prop,(
ptr a0 fun a_4 =>
ldB h (a_4.add 194) fun x_5 =>
bcase x_5 (
K (.int .i64 43) h) <|
bcase (a2 != (0:Int)) (
bcase (a2 != (1:Int)) (
K (.int .i64 42) h) <|
ptr a0 fun a_6 =>
ldI h ((a_6.add 0).add 189) .i64 fun x_7 =>
bcase (decide (x_7≥(16777216:Int))) (
K (.int .i64 41) h) <|
K_1 [] h) <|
ptr a0 fun a_8 =>
ldI h ((a_8.add 0).add 189) .i64 fun x_9 =>
bcase (decide (x_9≥(16777216:Int))) (
K (.int .i64 41) h) <|
K_1 [] h)/\∀ (h_2:Heap) (u_3:Nat->Value) ,K_1 [] h_2->(
ptr a0 fun a_10 =>
ldI h_2 ((a_10.add 0).add 189) .i64 fun x_11 =>
bindI (IntKind.i64.wrap (x_11+(1:Int))) fun z_12 =>
ptr a0 fun a_13 =>
stV h_2 ((a_13.add 0).add 189) (.int .i64 z_12) fun h_14 =>
ptr a0 fun a_15 =>
C F_arith_table_at #[.pointer (some (a_15.add 0)), .int .i64 a1] h_14 (fun v_16 h_17 =>
∃ (r_18:Option Addr),∃ (r_19:Int) (r_20:Int) (r_21:Int) (r_22:Int),v_16 = .tuple #[.pointer r_18, .agg #[.int .u32 r_19, .int .u8 r_20, .int .u8 r_21, .int .u8 r_22]]/\(
newC h_17 [.int .u32 0, .int .u8 0, .int .u8 0, .int .u8 0] T_arith_row fun r_23 h_24 =>
stV h_24 ((⟨r_23,0,none⟩:Addr).add 0) (.int .u32 r_19) fun h_25 =>
stV h_25 ((⟨r_23,0,none⟩:Addr).add 1) (.int .u8 r_20) fun h_26 =>
stV h_26 ((⟨r_23,0,none⟩:Addr).add 2) (.int .u8 r_21) fun h_27 =>
stV h_27 ((⟨r_23,0,none⟩:Addr).add 3) (.int .u8 r_22) fun h_28 =>
ptr a0 fun a_29 =>
ldI h_28 (a_29.add 190) .u32 fun x_30 =>
ldI h_28 ((⟨r_23,0,none⟩:Addr).add 0) .u32 fun x_31 =>
bindI (IntKind.u32.wrap (x_30-x_31)) fun z_32 =>
ptr a0 fun a_33 =>
stV h_28 (a_33.add 190) (.int .u32 z_32) fun h_34 =>
ptr r_18 fun a_35 =>
ldI h_34 a_35 .u8 fun x_36 =>
bindI (bitI .and .u8 x_36 (1:Int)) fun z_37 =>
bindI (IntKind.i64.wrap z_37) fun z_38 =>
bcase (a2 == z_38) (
ptr a0 fun a_39 =>
ldI h_34 (a_39.add 190) .u32 fun x_40 =>
bcase (decide (x_40≥(32768:Int))) (
ptr a0 fun a_41 =>
ldI h_34 (a_41.add 191) .u32 fun x_42 =>
ldI h_34 ((⟨r_23,0,none⟩:Addr).add 0) .u32 fun x_43 =>
bindI (IntKind.u32.wrap (x_42+x_43)) fun z_44 =>
ptr a0 fun a_45 =>
stV h_34 (a_45.add 191) (.int .u32 z_44) fun h_46 =>
K (.int .i64 0) h_46) <|
ptr a0 fun a_47 =>
ldI h_34 (a_47.add 190) .u32 fun x_48 =>
ldI h_34 ((⟨r_23,0,none⟩:Addr).add 0) .u32 fun x_49 =>
bcase (decide (x_48<x_49)) (
ldI h_34 ((⟨r_23,0,none⟩:Addr).add 0) .u32 fun x_50 =>
ptr a0 fun a_51 =>
stV h_34 (a_51.add 190) (.int .u32 x_50) fun h_52 =>
ldI h_52 ((⟨r_23,0,none⟩:Addr).add 0) .u32 fun x_53 =>
ldI h_52 ((⟨r_23,0,none⟩:Addr).add 1) .u8 fun x_54 =>
ldI h_52 ((⟨r_23,0,none⟩:Addr).add 2) .u8 fun x_55 =>
ldI h_52 ((⟨r_23,0,none⟩:Addr).add 3) .u8 fun x_56 =>
C F_arith_likely #[.pointer r_18, .agg #[.int .u32 x_53, .int .u8 x_54, .int .u8 x_55, .int .u8 x_56]] h_52 (fun v_57 h_58 =>
C F_arith_Coder_renew #[.pointer a0] h_58 (fun v_59 h_60 =>
K (.int .i64 0) h_60) (Kp)) (Kp)) <|
ptr a0 fun a_61 =>
ldI h_34 (a_61.add 191) .u32 fun x_62 =>
ldI h_34 ((⟨r_23,0,none⟩:Addr).add 0) .u32 fun x_63 =>
bindI (IntKind.u32.wrap (x_62+x_63)) fun z_64 =>
ptr a0 fun a_65 =>
stV h_34 (a_65.add 191) (.int .u32 z_64) fun h_66 =>
ldI h_66 ((⟨r_23,0,none⟩:Addr).add 0) .u32 fun x_67 =>
ldI h_66 ((⟨r_23,0,none⟩:Addr).add 1) .u8 fun x_68 =>
ldI h_66 ((⟨r_23,0,none⟩:Addr).add 2) .u8 fun x_69 =>
ldI h_66 ((⟨r_23,0,none⟩:Addr).add 3) .u8 fun x_70 =>
C F_arith_likely #[.pointer r_18, .agg #[.int .u32 x_67, .int .u8 x_68, .int .u8 x_69, .int .u8 x_70]] h_66 (fun v_71 h_72 =>
C F_arith_Coder_renew #[.pointer a0] h_72 (fun v_73 h_74 =>
K (.int .i64 0) h_74) (Kp)) (Kp)) <|
ptr a0 fun a_75 =>
ldI h_34 (a_75.add 190) .u32 fun x_76 =>
ldI h_34 ((⟨r_23,0,none⟩:Addr).add 0) .u32 fun x_77 =>
bcase (decide (x_76<x_77)) (
ptr a0 fun a_78 =>
ldI h_34 (a_78.add 191) .u32 fun x_79 =>
ldI h_34 ((⟨r_23,0,none⟩:Addr).add 0) .u32 fun x_80 =>
bindI (IntKind.u32.wrap (x_79+x_80)) fun z_81 =>
ptr a0 fun a_82 =>
stV h_34 (a_82.add 191) (.int .u32 z_81) fun h_83 =>
ldI h_83 ((⟨r_23,0,none⟩:Addr).add 0) .u32 fun x_84 =>
ldI h_83 ((⟨r_23,0,none⟩:Addr).add 1) .u8 fun x_85 =>
ldI h_83 ((⟨r_23,0,none⟩:Addr).add 2) .u8 fun x_86 =>
ldI h_83 ((⟨r_23,0,none⟩:Addr).add 3) .u8 fun x_87 =>
C F_arith_unlikely #[.pointer r_18, .agg #[.int .u32 x_84, .int .u8 x_85, .int .u8 x_86, .int .u8 x_87]] h_83 (fun v_88 h_89 =>
C F_arith_Coder_renew #[.pointer a0] h_89 (fun v_90 h_91 =>
K (.int .i64 0) h_91) (Kp)) (Kp)) <|
ldI h_34 ((⟨r_23,0,none⟩:Addr).add 0) .u32 fun x_92 =>
ptr a0 fun a_93 =>
stV h_34 (a_93.add 190) (.int .u32 x_92) fun h_94 =>
ldI h_94 ((⟨r_23,0,none⟩:Addr).add 0) .u32 fun x_95 =>
ldI h_94 ((⟨r_23,0,none⟩:Addr).add 1) .u8 fun x_96 =>
ldI h_94 ((⟨r_23,0,none⟩:Addr).add 2) .u8 fun x_97 =>
ldI h_94 ((⟨r_23,0,none⟩:Addr).add 3) .u8 fun x_98 =>
C F_arith_unlikely #[.pointer r_18, .agg #[.int .u32 x_95, .int .u8 x_96, .int .u8 x_97, .int .u8 x_98]] h_94 (fun v_99 h_100 =>
C F_arith_Coder_renew #[.pointer a0] h_100 (fun v_101 h_102 =>
K (.int .i64 0) h_102) (Kp)) (Kp))) (Kp))
def arith_table_at (C:CallP) (t:Option Addr) (context:Int) (h:Heap) (K:VK) (Kp:PK):Prop :=
newC h [.int .u32 0, .int .u8 0, .int .u8 0, .int .u8 0] T_arith_row fun r_1 h_2 =>
ptr t fun a_3 =>
ldS h_2 (a_3.add 188) fun x_4 x_4n x_4c =>
ptr t fun a_5 =>
needs (IntKind.i64=IntKind.i64/\(x_4n:Int)≠0) <|
bindI (context.tmod (x_4n:Int)) fun z_6 =>
bindI (IntKind.i64.wrap (z_6+(x_4n:Int))) fun z_7 =>
needs (IntKind.i64=IntKind.i64/\(x_4n:Int)≠0) <|
bindI (z_7.tmod (x_4n:Int)) fun z_8 =>
ldS h_2 (a_5.add 188) fun x_9 x_9n x_9c =>
needs (0<=z_8/\z_8<(x_9n:Int)) <|
ptr x_9 fun a_10 =>
ptr t fun a_11 =>
ldI h_2 (a_10.add (z_8.toNat*1)) .u8 fun x_12 =>
bindI (shrI .u8 x_12 (1:Int)) fun z_13 =>
needs (0<=z_13/\z_13<((47:Nat):Int)) <|
ldI h_2 (((a_11.add 0).add (z_13.toNat*4)).add 0) .u32 fun x_14 =>
ldI h_2 (((a_11.add 0).add (z_13.toNat*4)).add 1) .u8 fun x_15 =>
ldI h_2 (((a_11.add 0).add (z_13.toNat*4)).add 2) .u8 fun x_16 =>
ldI h_2 (((a_11.add 0).add (z_13.toNat*4)).add 3) .u8 fun x_17 =>
stV h_2 ((⟨r_1,0,none⟩:Addr).add 0) (.int .u32 x_14) fun h_18 =>
stV h_18 ((⟨r_1,0,none⟩:Addr).add 1) (.int .u8 x_15) fun h_19 =>
stV h_19 ((⟨r_1,0,none⟩:Addr).add 2) (.int .u8 x_16) fun h_20 =>
stV h_20 ((⟨r_1,0,none⟩:Addr).add 3) (.int .u8 x_17) fun h_21 =>
ldI h_21 ((⟨r_1,0,none⟩:Addr).add 0) .u32 fun r_22 =>
ldI h_21 ((⟨r_1,0,none⟩:Addr).add 1) .u8 fun r_23 =>
ldI h_21 ((⟨r_1,0,none⟩:Addr).add 2) .u8 fun r_24 =>
ldI h_21 ((⟨r_1,0,none⟩:Addr).add 3) .u8 fun r_25 =>
K (.tuple #[.pointer (some (a_10.add (z_8.toNat*1))), .agg #[.int .u32 r_22, .int .u8 r_23, .int .u8 r_24, .int .u8 r_25]]) h_21
def arith_likely (C:CallP) (s:Option Addr) (r_1:Int) (r_2:Int) (r_3:Int) (r_4:Int) (h:Heap) (K:VK) (Kp:PK):Prop :=
newC h [.int .u32 r_1, .int .u8 r_2, .int .u8 r_3, .int .u8 r_4] T_arith_row fun r_5 h_6 =>
ptr s fun a_7 =>
ldI h_6 ((⟨r_5,0,none⟩:Addr).add 1) .u8 fun x_8 =>
bindI (shlI .u8 x_8 (1:Int)) fun z_9 =>
ldI h_6 a_7 .u8 fun x_10 =>
bindI (bitI .and .u8 x_10 (1:Int)) fun z_11 =>
bindI (bitI .or .u8 z_9 z_11) fun z_12 =>
ptr s fun a_13 =>
stV h_6 a_13 (.int .u8 z_12) fun h_14 =>
K (.tuple #[]) h_14
def arith_unlikely (C:CallP) (s:Option Addr) (r_1:Int) (r_2:Int) (r_3:Int) (r_4:Int) (h:Heap) (K:VK) (Kp:PK):Prop :=
newC h [.int .u32 r_1, .int .u8 r_2, .int .u8 r_3, .int .u8 r_4] T_arith_row fun r_5 h_6 =>
ptr s fun a_7 =>
ldI h_6 ((⟨r_5,0,none⟩:Addr).add 2) .u8 fun x_8 =>
bindI (shlI .u8 x_8 (1:Int)) fun z_9 =>
ldI h_6 a_7 .u8 fun x_10 =>
bindI (bitI .and .u8 x_10 (1:Int)) fun z_11 =>
bindI (bitI .or .u8 z_9 z_11) fun z_12 =>
ldI h_6 ((⟨r_5,0,none⟩:Addr).add 3) .u8 fun x_13 =>
bindI (bitI .xor .u8 z_12 x_13) fun z_14 =>
ptr s fun a_15 =>
stV h_6 a_15 (.int .u8 z_14) fun h_16 =>
K (.tuple #[]) h_16
def arith_Coder_renew (C:CallP) (c:Option Addr) (h:Heap) (K:VK) (Kp:PK):Prop :=
∃ J_1:Nat->List Value->Heap->Prop,(∃ n_3,J_1 n_3 [] h)/\∀ (n_3:Nat) (h_4:Heap) (u_5:Nat->Value) ,J_1 n_3 [] h_4->(
ptr c fun a_6 =>
ldI h_4 (a_6.add 190) .u32 fun x_7 =>
bindI (shlI .u32 x_7 (1:Int)) fun z_8 =>
ptr c fun a_9 =>
stV h_4 (a_9.add 190) (.int .u32 z_8) fun h_10 =>
ptr c fun a_11 =>
ldI h_10 (a_11.add 191) .u32 fun x_12 =>
bindI (shlI .u32 x_12 (1:Int)) fun z_13 =>
ptr c fun a_14 =>
stV h_10 (a_14.add 191) (.int .u32 z_13) fun h_15 =>
ptr c fun a_16 =>
ldI h_15 (a_16.add 192) .i64 fun x_17 =>
bindI (IntKind.i64.wrap (x_17-(1:Int))) fun z_18 =>
ptr c fun a_19 =>
stV h_15 (a_19.add 192) (.int .i64 z_18) fun h_20 =>
ptr c fun a_21 =>
ldI h_20 (a_21.add 192) .i64 fun x_22 =>
bcase (x_22 == (0:Int)) (
C F_arith_Coder_out #[.pointer c] h_20 (fun v_23 h_24 =>
ptr c fun a_25 =>
ldI h_24 (a_25.add 190) .u32 fun x_26 =>
bcase (decide (x_26≥(32768:Int))) (
K (.tuple #[]) h_24) <|
∃ m_2,m_2<n_3/\J_1 m_2 [] h_24) (Kp)) <|
ptr c fun a_27 =>
ldI h_20 (a_27.add 190) .u32 fun x_28 =>
bcase (decide (x_28≥(32768:Int))) (
K (.tuple #[]) h_20) <|
∃ m_2,m_2<n_3/\J_1 m_2 [] h_20)
def arith_Decoder_Get (C:CallP) (a0:Option Addr) (a1:Int) (h:Heap) (K:VK) (Kp:PK):Prop :=
ptr a0 fun a_1 =>
ldI h ((a_1.add 0).add 189) .i64 fun x_2 =>
bcase (decide (x_2≥(16777216:Int))) (
K (.tuple #[.int .i64 0, .int .i64 41]) h) <|
ptr a0 fun a_3 =>
ldI h ((a_3.add 0).add 189) .i64 fun x_4 =>
bindI (IntKind.i64.wrap (x_4+(1:Int))) fun z_5 =>
ptr a0 fun a_6 =>
stV h ((a_6.add 0).add 189) (.int .i64 z_5) fun h_7 =>
ptr a0 fun a_8 =>
C F_arith_table_at #[.pointer (some (a_8.add 0)), .int .i64 a1] h_7 (fun v_9 h_10 =>
∃ (r_11:Option Addr),∃ (r_12:Int) (r_13:Int) (r_14:Int) (r_15:Int),v_9 = .tuple #[.pointer r_11, .agg #[.int .u32 r_12, .int .u8 r_13, .int .u8 r_14, .int .u8 r_15]]/\(
newC h_10 [.int .u32 0, .int .u8 0, .int .u8 0, .int .u8 0] T_arith_row fun r_16 h_17 =>
stV h_17 ((⟨r_16,0,none⟩:Addr).add 0) (.int .u32 r_12) fun h_18 =>
stV h_18 ((⟨r_16,0,none⟩:Addr).add 1) (.int .u8 r_13) fun h_19 =>
stV h_19 ((⟨r_16,0,none⟩:Addr).add 2) (.int .u8 r_14) fun h_20 =>
stV h_20 ((⟨r_16,0,none⟩:Addr).add 3) (.int .u8 r_15) fun h_21 =>
ptr r_11 fun a_22 =>
ldI h_21 a_22 .u8 fun x_23 =>
bindI (bitI .and .u8 x_23 (1:Int)) fun z_24 =>
bindI (IntKind.i64.wrap z_24) fun z_25 =>
ptr a0 fun a_26 =>
ldI h_21 (a_26.add 190) .u32 fun x_27 =>
ldI h_21 ((⟨r_16,0,none⟩:Addr).add 0) .u32 fun x_28 =>
bindI (IntKind.u32.wrap (x_27-x_28)) fun z_29 =>
ptr a0 fun a_30 =>
stV h_21 (a_30.add 190) (.int .u32 z_29) fun h_31 =>
ptr a0 fun a_32 =>
ldI h_31 (a_32.add 191) .u32 fun x_33 =>
bindI (shrI .u32 x_33 (16:Int)) fun z_34 =>
ldI h_31 ((⟨r_16,0,none⟩:Addr).add 0) .u32 fun x_35 =>
∃ K_36:List Value->Heap->Prop,(
bcase (!(decide (z_34<x_35))) (
ptr a0 fun a_39 =>
ldI h_31 (a_39.add 191) .u32 fun x_40 =>
ldI h_31 ((⟨r_16,0,none⟩:Addr).add 0) .u32 fun x_41 =>
bindI (shlI .u32 x_41 (16:Int)) fun z_42 =>
bindI (IntKind.u32.wrap (x_40-z_42)) fun z_43 =>
ptr a0 fun a_44 =>
stV h_31 (a_44.add 191) (.int .u32 z_43) fun h_45 =>
ptr a0 fun a_46 =>
ldI h_45 (a_46.add 190) .u32 fun x_47 =>
bcase (decide (x_47≥(32768:Int))) (
K (.tuple #[.int .i64 z_25, .int .i64 0]) h_45) <|
K_36 [] h_45) <|
K_36 [] h_31)/\∀ (h_37:Heap) (u_38:Nat->Value) ,K_36 [] h_37->(
∃ K_48:List Value->Heap->Prop,(
ptr a0 fun a_51 =>
ldI h_37 (a_51.add 190) .u32 fun x_52 =>
ldI h_37 ((⟨r_16,0,none⟩:Addr).add 0) .u32 fun x_53 =>
bcase ((decide (z_34<x_35)) == (decide (x_52<x_53))) (
ldI h_37 ((⟨r_16,0,none⟩:Addr).add 0) .u32 fun x_54 =>
ldI h_37 ((⟨r_16,0,none⟩:Addr).add 1) .u8 fun x_55 =>
ldI h_37 ((⟨r_16,0,none⟩:Addr).add 2) .u8 fun x_56 =>
ldI h_37 ((⟨r_16,0,none⟩:Addr).add 3) .u8 fun x_57 =>
C F_arith_likely #[.pointer r_11, .agg #[.int .u32 x_54, .int .u8 x_55, .int .u8 x_56, .int .u8 x_57]] h_37 (fun v_58 h_59 =>
K_48 [.int .i64 z_25] h_59) (Kp)) <|
bindI (bitI .xor .i64 z_25 (1:Int)) fun z_60 =>
ldI h_37 ((⟨r_16,0,none⟩:Addr).add 0) .u32 fun x_61 =>
ldI h_37 ((⟨r_16,0,none⟩:Addr).add 1) .u8 fun x_62 =>
ldI h_37 ((⟨r_16,0,none⟩:Addr).add 2) .u8 fun x_63 =>
ldI h_37 ((⟨r_16,0,none⟩:Addr).add 3) .u8 fun x_64 =>
C F_arith_unlikely #[.pointer r_11, .agg #[.int .u32 x_61, .int .u8 x_62, .int .u8 x_63, .int .u8 x_64]] h_37 (fun v_65 h_66 =>
K_48 [.int .i64 z_60] h_66) (Kp))/\∀ (h_49:Heap) (u_50:Nat->Value) (x_67:Int),K_48 [.int .i64 x_67] h_49->(
bcase (decide (z_34<x_35)) (
ldI h_49 ((⟨r_16,0,none⟩:Addr).add 0) .u32 fun x_68 =>
ptr a0 fun a_69 =>
stV h_49 (a_69.add 190) (.int .u32 x_68) fun h_70 =>
C F_arith_Decoder_renew #[.pointer a0] h_70 (fun v_71 h_72 =>
K (.tuple #[.int .i64 x_67, .int .i64 0]) h_72) (Kp)) <|
C F_arith_Decoder_renew #[.pointer a0] h_49 (fun v_73 h_74 =>
K (.tuple #[.int .i64 x_67, .int .i64 0]) h_74) (Kp))))) (Kp)
def arith_Decoder_renew (C:CallP) (d:Option Addr) (h:Heap) (K:VK) (Kp:PK):Prop :=
∃ J_1:Nat->List Value->Heap->Prop,(∃ n_3,J_1 n_3 [] h)/\∀ (n_3:Nat) (h_4:Heap) (u_5:Nat->Value) ,J_1 n_3 [] h_4->(
∃ K_6:List Value->Heap->Prop,(
ptr d fun a_9 =>
ldI h_4 (a_9.add 192) .i64 fun x_10 =>
bcase (x_10 == (0:Int)) (
C F_arith_Decoder_in #[.pointer d] h_4 (fun v_11 h_12 =>
K_6 [] h_12) (Kp)) <|
K_6 [] h_4)/\∀ (h_7:Heap) (u_8:Nat->Value) ,K_6 [] h_7->(
ptr d fun a_13 =>
ldI h_7 (a_13.add 190) .u32 fun x_14 =>
bindI (shlI .u32 x_14 (1:Int)) fun z_15 =>
ptr d fun a_16 =>
stV h_7 (a_16.add 190) (.int .u32 z_15) fun h_17 =>
ptr d fun a_18 =>
ldI h_17 (a_18.add 191) .u32 fun x_19 =>
bindI (shlI .u32 x_19 (1:Int)) fun z_20 =>
ptr d fun a_21 =>
stV h_17 (a_21.add 191) (.int .u32 z_20) fun h_22 =>
ptr d fun a_23 =>
ldI h_22 (a_23.add 192) .i64 fun x_24 =>
bindI (IntKind.i64.wrap (x_24-(1:Int))) fun z_25 =>
ptr d fun a_26 =>
stV h_22 (a_26.add 192) (.int .i64 z_25) fun h_27 =>
ptr d fun a_28 =>
ldI h_27 (a_28.add 190) .u32 fun x_29 =>
bcase (decide (x_29≥(32768:Int))) (
K (.tuple #[]) h_27) <|
∃ m_2,m_2<n_3/\J_1 m_2 [] h_27))
end Go.Den.YtfaclehehhgpcaaGreat
namespace Go.Den.YtfaclehehhgpcaaGreat
open Go Go.Den
theorem call_arith_New {contexts:Int} {h:Heap} {K:VK} {Kp:PK} (H:arith_New (CallsHP Go.Proofs.Tryz.prog) contexts h K Kp):CallsHP Go.Proofs.Tryz.prog F_arith_New #[.int .i64 contexts] h K Kp :=
 callsHP_ofE (Hints.mk (fun i=>none) (fun i=>none) (fun i=>none) []) (by kernel_rfl) Go.Proofs.Tryz.func89 (by kernel_rfl) (fun C=>arith_New C contexts h K Kp) (fun C=>by kernel_rfl) H
theorem call_arith_Coder_Flush {a0:Option Addr} {h:Heap} {K:VK} {Kp:PK} (H:arith_Coder_Flush (CallsHP Go.Proofs.Tryz.prog) a0 h K Kp):CallsHP Go.Proofs.Tryz.prog F_arith_Coder_Flush #[.pointer a0] h K Kp :=
 callsHP_ofE (Hints.mk (fun i=>bif Nat.beq i 4 then some ([], .take 0 <| .take 1 <| .take 2 <| .take 4 <| .take 5 <| .take 6 <| .take 3 <| .take 7 <| .take 8 <| .take 9 <| .done) else (bif Nat.beq i 10 then some ([11], .take 0 <| .take 1 <| .take 2 <| .take 4 <| .take 5 <| .take 6 <| .take 3 <| .take 7 <| .take 8 <| .take 9 <| .take 10 <| .bar 11 [] <| .done) else (none))) (fun i=>bif Nat.beq i 9 then some ([(42, .int .i64)],288225978105200640) else (none)) (fun i=>bif Nat.beq i 8 then some ([],4398042316800) else (none)) []) (by kernel_rfl) Go.Proofs.Tryz.func92 (by kernel_rfl) (fun C=>arith_Coder_Flush C a0 h K Kp) (fun C=>by kernel_rfl) H
theorem call_arith_NewDecoder {b:Option Addr} {bn:Nat} {bc:Nat} {contexts:Int} {h:Heap} {K:VK} {Kp:PK} (H:arith_NewDecoder (CallsHP Go.Proofs.Tryz.prog) b bn bc contexts h K Kp):CallsHP Go.Proofs.Tryz.prog F_arith_NewDecoder #[.slice b bn bc, .int .i64 contexts] h K Kp :=
 callsHP_ofE (Hints.mk (fun i=>bif Nat.beq i 4 then some ([4], .take 1 <| .take 0 <| .go 2 <| .take 3 <| .bar 4 [] <| .take 5 <| .done) else (none)) (fun i=>none) (fun i=>none) []) (by kernel_rfl) Go.Proofs.Tryz.func110 (by kernel_rfl) (fun C=>arith_NewDecoder C b bn bc contexts h K Kp) (fun C=>by kernel_rfl) H
theorem call_arith_made {contexts:Int} {h:Heap} {K:VK} {Kp:PK} (H:arith_made (CallsHP Go.Proofs.Tryz.prog) contexts h K Kp):CallsHP Go.Proofs.Tryz.prog F_arith_made #[.int .i64 contexts] h K Kp :=
 callsHP_ofE (Hints.mk (fun i=>bif Nat.beq i 3 then some ([4], .take 1 <| .alt 0 (.go 2 <| .take 3 <| .bar 4 [] <| .take 5 <| .done) <| .go 2 <| .go 0 <| .take 3 <| .bar 4 [] <| .take 5 <| .done) else (none)) (fun i=>none) (fun i=>none) []) (by kernel_rfl) Go.Proofs.Tryz.func141 (by kernel_rfl) (fun C=>arith_made C contexts h K Kp) (fun C=>by kernel_rfl) H
theorem call_arith_Coder_out {a0:Option Addr} {h:Heap} {K:VK} {Kp:PK} (H:arith_Coder_out (CallsHP Go.Proofs.Tryz.prog) a0 h K Kp):CallsHP Go.Proofs.Tryz.prog F_arith_Coder_out #[.pointer a0] h K Kp :=
 callsHP_ofE (Hints.mk (fun i=>bif Nat.beq i 0 then some ([], .take 0 <| .take 1 <| .take 2 <| .take 4 <| .take 5 <| .take 6 <| .take 3 <| .take 7 <| .take 8 <| .take 9 <| .take 10 <| .take 11 <| .done) else (bif Nat.beq i 7 then some ([13,16], .take 0 <| .take 1 <| .take 2 <| .take 3 <| .take 5 <| .take 6 <| .take 7 <| .take 9 <| .take 4 <| .take 8 <| .take 10 <| .take 11 <| .go 12 <| .bar 13 [16] <| .take 14 <| .take 15 <| .bar 16 [] <| .done) else (bif Nat.beq i 8 then some ([10], .take 0 <| .take 1 <| .take 2 <| .take 4 <| .take 5 <| .take 6 <| .take 3 <| .take 7 <| .take 8 <| .take 9 <| .bar 10 [] <| .done) else (none)))) (fun i=>none) (fun i=>bif Nat.beq i 2 then some ([(25, .bool)],67076096) else (bif Nat.beq i 4 then some ([],274877874176) else (bif Nat.beq i 7 then some ([(3, .int .i64)],34909494181896) else (none)))) []) (by kernel_rfl) Go.Proofs.Tryz.func145 (by kernel_rfl) (fun C=>arith_Coder_out C a0 h K Kp) (fun C=>by kernel_rfl) H
theorem call_arith_Decoder_byte {d:Option Addr} {i:Int} {h:Heap} {K:VK} {Kp:PK} (H:arith_Decoder_byte (CallsHP Go.Proofs.Tryz.prog) d i h K Kp):CallsHP Go.Proofs.Tryz.prog F_arith_Decoder_byte #[.pointer d, .int .i64 i] h K Kp :=
 callsHP_ofE (Hints.mk (fun i=>none) (fun i=>none) (fun i=>none) []) (by kernel_rfl) Go.Proofs.Tryz.func162 (by kernel_rfl) (fun C=>arith_Decoder_byte C d i h K Kp) (fun C=>by kernel_rfl) H
theorem call_arith_Decoder_in {a0:Option Addr} {h:Heap} {K:VK} {Kp:PK} (H:arith_Decoder_in (CallsHP Go.Proofs.Tryz.prog) a0 h K Kp):CallsHP Go.Proofs.Tryz.prog F_arith_Decoder_in #[.pointer a0] h K Kp :=
 callsHP_ofE (Hints.mk (fun i=>bif Nat.beq i 1 then some ([14], .take 0 <| .take 1 <| .take 2 <| .take 4 <| .take 5 <| .take 6 <| .take 7 <| .take 3 <| .take 8 <| .go 9 <| .take 10 <| .take 11 <| .take 12 <| .take 13 <| .bar 14 [] <| .done) else (bif Nat.beq i 5 then some ([14], .take 0 <| .take 1 <| .take 2 <| .take 4 <| .take 5 <| .take 6 <| .take 7 <| .take 3 <| .take 8 <| .go 9 <| .take 10 <| .take 11 <| .take 12 <| .take 13 <| .bar 14 [] <| .done) else (none))) (fun i=>none) (fun i=>none) []) (by kernel_rfl) Go.Proofs.Tryz.func163 (by kernel_rfl) (fun C=>arith_Decoder_in C a0 h K Kp) (fun C=>by kernel_rfl) H
theorem call_arith_table_Contexts {t:Option Addr} {h:Heap} {K:VK} {Kp:PK} (H:arith_table_Contexts (CallsHP Go.Proofs.Tryz.prog) t h K Kp):CallsHP Go.Proofs.Tryz.prog F_arith_table_Contexts #[.pointer t] h K Kp :=
 callsHP_ofE (Hints.mk (fun i=>none) (fun i=>none) (fun i=>none) []) (by kernel_rfl) Go.Proofs.Tryz.func170 (by kernel_rfl) (fun C=>arith_table_Contexts C t h K Kp) (fun C=>by kernel_rfl) H
theorem call_arith_rows  {h:Heap} {K:VK} {Kp:PK} (H:arith_rows (CallsHP Go.Proofs.Tryz.prog)  h K Kp):CallsHP Go.Proofs.Tryz.prog F_arith_rows #[] h K Kp :=
 callsHP_ofE (Hints.mk (fun i=>none) (fun i=>none) (fun i=>none) []) (by kernel_rfl) Go.Proofs.Tryz.func182 (by kernel_rfl) (fun C=>arith_rows C  h K Kp) (fun C=>by kernel_rfl) H
theorem call_arith_Coder_Put {a0:Option Addr} {a1:Int} {a2:Int} {h:Heap} {K:VK} {Kp:PK} (H:arith_Coder_Put (CallsHP Go.Proofs.Tryz.prog) a0 a1 a2 h K Kp):CallsHP Go.Proofs.Tryz.prog F_arith_Coder_Put #[.pointer a0, .int .i64 a1, .int .i64 a2] h K Kp :=
 callsHP_ofE (Hints.mk (fun i=>bif Nat.beq i 9 then some ([9], .take 0 <| .take 1 <| .take 2 <| .take 4 <| .take 3 <| .take 5 <| .take 6 <| .take 7 <| .take 8 <| .bar 9 [] <| .done) else (bif Nat.beq i 12 then some ([9], .take 0 <| .take 1 <| .take 2 <| .take 4 <| .take 3 <| .take 5 <| .take 6 <| .take 7 <| .take 8 <| .bar 9 [] <| .done) else (bif Nat.beq i 14 then some ([], .take 0 <| .take 1 <| .take 2 <| .take 4 <| .take 3 <| .take 5 <| .take 6 <| .done) else (bif Nat.beq i 16 then some ([9], .take 0 <| .take 1 <| .take 2 <| .take 4 <| .take 3 <| .take 5 <| .take 6 <| .take 7 <| .take 8 <| .bar 9 [] <| .done) else (bif Nat.beq i 18 then some ([], .take 0 <| .take 1 <| .take 2 <| .take 4 <| .take 3 <| .take 5 <| .take 6 <| .done) else (bif Nat.beq i 19 then some ([9], .take 0 <| .take 1 <| .take 2 <| .take 4 <| .take 3 <| .take 5 <| .take 6 <| .take 7 <| .take 8 <| .bar 9 [] <| .done) else (none))))))) (fun i=>none) (fun i=>bif Nat.beq i 7 then some ([],268435008) else (none)) []) (by kernel_rfl) Go.Proofs.Tryz.func187 (by kernel_rfl) (fun C=>arith_Coder_Put C a0 a1 a2 h K Kp) (fun C=>by kernel_rfl) H
theorem call_arith_table_at {t:Option Addr} {context:Int} {h:Heap} {K:VK} {Kp:PK} (H:arith_table_at (CallsHP Go.Proofs.Tryz.prog) t context h K Kp):CallsHP Go.Proofs.Tryz.prog F_arith_table_at #[.pointer t, .int .i64 context] h K Kp :=
 callsHP_ofE (Hints.mk (fun i=>bif Nat.beq i 2 then some ([], .take 0 <| .take 1 <| .take 2 <| .take 4 <| .take 5 <| .take 6 <| .take 7 <| .take 8 <| .take 9 <| .take 10 <| .take 3 <| .take 11 <| .take 12 <| .done) else (bif Nat.beq i 3 then some ([11], .take 0 <| .take 1 <| .take 2 <| .take 3 <| .take 6 <| .take 7 <| .take 10 <| .take 4 <| .take 5 <| .take 8 <| .take 9 <| .bar 11 [] <| .done) else (none))) (fun i=>none) (fun i=>none) []) (by kernel_rfl) Go.Proofs.Tryz.func210 (by kernel_rfl) (fun C=>arith_table_at C t context h K Kp) (fun C=>by kernel_rfl) H
theorem call_arith_likely {s:Option Addr} {r_1:Int} {r_2:Int} {r_3:Int} {r_4:Int} {h:Heap} {K:VK} {Kp:PK} (H:arith_likely (CallsHP Go.Proofs.Tryz.prog) s r_1 r_2 r_3 r_4 h K Kp):CallsHP Go.Proofs.Tryz.prog F_arith_likely #[.pointer s, .agg #[.int .u32 r_1, .int .u8 r_2, .int .u8 r_3, .int .u8 r_4]] h K Kp :=
 callsHP_ofE (Hints.mk (fun i=>bif Nat.beq i 1 then some ([10], .take 0 <| .take 1 <| .take 4 <| .take 5 <| .take 2 <| .take 3 <| .take 6 <| .take 7 <| .take 8 <| .take 9 <| .bar 10 [] <| .done) else (none)) (fun i=>none) (fun i=>none) []) (by kernel_rfl) Go.Proofs.Tryz.func211 (by kernel_rfl) (fun C=>arith_likely C s r_1 r_2 r_3 r_4 h K Kp) (fun C=>by kernel_rfl) H
theorem call_arith_unlikely {s:Option Addr} {r_1:Int} {r_2:Int} {r_3:Int} {r_4:Int} {h:Heap} {K:VK} {Kp:PK} (H:arith_unlikely (CallsHP Go.Proofs.Tryz.prog) s r_1 r_2 r_3 r_4 h K Kp):CallsHP Go.Proofs.Tryz.prog F_arith_unlikely #[.pointer s, .agg #[.int .u32 r_1, .int .u8 r_2, .int .u8 r_3, .int .u8 r_4]] h K Kp :=
 callsHP_ofE (Hints.mk (fun i=>bif Nat.beq i 1 then some ([13], .take 0 <| .take 1 <| .take 4 <| .take 5 <| .take 9 <| .take 2 <| .take 3 <| .take 6 <| .take 7 <| .take 8 <| .take 10 <| .take 11 <| .take 12 <| .bar 13 [] <| .done) else (none)) (fun i=>none) (fun i=>none) []) (by kernel_rfl) Go.Proofs.Tryz.func212 (by kernel_rfl) (fun C=>arith_unlikely C s r_1 r_2 r_3 r_4 h K Kp) (fun C=>by kernel_rfl) H
theorem call_arith_Coder_renew {c:Option Addr} {h:Heap} {K:VK} {Kp:PK} (H:arith_Coder_renew (CallsHP Go.Proofs.Tryz.prog) c h K Kp):CallsHP Go.Proofs.Tryz.prog F_arith_Coder_renew #[.pointer c] h K Kp :=
 callsHP_ofE (Hints.mk (fun i=>none) (fun i=>bif Nat.beq i 0 then some ([],34359738364) else (none)) (fun i=>none) []) (by kernel_rfl) Go.Proofs.Tryz.func213 (by kernel_rfl) (fun C=>arith_Coder_renew C c h K Kp) (fun C=>by kernel_rfl) H
theorem call_arith_Decoder_Get {a0:Option Addr} {a1:Int} {h:Heap} {K:VK} {Kp:PK} (H:arith_Decoder_Get (CallsHP Go.Proofs.Tryz.prog) a0 a1 h K Kp):CallsHP Go.Proofs.Tryz.prog F_arith_Decoder_Get #[.pointer a0, .int .i64 a1] h K Kp :=
 callsHP_ofE (Hints.mk (fun i=>bif Nat.beq i 6 then some ([9], .take 0 <| .take 1 <| .take 2 <| .take 4 <| .take 3 <| .take 5 <| .take 6 <| .take 7 <| .take 8 <| .bar 9 [] <| .done) else (bif Nat.beq i 7 then some ([], .take 0 <| .take 1 <| .take 2 <| .take 5 <| .take 3 <| .take 4 <| .take 6 <| .take 7 <| .take 8 <| .done) else (bif Nat.beq i 9 then some ([10], .take 0 <| .take 1 <| .take 2 <| .take 4 <| .take 3 <| .take 5 <| .take 6 <| .take 7 <| .take 8 <| .take 9 <| .bar 10 [] <| .done) else (bif Nat.beq i 12 then some ([], .take 0 <| .take 1 <| .take 2 <| .take 3 <| .take 5 <| .take 4 <| .take 6 <| .take 7 <| .take 8 <| .done) else (none))))) (fun i=>none) (fun i=>bif Nat.beq i 12 then some ([],9444696936942271463472) else (bif Nat.beq i 16 then some ([(8, .int .i64)],1237930594552414535608697088) else (none))) []) (by kernel_rfl) Go.Proofs.Tryz.func215 (by kernel_rfl) (fun C=>arith_Decoder_Get C a0 a1 h K Kp) (fun C=>by kernel_rfl) H
theorem call_arith_Decoder_renew {d:Option Addr} {h:Heap} {K:VK} {Kp:PK} (H:arith_Decoder_renew (CallsHP Go.Proofs.Tryz.prog) d h K Kp):CallsHP Go.Proofs.Tryz.prog F_arith_Decoder_renew #[.pointer d] h K Kp :=
 callsHP_ofE (Hints.mk (fun i=>none) (fun i=>bif Nat.beq i 0 then some ([],34359738364) else (none)) (fun i=>bif Nat.beq i 2 then some ([],508) else (none)) []) (by kernel_rfl) Go.Proofs.Tryz.func220 (by kernel_rfl) (fun C=>arith_Decoder_renew C d h K Kp) (fun C=>by kernel_rfl) H
end Go.Den.YtfaclehehhgpcaaGreat
namespace Go.Ar
open Go Go.Den Go.Den.YtfaclehehhgpcaaGreat
def u8s (l:List Nat):List Value:=l.map fun x:Nat => .int .u8 (x:Int)
theorem u8s_length (l:List Nat):(u8s l).length=l.length:=by simp [u8s]
theorem u8s_get {l:List Nat} {i x:Nat} (h:l[i]? = some x):(u8s l)[i]? = some (.int .u8 (x:Int)):=by
 unfold u8s; rw [List.getElem?_map,h]; rfl
theorem u8s_set (l:List Nat) (i x:Nat):u8s (l.set i x)=(u8s l).set i (.int .u8 (x:Int)):=by simp [u8s,List.map_set]
theorem u8s_cells (l:List Nat):∀ v∈u8s l,v.oneCell'=true:=fun v hv=>by
 obtain ⟨x,_,rfl⟩:=List.mem_map.1 hv; rfl
theorem get_app {R T:List Value} {i:Nat} {v:Value} (h:R[i]? = some v):(R++T)[i]? = some v:=by
 rw [List.getElem?_append_left (List.getElem?_eq_some_iff.1 h).1]; exact h
theorem set_app {R T:List Value} {i:Nat} {v:Value} (h:i<R.length):(R++T).set i v=R.set i v++T:=List.set_append_left _ _ h
def rowC (r:Nat):List Value:=[.int .u32 (qOf r:Nat), .int .u8 (mOf r:Nat), .int .u8 (lOf r:Nat), .int .u8 (cOf r:Nat)]
def rowsN:Nat->List Value
 | 0=>[]
 | n+1=>rowsN n++rowC n
theorem rowsN_length:∀ n,(rowsN n).length=4*n
 | 0=>rfl
 | n+1=>by rw [rowsN,List.length_append,rowsN_length n]; show 4*n+4=_; omega
theorem rowsN_get:∀ {n r j:Nat} {v:Value},r<n->(rowC r)[j]? = some v->(rowsN n)[4*r+j]? = some v
 | 0,r,j,v,h,_=>by omega
 | n+1,r,j,v,h,hv=>by
  rw [rowsN]
  have hj:j<4:=(List.getElem?_eq_some_iff.1 hv).1
  rcases Nat.lt_or_ge r n with h1 | h1
  ·exact get_app (rowsN_get h1 hv)
  ·have:r=n:=by omega
   subst this
   exact app_get (rowsN_length r) j hv
def rowsV:List Value:=rowsN 47
theorem hR:rowsV.length=188:=rowsN_length 47
def crest (q:Nat) (nst n a c:Nat) (t:Int) (r:Nat) (bl bc:Nat) (done:Bool):List Value :=
 [.slice (some ⟨q,0,none⟩) nst nst, .int .i64 (n:Nat), .int .u32 (a:Nat), .int .u32 (c:Nat), .int .i64 t, .slice (some ⟨r,0,none⟩) bl bc, .bool done]
def codE (p q r:Nat) (s:Cod) (rest:List Value):Ent :=
 ⟨p,true,T_arith_Coder,rowsV++crest q s.st.length s.n s.a s.c (s.t:Nat) r (s.bs.length+1) (s.bs.length+1+rest.length) s.done⟩
def codL (p q r:Nat) (s:Cod) (rest:List Value):List Ent :=
 [codE p q r s rest,⟨q,true,T_uint8,u8s s.st⟩,⟨r,true,T_uint8,u8s (s.bs++[s.l])++rest⟩]
abbrev CP:CallP:=CallsHP Go.Proofs.Tryz.prog
abbrev at0 (p:Nat):Option Addr:=some ⟨p,0,none⟩
theorem last_get (bs:List Nat) (l:Nat) (rest:List Value):(u8s (bs++[l])++rest)[bs.length]? = some (.int .u8 (l:Int)):=get_app (u8s_get (by simp))
theorem last_set (bs:List Nat) (l l':Nat) (rest:List Value):(u8s (bs++[l])++rest).set bs.length (.int .u8 (l':Int))=u8s (bs++[l'])++rest:=by
 rw [set_app (by rw [u8s_length]; simp),<- u8s_set]
 simp
theorem out_ok {h:Heap} {p q r:Nat} {s:Cod} {rest:List Value} {F:List Nat} {h0:Heap} (H:Hp h0 F h (codL p q r s rest)) (hl:s.l<256) (hc:s.c<4294967296) (hb:s.bs.length<1000000000)
  {K:VK} {Kp:PK} (hk:∀ r' rest' h',Hp h0 F h' (codL p q r' (outM s) rest')->K (.tuple #[]) h') :
  CP F_arith_Coder_out #[.pointer (at0 p)] h K Kp:=by
 refine call_arith_Coder_out ?_
 unfold arith_Coder_out
 try simp only [ptr_some_eq,add_mk,Nat.zero_add,Nat.add_zero]
 refine ldS_of (H.cell 0 rfl (app_get hR 5 rfl)) ?_
 refine ldS_of (H.cell 0 rfl (app_get hR 5 rfl)) ?_
 refine bindI_of (((s.bs.length:Nat):Int)) (by exact i64_at _ _ (by omega) (by omega) (by omega)) ?_
 refine needs_of (by constructor <;> omega) ?_
 try simp only [ptr_some_eq,add_mk,Nat.zero_add,Nat.add_zero]
 simp only [Int.toNat_natCast,Nat.mul_one]
 refine ⟨fun vs h'=>vs=[]/\Hp h0 F h' (codL p q r (if s.l≠255/\134217728<=s.c then { s with l:=s.l+1,c:=s.c % 134217728 } else s) rest),?_,?_⟩
 ·refine ⟨fun vs h'=>vs=[.bool (decide (s.l≠255/\134217728<=s.c))]/\h'=h,?_,?_⟩
  ·refine ldI_of (H.cell 2 rfl (last_get _ _ _)) ?_
   refine bcase_of (fun h1=>?_) fun h1=>?_
   ·refine ldI_of (H.cell 0 rfl (app_get hR 3 rfl)) ?_
    refine ⟨?_,rfl⟩
    have h1:s.l≠255:=by simp at h1; omega
    congr 2
    simp [h1]
    omega
   ·refine ⟨?_,rfl⟩
    have h1:s.l=255:=by simp at h1; omega
    simp [h1]
  ·rintro h' u x ⟨hx,rfl⟩
   injection hx with hx
   injection hx with hx
   subst hx
   refine bcase_of (fun h1=>?_) fun h1=>?_
   ·have h1:s.l≠255/\134217728<=s.c:=of_decide_eq_true h1
    refine ldI_of (H.cell 2 rfl (last_get _ _ _)) ?_
    refine bindI_of (((s.l+1:Nat):Int)) (by rw [<- u8_in (s.l+1) (by omega)]; rfl) ?_
    refine stV_hp H 2 rfl (by simp [u8s_length]; omega) rfl fun h hsz H=>?_
    rw [last_set] at H
    refine ldI_of (H.cell 0 rfl (app_get hR 3 rfl)) ?_
    refine bindI_of (((s.c % 134217728:Nat):Int)) (by exact (and32 _ 134217727 (by omega) (by omega)).trans (by congr 1; exact Nat.and_two_pow_sub_one_eq_mod s.c 27)) ?_
    refine stV_hr H 0 rfl hR 3 (Nat.le_of_ble_eq_true rfl) rfl fun h hsz H=>?_
    refine ⟨rfl,?_⟩
    rw [if_pos h1]
    exact H
   ·have h1:¬ (s.l≠255/\134217728<=s.c):=of_decide_eq_false h1
    refine ⟨rfl,?_⟩
    rw [if_neg h1]
    exact H
 ·rintro h' u ⟨_,H'⟩
  have e:outM s=outTail (if s.l≠255/\134217728<=s.c then { s with l:=s.l+1,c:=s.c % 134217728 } else s) (if s.l≠255/\134217728<=s.c then { s with l:=s.l+1,c:=s.c % 134217728 } else s).l (if s.l≠255/\134217728<=s.c then { s with l:=s.l+1,c:=s.c % 134217728 } else s).c:=by
   unfold outM; split <;> rfl
  have hs':(if s.l≠255/\134217728<=s.c then { s with l:=s.l+1,c:=s.c % 134217728 } else s).l<256/\(if s.l≠255/\134217728<=s.c then { s with l:=s.l+1,c:=s.c % 134217728 } else s).c<4294967296/\(if s.l≠255/\134217728<=s.c then { s with l:=s.l+1,c:=s.c % 134217728 } else s).bs=s.bs:=by
   split
   ·exact ⟨by show s.l+1<256; omega,by show s.c % 134217728<_; omega,rfl⟩
   ·exact ⟨hl,hc,rfl⟩
  generalize (if s.l≠255/\134217728<=s.c then { s with l:=s.l+1,c:=s.c % 134217728 } else s)=s' at e hs' H'
  clear H
  obtain ⟨hl',hc',hb'⟩:=hs'
  rw [e] at hk
  rw [<- hb'] at hb ⊢
  have H:=H'
  clear H'
  refine ⟨fun vs h''=>vs=[.int .i64 ((if s'.l=255 then 20 else 19:Nat):Int)]/\h''=h',?_,?_⟩
  ·refine ldI_of (H.cell 2 rfl (last_get _ _ _)) ?_
   refine bcase_of (fun h1=>?_) fun h1=>?_
   ·refine bindI_of ((19:Int)) (by decide) ?_
    have h1:s'.l≠255:=by simp at h1; omega
    exact ⟨by rw [if_neg h1]; rfl,rfl⟩
   ·have h1:s'.l=255:=by simp at h1; omega
    exact ⟨by rw [if_pos h1]; rfl,rfl⟩
  ·rintro h'' u x ⟨hx,rfl⟩
   injection hx with hx
   injection hx with _ hx
   have hn:∃ i:Nat,(i=20/\s'.l=255\/i=19/\s'.l≠255)/\x=((i:Nat):Int):=by
    by_cases h1:s'.l=255
    ·rw [if_pos h1] at hx; exact ⟨20, .inl ⟨rfl,h1⟩,hx⟩
    ·rw [if_neg h1] at hx; exact ⟨19, .inr ⟨rfl,h1⟩,hx⟩
   clear hx
   obtain ⟨i,hi,rfl⟩:=hn
   have hi20:i<=20:=by omega
   have hi0:19<=i:=by omega
   refine ldS_of (H.cell 0 rfl (app_get hR 5 rfl)) ?_
   refine ldI_of (H.cell 0 rfl (app_get hR 3 rfl)) ?_
   refine needs_of (by omega) ?_
   refine bindI_of (((s'.c / 2 ^ i:Nat):Int)) (by exact shr_of (by show i<=32; omega)) ?_
   refine bindI_of (((s'.c / 2 ^ i % 256:Nat):Int)) (by rw [IntKind.wrap_u8]; omega) ?_
   refine newC_hp H fun b h H=>?_
   refine appC_own H 2 rfl (xs:=u8s (s'.bs++[s'.l])) (by rw [u8s_length]; simp) (by rw [List.length_append,u8s_length]; simp) (rdO_hp (o:=0) (n:=1*1) H 3 rfl (Nat.le_refl _)) rfl (fun v hv=>by rw [List.mem_singleton.1 hv]; rfl) (by omega) fun r' rest' h H=>?_
   refine stV_hr H 0 rfl hR 5 (Nat.le_of_ble_eq_true rfl) rfl fun h hsz H=>?_
   refine needs_of (by omega) ?_
   have hp:(2:Nat) ^ i<4294967296:=by rcases hi with ⟨rfl,_⟩ | ⟨rfl,_⟩ <;> decide
   have hp0:0<(2:Nat) ^ i:=Nat.two_pow_pos i
   refine bindI_of (((2 ^ i:Nat):Int)) (by exact shl_of (x:=1) (by show i<=32; omega) (by rw [Nat.one_mul]; exact u32_in _ hp)) ?_
   refine bindI_of (((2 ^ i-1:Nat):Int)) (by exact u32_at _ _ (by omega) (by omega)) ?_
   refine ldI_of (H.cell 0 rfl (app_get hR 3 rfl)) ?_
   refine bindI_of (((s'.c % 2 ^ i:Nat):Int)) (by exact (and32 _ _ hc' (by omega)).trans (by rw [Nat.and_two_pow_sub_one_eq_mod])) ?_
   refine stV_hr H 0 rfl hR 3 (Nat.le_of_ble_eq_true rfl) rfl fun h hsz H=>?_
   refine bindI_of (((27-i:Nat):Int)) (by exact i64_at _ _ (by omega) (by omega) (by omega)) ?_
   refine stV_hr H 0 rfl hR 4 (Nat.le_of_ble_eq_true rfl) rfl fun h hsz H=>?_
   refine hk r' rest' _ ?_
   have H2:=H.take 3
   have e2:outTail s' s'.l s'.c = { s' with bs:=s'.bs++[s'.l],l:=s'.c / 2 ^ i % 256,c:=s'.c % 2 ^ i,t:=27-i }:=by
    unfold outTail
    rcases hi with ⟨rfl,h1⟩ | ⟨rfl,h1⟩
    ·rw [if_pos h1]
    ·rw [if_neg h1]
   rw [e2]
   refine H2.as ?_
   simp [codL,codE,crest,u8s]
   omega
theorem shiftM_eq (s:Cod):shiftM s=if s.t-1=0 then outM { s with a:=2*s.a,c:=2*s.c,t:=s.t-1 } else { s with a:=2*s.a,c:=2*s.c,t:=s.t-1 }:=rfl
theorem renewM_succ (n:Nat) (s:Cod):renewM (n+1) s=if 0x8000<=(shiftM s).a then shiftM s else renewM n (shiftM s):=rfl
theorem renew_ok {h:Heap} {p q r:Nat} {s:Cod} {rest:List Value} {F:List Nat} {h0:Heap} (H:Hp h0 F h (codL p q r s rest)) (hs:Mid s) (ha:1<=s.a) (ha':s.a<0x8000) (hb:s.bs.length<999999983)
  {K:VK} {Kp:PK} (hk:∀ r' rest' h',Hp h0 F h' (codL p q r' (renewM 17 s) rest')->K (.tuple #[]) h') :
  CP F_arith_Coder_renew #[.pointer (at0 p)] h K Kp:=by
 refine call_arith_Coder_renew ?_
 unfold arith_Coder_renew
 refine ⟨fun n vs h'=>∃ (s':Cod) (r':Nat) (rest':List Value),Hp h0 F h' (codL p q r' s' rest')/\Mid s'/\s'.a<0x8000/\0x8000<=s'.a*2 ^ n/\renewM n s'=renewM 17 s/\s'.bs.length+n<1000000000,
  ⟨17,s,r,rest,H,hs,ha',by have:(2:Nat) ^ 17=131072:=rfl; omega,rfl,by omega⟩,?_⟩
 clear H
 rintro n h u ⟨s',r',rest',H,hm,hlt,hge,he,hbn⟩
 obtain ⟨n,rfl⟩:∃ m,n=m+1:=by
  cases n with
  | zero=>simp at hge; omega
  | succ m=>exact ⟨m,rfl⟩
 have ht1:=hm.t1
 have ht2:=hm.t12
 have hca:=hm.ca
 have hcp:=pow_le ht1
 obtain ⟨g1,g2,g3,g4,g5,g6⟩:=shiftM_mid hm hlt
 have hnext:0x8000<=(shiftM s').a*2 ^ n:=by
  rw [g2]
  rw [Nat.pow_succ] at hge
  have:s'.a*(2 ^ n*2)=2*s'.a*2 ^ n:=by rw [Nat.mul_comm (2 ^ n) 2,<- Nat.mul_assoc,Nat.mul_comm s'.a 2]
  omega
 rw [renewM_succ] at he
 try simp only [ptr_some_eq,add_mk,Nat.zero_add,Nat.add_zero]
 refine ldI_of (H.cell 0 rfl (app_get hR 2 rfl)) ?_
 refine bindI_of (((2*s'.a:Nat):Int)) (by exact shl_of (i:=1) (by decide) ((u32_in _ (by omega)).trans (by omega))) ?_
 refine stV_hr H 0 rfl hR 2 (Nat.le_of_ble_eq_true rfl) rfl fun h hsz H=>?_
 refine ldI_of (H.cell 0 rfl (app_get hR 3 rfl)) ?_
 refine bindI_of (((2*s'.c:Nat):Int)) (by exact shl_of (i:=1) (by decide) ((u32_in _ (by omega)).trans (by omega))) ?_
 refine stV_hr H 0 rfl hR 3 (Nat.le_of_ble_eq_true rfl) rfl fun h hsz H=>?_
 refine ldI_of (H.cell 0 rfl (app_get hR 4 rfl)) ?_
 refine bindI_of (((s'.t-1:Nat):Int)) (by exact i64_at _ _ (by omega) (by omega) (by omega)) ?_
 refine stV_hr H 0 rfl hR 4 (Nat.le_of_ble_eq_true rfl) rfl fun h hsz H=>?_
 refine ldI_of (H.cell 0 rfl (app_get hR 4 rfl)) ?_
 refine bcase_of (fun h1=>?_) fun h1=>?_
 ·have h1:s'.t-1=0:=by simp at h1; omega
  rw [shiftM_eq,if_pos h1] at g1 g2 g3 g4 g5 g6 hnext he
  have H2:Hp h0 F _ (codL p q r' { s' with a:=2*s'.a,c:=2*s'.c,t:=s'.t-1 } rest'):=H
  refine out_ok H2 hm.l (by show 2*s'.c<_; omega) (by show s'.bs.length<_; omega) fun r2 rest2 h2 H=>?_
  refine ldI_of (H.cell 0 rfl (app_get hR 2 rfl)) ?_
  refine bcase_of (fun h3=>?_) fun h3=>?_
  ·have h3:0x8000<=(outM { s' with a:=2*s'.a,c:=2*s'.c,t:=s'.t-1 }).a:=by simp at h3; omega
   rw [if_pos h3] at he
   exact hk r2 rest2 _ (he ▸ H)
  ·have h3:¬ 0x8000<=(outM { s' with a:=2*s'.a,c:=2*s'.c,t:=s'.t-1 }).a:=by simp at h3; omega
   rw [if_neg h3] at he
   exact ⟨n,Nat.lt_succ_self n,_,r2,rest2,H,g1,by omega,hnext,he,by omega⟩
 ·have h1:¬ s'.t-1=0:=by simp at h1; omega
  rw [shiftM_eq,if_neg h1] at g1 g2 g3 g4 g5 g6 hnext he
  have H2:Hp h0 F _ (codL p q r' { s' with a:=2*s'.a,c:=2*s'.c,t:=s'.t-1 } rest'):=H
  refine ldI_of (H.cell 0 rfl (app_get hR 2 rfl)) ?_
  refine bcase_of (fun h3=>?_) fun h3=>?_
  ·have h3:0x8000<=2*s'.a:=by simp at h3; omega
   rw [if_pos h3] at he
   exact hk r' rest' _ (he ▸ H2)
  ·have h3:¬ 0x8000<=2*s'.a:=by simp at h3; omega
   rw [if_neg h3] at he
   exact ⟨n,Nat.lt_succ_self n,_,r',rest',H2,g1,by omega,hnext,he,by show s'.bs.length+n<_; omega⟩
theorem likely_ok {h:Heap} {q i x:Nat} {st:List Nat} {F:List Nat} {h0:Heap} {L:List Ent} (H:Hp h0 F h L) (k:Nat) (hq:L[k]? = some ⟨q,true,T_uint8,u8s st⟩) (hi:st[i]? = some x) (hx:x<94) {a b c d:Int}
  (hb:b=(mOf (x / 2):Nat)) {K:VK} {Kp:PK} (hk:∀ h',Hp h0 F h' (L.set k ⟨q,true,T_uint8,u8s (st.set i (upM x))⟩)->K (.tuple #[]) h') :
  CP F_arith_likely #[.pointer (some ⟨q,i,none⟩), .agg #[.int .u32 a, .int .u8 b, .int .u8 c, .int .u8 d]] h K Kp:=by
 refine call_arith_likely ?_
 unfold arith_likely
 have hm:=mOf_lt (r:=x / 2) (by omega)
 have hkl:k<L.length:=(List.getElem?_eq_some_iff.1 hq).1
 have hil:i<st.length:=(List.getElem?_eq_some_iff.1 hi).1
 subst hb
 refine newC_hp H fun b h H=>?_
 have hq2:(L++[(⟨b,true,T_arith_row,[.int .u32 a, .int .u8 (mOf (x / 2):Nat), .int .u8 c, .int .u8 d]⟩:Ent)])[k]? = some ⟨q,true,T_uint8,u8s st⟩:=by rw [List.getElem?_append_left hkl]; exact hq
 try simp only [ptr_some_eq,add_mk,Nat.zero_add,Nat.add_zero]
 refine ldI_of (H.cell L.length List.getElem?_concat_length rfl) ?_
 refine bindI_of (((2*mOf (x / 2):Nat):Int)) (by exact shl_of (i:=1) (by decide) ((u8_in _ (by omega)).trans (by omega))) ?_
 refine ldI_of (H.cell k hq2 (u8s_get hi)) ?_
 refine bindI_of (((x % 2:Nat):Int)) (by exact (and8 _ 1 (by omega) (by omega)).trans (by rw [Nat.and_one_is_mod])) ?_
 refine bindI_of (((upM x:Nat):Int)) (by exact (or8 _ _ (by omega) (by omega)).trans (by congr 1; exact (Nat.two_pow_add_eq_or_of_lt (i:=1) (by omega) _).symm)) ?_
 refine stV_hp H k hq2 (by rw [u8s_length]; exact hil) rfl fun h hsz H=>?_
 refine hk _ ?_
 have H2:=H.take L.length
 refine H2.as ?_
 rw [<- u8s_set,List.set_append_left _ _ hkl,List.take_left' (by simp)]
theorem unlikely_ok {h:Heap} {q i x:Nat} {st:List Nat} {F:List Nat} {h0:Heap} {L:List Ent} (H:Hp h0 F h L) (k:Nat) (hq:L[k]? = some ⟨q,true,T_uint8,u8s st⟩) (hi:st[i]? = some x) (hx:x<94) {a b c d:Int}
  (hc:c=(lOf (x / 2):Nat)) (hd:d=(cOf (x / 2):Nat)) {K:VK} {Kp:PK} (hk:∀ h',Hp h0 F h' (L.set k ⟨q,true,T_uint8,u8s (st.set i (upL x))⟩)->K (.tuple #[]) h') :
  CP F_arith_unlikely #[.pointer (some ⟨q,i,none⟩), .agg #[.int .u32 a, .int .u8 b, .int .u8 c, .int .u8 d]] h K Kp:=by
 refine call_arith_unlikely ?_
 unfold arith_unlikely
 have hm:=lOf_lt (r:=x / 2) (by omega)
 have hm2:=cOf_le (r:=x / 2) (by omega)
 have hkl:k<L.length:=(List.getElem?_eq_some_iff.1 hq).1
 have hil:i<st.length:=(List.getElem?_eq_some_iff.1 hi).1
 subst hc hd
 refine newC_hp H fun b' h H=>?_
 have hq2:(L++[(⟨b',true,T_arith_row,[.int .u32 a, .int .u8 b, .int .u8 (lOf (x / 2):Nat), .int .u8 (cOf (x / 2):Nat)]⟩:Ent)])[k]? = some ⟨q,true,T_uint8,u8s st⟩:=by rw [List.getElem?_append_left hkl]; exact hq
 try simp only [ptr_some_eq,add_mk,Nat.zero_add,Nat.add_zero]
 refine ldI_of (H.cell L.length List.getElem?_concat_length rfl) ?_
 refine bindI_of (((2*lOf (x / 2):Nat):Int)) (by exact shl_of (i:=1) (by decide) ((u8_in _ (by omega)).trans (by omega))) ?_
 refine ldI_of (H.cell k hq2 (u8s_get hi)) ?_
 refine bindI_of (((x % 2:Nat):Int)) (by exact (and8 _ 1 (by omega) (by omega)).trans (by rw [Nat.and_one_is_mod])) ?_
 refine bindI_of (((2*lOf (x / 2)+x % 2:Nat):Int)) (by exact (or8 _ _ (by omega) (by omega)).trans (by congr 1; exact (Nat.two_pow_add_eq_or_of_lt (i:=1) (by omega) _).symm)) ?_
 refine ldI_of (H.cell L.length List.getElem?_concat_length rfl) ?_
 have hxor:(2*lOf (x / 2)+x % 2) ^^^ cOf (x / 2)=upL x:=by
  have e0:x % 2<2:=Nat.mod_lt _ (by omega)
  unfold upL
  generalize lOf (x / 2)=l at hm ⊢
  generalize cOf (x / 2)=c at hm2 ⊢
  generalize x % 2=y at e0 ⊢
  have:∀ l∈List.range 47,∀ y∈List.range 2,∀ c∈List.range 2,(2*l+y) ^^^ c=2*l+(y+c) % 2:=by decide
  exact this l (List.mem_range.2 hm) y (List.mem_range.2 e0) c (List.mem_range.2 (by omega))
 refine bindI_of (((upL x:Nat):Int)) (by exact (xor8 _ _ (by omega) (by omega)).trans (by rw [hxor])) ?_
 refine stV_hp H k hq2 (by rw [u8s_length]; exact hil) rfl fun h hsz H=>?_
 refine hk _ ?_
 have H2:=H.take L.length
 refine H2.as ?_
 rw [<- u8s_set,List.set_append_left _ _ hkl,List.take_left' (by simp)]
def idx (ctx:Int) (n:Nat):Nat:=(ctx % (n:Int)).toNat
theorem idx_lt (ctx:Int) {n:Nat} (hn:1<=n):idx ctx n<n:=by
 unfold idx
 have h1:=Int.emod_nonneg ctx (b:=(n:Int)) (by omega)
 have h2:=Int.emod_lt_of_pos ctx (b:=(n:Int)) (by omega)
 omega
theorem tmod_abs (ctx:Int) {n:Nat} (hn:1<=n):-(n:Int)<ctx.tmod n/\ctx.tmod n<n:=by
 constructor
 ·have h1:=Int.lt_tmod_of_pos ctx (b:=(n:Int)) (by omega)
  exact h1
 ·exact Int.tmod_lt_of_pos ctx (by omega)
theorem idx_eq (ctx:Int) {n:Nat} (hn:1<=n):(ctx.tmod n+n).tmod n=((idx ctx n:Nat):Int):=by
 have h1:=Int.emod_nonneg ctx (b:=(n:Int)) (by omega)
 have h3:=tmod_abs ctx hn
 have e1:((idx ctx n:Nat):Int)=ctx % n:=by unfold idx; omega
 rw [e1,Int.tmod_eq_emod_of_nonneg (by omega),Int.add_emod_right,Int.tmod_eq_emod]
 split
 ·rw [show ((0:Nat):Int)=0 from rfl,Int.sub_zero,Int.emod_emod_of_dvd _ (Int.dvd_refl _)]
 ·have:((n:Int).natAbs:Int)=n:=by omega
  rw [this,Int.sub_emod_right,Int.emod_emod_of_dvd _ (Int.dvd_refl _)]
theorem at_ok {h:Heap} {p q:Nat} {st:List Nat} {F:List Nat} {h0:Heap} {L:List Ent} (H:Hp h0 F h L) (kp kq:Nat) {w:Bool} {t:TypeId} {T:List Value} (hp:L[kp]? = some ⟨p,w,t,rowsV++(.slice (some ⟨q,0,none⟩) st.length st.length::T)⟩)
  (hq:L[kq]? = some ⟨q,true,T_uint8,u8s st⟩) (hn:1<=st.length) (hn2:st.length<=131072) (hst:∀ x∈st,x<94) {ctx:Int} {K:VK} {Kp:PK}
  (hk:∀ h' x,st[idx ctx st.length]? = some x->x<94->Hp h0 F h' L->K (.tuple #[.pointer (some ⟨q,idx ctx st.length,none⟩), .agg #[.int .u32 (qOf (x / 2):Nat), .int .u8 (mOf (x / 2):Nat), .int .u8 (lOf (x / 2):Nat), .int .u8 (cOf (x / 2):Nat)]]) h') :
  CP F_arith_table_at #[.pointer (at0 p), .int .i64 ctx] h K Kp:=by
 refine call_arith_table_at ?_
 unfold arith_table_at
 have hi:=idx_lt ctx hn
 have habs:=tmod_abs ctx hn
 obtain ⟨x,hx⟩:∃ x,st[idx ctx st.length]? = some x:=⟨_,List.getElem?_eq_getElem hi⟩
 have hx94:x<94:=hst x (List.mem_of_getElem? hx)
 have hkp:kp<L.length:=(List.getElem?_eq_some_iff.1 hp).1
 have hkq:kq<L.length:=(List.getElem?_eq_some_iff.1 hq).1
 refine newC_hp H fun b h H=>?_
 have hp2:∀ e,(L++[e])[kp]? = some ⟨p,w,t,rowsV++(.slice (some ⟨q,0,none⟩) st.length st.length::T)⟩:=fun e=>by rw [List.getElem?_append_left hkp]; exact hp
 have hq2:∀ e,(L++[e])[kq]? = some ⟨q,true,T_uint8,u8s st⟩:=fun e=>by rw [List.getElem?_append_left hkq]; exact hq
 try simp only [ptr_some_eq,add_mk,Nat.zero_add,Nat.add_zero]
 refine ldS_of (H.cell kp (hp2 _) (app_get hR 0 rfl)) ?_
 refine needs_of (by exact ⟨trivial,by omega⟩) ?_
 refine bindI_gen fun z6 e6=>?_
 subst e6
 refine bindI_of (ctx.tmod st.length+st.length) (i64_in _ (by omega) (by omega)) ?_
 refine needs_of (by exact ⟨trivial,by omega⟩) ?_
 refine bindI_of _ (idx_eq ctx hn) ?_
 refine ldS_of (H.cell kp (hp2 _) (app_get hR 0 rfl)) ?_
 refine needs_of (by omega) ?_
 simp only [Int.toNat_natCast,Nat.mul_one]
 try simp only [ptr_some_eq,add_mk,Nat.zero_add,Nat.add_zero]
 refine ldI_of (H.cell kq (hq2 _) (u8s_get hx)) ?_
 refine bindI_of (((x / 2:Nat):Int)) (by exact shr_of (i:=1) (by decide)) ?_
 refine needs_of (by omega) ?_
 simp only [Int.toNat_natCast]
 have hr:x / 2<47:=by omega
 have hrow:∀ j v,(rowC (x / 2))[j]? = some v->(rowsV++(.slice (some ⟨q,0,none⟩) st.length st.length::T))[x / 2*4+j]? = some v:=fun j v hv=>get_app (by rw [Nat.mul_comm]; exact rowsN_get hr hv)
 refine ldI_of (H.cell kp (hp2 _) (hrow 0 _ rfl)) ?_
 refine ldI_of (H.cell kp (hp2 _) (hrow 1 _ rfl)) ?_
 refine ldI_of (H.cell kp (hp2 _) (hrow 2 _ rfl)) ?_
 refine ldI_of (H.cell kp (hp2 _) (hrow 3 _ rfl)) ?_
 refine stV_hp H L.length List.getElem?_concat_length (by simp) rfl fun h hsz H=>?_
 simp only [List.set_append_right _ _ (Nat.le_refl _),Nat.sub_self,List.set_cons_zero,List.set_cons_succ] at H
 refine stV_hp H L.length List.getElem?_concat_length (by simp) rfl fun h hsz H=>?_
 simp only [List.set_append_right _ _ (Nat.le_refl _),Nat.sub_self,List.set_cons_zero,List.set_cons_succ] at H
 refine stV_hp H L.length List.getElem?_concat_length (by simp) rfl fun h hsz H=>?_
 simp only [List.set_append_right _ _ (Nat.le_refl _),Nat.sub_self,List.set_cons_zero,List.set_cons_succ] at H
 refine stV_hp H L.length List.getElem?_concat_length (by simp) rfl fun h hsz H=>?_
 simp only [List.set_append_right _ _ (Nat.le_refl _),Nat.sub_self,List.set_cons_zero,List.set_cons_succ] at H
 refine ldI_of (H.cell L.length List.getElem?_concat_length rfl) ?_
 refine ldI_of (H.cell L.length List.getElem?_concat_length rfl) ?_
 refine ldI_of (H.cell L.length List.getElem?_concat_length rfl) ?_
 refine ldI_of (H.cell L.length List.getElem?_concat_length rfl) ?_
 exact hk _ x hx hx94 ((H.take L.length).as (List.take_left' rfl))
theorem getD_of {st:List Nat} {k x:Nat} (h:st[k]? = some x):st.getD k 0=x:=by rw [List.getD_eq_getElem?_getD,h]; rfl
theorem putM_at (s:Cod) (k bit x:Nat) (hx:s.st[k]? = some x):putM s k bit =
 if bit=x % 2 then
  if 0x8000<=s.a-qOf (x / 2) then { s with a:=s.a-qOf (x / 2),c:=s.c+qOf (x / 2),n:=s.n+1 }
  else if s.a-qOf (x / 2)<qOf (x / 2) then renewM 17 { s with a:=qOf (x / 2),n:=s.n+1,st:=s.st.set k (upM x) }
  else renewM 17 { s with a:=s.a-qOf (x / 2),c:=s.c+qOf (x / 2),n:=s.n+1,st:=s.st.set k (upM x) }
 else
  if s.a-qOf (x / 2)<qOf (x / 2) then renewM 17 { s with a:=s.a-qOf (x / 2),c:=s.c+qOf (x / 2),n:=s.n+1,st:=s.st.set k (upL x) }
  else renewM 17 { s with a:=qOf (x / 2),n:=s.n+1,st:=s.st.set k (upL x) }:=by
 rw [<- getD_of hx]; rfl
theorem put_ok {h:Heap} {p q r:Nat} {s:Cod} {rest:List Value} {F:List Nat} {h0:Heap} (H:Hp h0 F h (codL p q r s rest)) (hs:Wf s) (hd:s.done=false) (hn:s.n<16777216) (hl:1<=s.st.length) (hl2:s.st.length<=131072)
  {ctx:Int} {bit:Nat} (hbit:bit<=1) {K:VK} {Kp:PK} (hk:∀ r' rest' h',Hp h0 F h' (codL p q r' (putM s (idx ctx s.st.length) bit) rest')->K (.int .i64 0) h') :
  CP F_arith_Coder_Put #[.pointer (at0 p), .int .i64 ctx, .int .i64 (bit:Nat)] h K Kp:=by
 refine call_arith_Coder_Put ?_
 unfold arith_Coder_Put
 refine ⟨fun vs h'=>h'=h,?_,?_⟩
 ·try simp only [ptr_some_eq,add_mk,Nat.zero_add,Nat.add_zero]
  refine ldB_of (H.cell 0 rfl (app_get hR 6 (congrArg (fun b=>some (Value.bool b)) hd))) ?_
  refine bcase_false (by rfl) ?_
  refine bcase_of (fun h1=>?_) fun h1=>?_
  ·refine bcase_of (fun h2=>?_) fun h2=>?_
   ·simp at h1 h2; omega
   ·refine ldI_of (H.cell 0 rfl (app_get hR 1 rfl)) ?_
    refine bcase_false (by simp; omega) ?_
    trivial
  ·refine ldI_of (H.cell 0 rfl (app_get hR 1 rfl)) ?_
   refine bcase_false (by simp; omega) ?_
   trivial
 ·rintro h' u rfl
  try simp only [ptr_some_eq,add_mk,Nat.zero_add,Nat.add_zero]
  refine ldI_of (H.cell 0 rfl (app_get hR 1 rfl)) ?_
  refine bindI_of (((s.n+1:Nat):Int)) (by exact i64_at _ _ (by omega) (by omega) (by omega)) ?_
  refine stV_hr H 0 rfl hR 1 (Nat.le_of_ble_eq_true rfl) rfl fun h hsz H=>?_
  refine at_ok H 0 1 rfl rfl hl hl2 hs.st fun h x hx hx94 H=>?_
  refine ⟨_,_,_,_,_,rfl,?_⟩
  refine newC_hp H fun b h H=>?_
  try simp only [ptr_some_eq,add_mk,Nat.zero_add,Nat.add_zero]
  refine stV_hp H 3 rfl (by first | exact Nat.le_of_ble_eq_true rfl | simp) rfl fun h hsz H=>?_
  refine stV_hp H 3 rfl (by first | exact Nat.le_of_ble_eq_true rfl | simp) rfl fun h hsz H=>?_
  refine stV_hp H 3 rfl (by first | exact Nat.le_of_ble_eq_true rfl | simp) rfl fun h hsz H=>?_
  refine stV_hp H 3 rfl (by first | exact Nat.le_of_ble_eq_true rfl | simp) rfl fun h hsz H=>?_
  refine ldI_of (H.cell 0 rfl (app_get hR 2 rfl)) ?_
  refine ldI_of (H.cell 3 rfl rfl) ?_
  have hr:x / 2<47:=by omega
  have hq1:=qOf_pos hr
  have hq2:=qOf_le hr
  have hlo:=hs.lo
  have hhi:=hs.hi
  have hca:=hs.ca
  have hcp:=pow_le hs.t1
  have hlen:=hs.len
  have hM:=set_lt hs.st (k:=idx ctx s.st.length) (upM_lt hx94)
  have hL:=set_lt hs.st (k:=idx ctx s.st.length) (upL_lt hx94)
  rw [putM_at s _ bit x hx] at hk
  refine bindI_of (((s.a-qOf (x / 2):Nat):Int)) (by exact u32_at _ _ (by omega) (by omega)) ?_
  refine stV_hr H 0 rfl hR 2 (Nat.le_of_ble_eq_true rfl) rfl fun h hsz H=>?_
  refine ldI_of (H.cell 1 rfl (u8s_get hx)) ?_
  refine bindI_of (((x % 2:Nat):Int)) (by exact (and8 _ 1 (by omega) (by omega)).trans (by rw [Nat.and_one_is_mod])) ?_
  refine bindI_of (((x % 2:Nat):Int)) (by exact i64_in _ (by omega) (by omega)) ?_
  refine bcase_of (fun h1=>?_) fun h1=>?_
  ·have h1:bit=x % 2:=by simp at h1; omega
   rw [if_pos h1] at hk
   refine ldI_of (H.cell 0 rfl (app_get hR 2 rfl)) ?_
   refine bcase_of (fun h2=>?_) fun h2=>?_
   ·have h2:0x8000<=s.a-qOf (x / 2):=by simp at h2; omega
    rw [if_pos h2] at hk
    refine ldI_of (H.cell 0 rfl (app_get hR 3 rfl)) ?_
    refine ldI_of (H.cell 3 rfl rfl) ?_
    refine bindI_of (((s.c+qOf (x / 2):Nat):Int)) (by exact u32_at _ _ (by omega) (by omega)) ?_
    refine stV_hr H 0 rfl hR 3 (Nat.le_of_ble_eq_true rfl) rfl fun h hsz H=>?_
    exact hk r rest _ (H.take 3)
   ·have h2:¬ 0x8000<=s.a-qOf (x / 2):=by simp at h2; omega
    rw [if_neg h2] at hk
    refine ldI_of (H.cell 0 rfl (app_get hR 2 rfl)) ?_
    refine ldI_of (H.cell 3 rfl rfl) ?_
    refine bcase_of (fun h3=>?_) fun h3=>?_
    ·have h3:s.a-qOf (x / 2)<qOf (x / 2):=by simp at h3; omega
     rw [if_pos h3] at hk
     refine ldI_of (H.cell 3 rfl rfl) ?_
     refine stV_hr H 0 rfl hR 2 (Nat.le_of_ble_eq_true rfl) rfl fun h hsz H=>?_
     refine ldI_of (H.cell 3 rfl rfl) ?_
     refine ldI_of (H.cell 3 rfl rfl) ?_
     refine ldI_of (H.cell 3 rfl rfl) ?_
     refine ldI_of (H.cell 3 rfl rfl) ?_
     refine likely_ok H 1 rfl hx hx94 rfl fun h H=>?_
     have H2:Hp h0 F h (codL p q r { s with a:=qOf (x / 2),n:=s.n+1,st:=s.st.set (idx ctx s.st.length) (upM x) } rest):=(H.take 3).as (by simp [codL,codE,crest])
     exact renew_ok H2 ⟨hs.t1,hs.t12,by show s.c+qOf _<2 ^ (28-s.t); omega,hs.l,hs.bs,hM⟩ hq1 (by show qOf _<_; omega) (by show s.bs.length<_; omega) hk
    ·have h3:¬ s.a-qOf (x / 2)<qOf (x / 2):=by simp at h3; omega
     rw [if_neg h3] at hk
     refine ldI_of (H.cell 0 rfl (app_get hR 3 rfl)) ?_
     refine ldI_of (H.cell 3 rfl rfl) ?_
     refine bindI_of (((s.c+qOf (x / 2):Nat):Int)) (by exact u32_at _ _ (by omega) (by omega)) ?_
     refine stV_hr H 0 rfl hR 3 (Nat.le_of_ble_eq_true rfl) rfl fun h hsz H=>?_
     refine ldI_of (H.cell 3 rfl rfl) ?_
     refine ldI_of (H.cell 3 rfl rfl) ?_
     refine ldI_of (H.cell 3 rfl rfl) ?_
     refine ldI_of (H.cell 3 rfl rfl) ?_
     refine likely_ok H 1 rfl hx hx94 rfl fun h H=>?_
     have H2:Hp h0 F h (codL p q r { s with a:=s.a-qOf (x / 2),c:=s.c+qOf (x / 2),n:=s.n+1,st:=s.st.set (idx ctx s.st.length) (upM x) } rest):=(H.take 3).as (by simp [codL,codE,crest])
     exact renew_ok H2 ⟨hs.t1,hs.t12,by show s.c+qOf _+(s.a-qOf _)<2 ^ (28-s.t); omega,hs.l,hs.bs,hM⟩ (by show 1<=s.a-qOf _; omega) (by show s.a-qOf _<_; omega) (by show s.bs.length<_; omega) hk
  ·have h1:¬ bit=x % 2:=by simp at h1; omega
   rw [if_neg h1] at hk
   refine ldI_of (H.cell 0 rfl (app_get hR 2 rfl)) ?_
   refine ldI_of (H.cell 3 rfl rfl) ?_
   refine bcase_of (fun h3=>?_) fun h3=>?_
   ·have h3:s.a-qOf (x / 2)<qOf (x / 2):=by simp at h3; omega
    rw [if_pos h3] at hk
    refine ldI_of (H.cell 0 rfl (app_get hR 3 rfl)) ?_
    refine ldI_of (H.cell 3 rfl rfl) ?_
    refine bindI_of (((s.c+qOf (x / 2):Nat):Int)) (by exact u32_at _ _ (by omega) (by omega)) ?_
    refine stV_hr H 0 rfl hR 3 (Nat.le_of_ble_eq_true rfl) rfl fun h hsz H=>?_
    refine ldI_of (H.cell 3 rfl rfl) ?_
    refine ldI_of (H.cell 3 rfl rfl) ?_
    refine ldI_of (H.cell 3 rfl rfl) ?_
    refine ldI_of (H.cell 3 rfl rfl) ?_
    refine unlikely_ok H 1 rfl hx hx94 rfl rfl fun h H=>?_
    have H2:Hp h0 F h (codL p q r { s with a:=s.a-qOf (x / 2),c:=s.c+qOf (x / 2),n:=s.n+1,st:=s.st.set (idx ctx s.st.length) (upL x) } rest):=(H.take 3).as (by simp [codL,codE,crest])
    exact renew_ok H2 ⟨hs.t1,hs.t12,by show s.c+qOf _+(s.a-qOf _)<2 ^ (28-s.t); omega,hs.l,hs.bs,hL⟩ (by show 1<=s.a-qOf _; omega) (by show s.a-qOf _<_; omega) (by show s.bs.length<_; omega) hk
   ·have h3:¬ s.a-qOf (x / 2)<qOf (x / 2):=by simp at h3; omega
    rw [if_neg h3] at hk
    refine ldI_of (H.cell 3 rfl rfl) ?_
    refine stV_hr H 0 rfl hR 2 (Nat.le_of_ble_eq_true rfl) rfl fun h hsz H=>?_
    refine ldI_of (H.cell 3 rfl rfl) ?_
    refine ldI_of (H.cell 3 rfl rfl) ?_
    refine ldI_of (H.cell 3 rfl rfl) ?_
    refine ldI_of (H.cell 3 rfl rfl) ?_
    refine unlikely_ok H 1 rfl hx hx94 rfl rfl fun h H=>?_
    have H2:Hp h0 F h (codL p q r { s with a:=qOf (x / 2),n:=s.n+1,st:=s.st.set (idx ctx s.st.length) (upL x) } rest):=(H.take 3).as (by simp [codL,codE,crest])
    exact renew_ok H2 ⟨hs.t1,hs.t12,by show s.c+qOf _<2 ^ (28-s.t); omega,hs.l,hs.bs,hL⟩ hq1 (by show qOf _<_; omega) (by show s.bs.length<_; omega) hk
end Go.Ar
namespace Go.Ar
open Go Go.Den Go.Den.YtfaclehehhgpcaaGreat
theorem rows_ok {h:Heap} {K:VK} {Kp:PK} (hk:∀ h',hext h h'->K (.agg rowsV.toArray) h'):CP F_arith_rows #[] h K Kp:=by
 refine call_arith_rows ?_
 unfold arith_rows
 have H:=Hp.nil h []
 refine newC_hp H fun r h H=>?_
 refine stVs_all H 0 rfl (by kernel_rfl) (List.all_eq_true.1 (by kernel_rfl)) fun h' hsz H'=>?_
 refine ldAll_hp H' 0 rfl (by kernel_rfl) ?_
 have key:∀ X,X=rowsV->K (.agg X.toArray) h':=fun X e=>e ▸ hk _ H'.hext
 refine key _ ?_
 kernel_rfl
def tabV (q n:Nat):List Value:=rowsV++[.slice (some ⟨q,0,none⟩) n n, .int .i64 0]
theorem tab_eq (q n:Nat):putL (putL Z_arith_table 0 rowsV) 188 [.slice (some ⟨q,0,none⟩) n n]=tabV q n:=by kernel_rfl
theorem tab_length (q n:Nat):(tabV q n).length=190:=by kernel_rfl
theorem rows_cells:∀ n,(rowsN n).all Value.oneCell'=true
 | 0=>rfl
 | n+1=>by rw [rowsN,List.all_append,rows_cells n]; rfl
theorem tab_cells (q n:Nat):∀ v∈tabV q n,v.oneCell'=true:=List.all_eq_true.1 (by unfold tabV; rw [List.all_append]; unfold rowsV; rw [rows_cells]; rfl)
theorem u8s_zero (n:Nat):repZ [.int .u8 0] n=u8s (List.replicate n 0):=by rw [repZ_one]; simp [u8s]
theorem made_ok {h:Heap} {n:Nat} (h1:1<=n) (h2:n<=131072) {K:VK} {Kp:PK}
  (hk:∀ q h',Hp h [] h' [⟨q,true,T_uint8,u8s (List.replicate n 0)⟩]->K (.tuple #[.agg (tabV q n).toArray, .bool true]) h'):CP F_arith_made #[.int .i64 (n:Nat)] h K Kp:=by
 refine call_arith_made ?_
 unfold arith_made
 have H:=Hp.nil h []
 refine newC_hp H fun r h H=>?_
 refine bcase_false (by simp; omega) ?_
 refine bcase_false (by simp; omega) ?_
 refine ⟨rows_ok fun h2 e=>?_,?_⟩
 ·refine ⟨rowsV,hR,rfl,e,?_⟩
  have H:=H.ext e
  refine needs_of (by simp; omega) ?_
  simp only [Int.toNat_natCast,u8s_zero]
  refine newC_hp H fun q h H=>?_
  refine needs_of ⟨hR,by decide⟩ ?_
  refine needs_of (by exact ⟨rfl,by rw [putL_length]; decide⟩) ?_
  refine needs_of (by rw [tab_eq]; exact tab_length q n) ?_
  rw [tab_eq]
  refine stVs_all H 0 rfl (tab_length q n) (tab_cells q n) fun h' hsz H=>?_
  refine ldAll_hp H 0 rfl (tab_length q n) ?_
  exact hk q _ (H.pick [1] (by decide) rfl)
 ·refine needs_of (by simp; omega) ?_
  simp only [Int.toNat_natCast,u8s_zero]
  refine newC_hp H fun q h H=>?_
  refine rows_ok fun h2 e=>?_
  refine ⟨rowsV,hR,rfl,e,?_⟩
  have H:=H.ext e
  refine needs_of ⟨hR,by decide⟩ ?_
  refine needs_of (by exact ⟨rfl,by rw [putL_length]; decide⟩) ?_
  refine needs_of (by rw [tab_eq]; exact tab_length q n) ?_
  rw [tab_eq]
  refine stVs_all H 0 rfl (tab_length q n) (tab_cells q n) fun h' hsz H=>?_
  refine ldAll_hp H 0 rfl (tab_length q n) ?_
  exact hk q _ (H.pick [1] (by decide) rfl)
theorem new_eq (q r n:Nat):putL (putL (putL (putL Z_arith_Coder 0 (tabV q n)) 190 ([.int .u32 32768]:List Value)) 192 ([.int .i64 12]:List Value)) 193 ([.slice (some ⟨r,0,none⟩) 1 1]:List Value)=rowsV++crest q n 0 0x8000 0 12 r 1 1 false:=by kernel_rfl
theorem new_ok {h:Heap} {n:Nat} (h1:1<=n) (h2:n<=131072) {K:VK} {Kp:PK}
  (hk:∀ p q r h',Hp h [] h' (codL p q r (newC n) [])->K (.tuple #[.pointer (at0 p), .int .i64 0]) h'):CP F_arith_New #[.int .i64 (n:Nat)] h K Kp:=by
 refine call_arith_New ?_
 unfold arith_New
 refine made_ok h1 h2 fun q h' H=>?_
 refine ⟨tabV q n,tab_length q n,true,rfl,?_⟩
 refine newC_hp H fun t h H=>?_
 refine needs_of (tab_length q n) ?_
 refine stVs_all H 1 rfl (tab_length q n) (tab_cells q n) fun h' hsz H=>?_
 refine bcase_false (by rfl) ?_
 refine ldAll_hp H 1 rfl (tab_length q n) ?_
 refine newC_hp H fun r h H=>?_
 refine needs_of ⟨tab_length q n,by decide⟩ ?_
 refine needs_of (by exact ⟨rfl,by simp only [putL_length]; decide⟩) ?_
 refine needs_of (by exact ⟨rfl,by simp only [putL_length]; decide⟩) ?_
 refine needs_of (by exact ⟨rfl,by simp only [putL_length]; decide⟩) ?_
 rw [new_eq]
 refine newC_hp H fun p h H=>?_
 refine hk p q r _ ?_
 have H2:=H.pick [3,0,2] (by decide) (L':=codL p q r (newC n) []) (by simp [codL,codE,newC,u8s])
 exact H2
theorem flushC_or (c:Nat):c ||| 65535=c / 65536*65536+65535:=by
 have h1:c % 65536 ||| 65535=65535:=by
  apply Nat.eq_of_testBit_eq
  intro i
  rw [Nat.testBit_or,show 65535=2 ^ 16-1 from rfl,Nat.testBit_two_pow_sub_one]
  by_cases hi:i<16
  ·simp [hi]
  ·have:(c % 65536).testBit i=false:=Nat.testBit_lt_two_pow (Nat.lt_of_lt_of_le (Nat.mod_lt c (by decide:65536 > 0)) (by
    have:2 ^ 16<=2 ^ i:=Nat.pow_le_pow_right (by omega) (by omega)
    simpa using this))
   simp [hi,this]
 have h2:=Nat.two_pow_add_eq_or_of_lt (i:=16) (b:=c % 65536) (by omega) (c / 65536)
 have h3:=Nat.two_pow_add_eq_or_of_lt (i:=16) (b:=65535) (by omega) (c / 65536)
 calc c ||| 65535=(2 ^ 16*(c / 65536)+c % 65536) ||| 65535:=by congr 1; omega
  _=(2 ^ 16*(c / 65536)) ||| (c % 65536 ||| 65535):=by rw [h2,Nat.or_assoc]
  _=_:=by rw [h1,<- h3]; omega
def flushI:Nat->Cod->Cod
 | 0,s=>s
 | n+1,s=>flushS (flushI n s)
structure Fl (s:Cod) (k:Nat):Prop where
 c:s.c*2 ^ s.t<4294967296
 t:s.t<=12
 l:s.l<256
 n:s.bs.length<=900000000+k
theorem flushS_fl {s:Cod} {k:Nat} (h:Fl s k):Fl (flushS s) (k+1)/\(flushS s).bs.length=s.bs.length+1:=by
 have hm:∀ (s:Cod) (l c:Nat),l<256->c<4294967296->s.bs.length<=900000000+k->Fl (outTail s l c) (k+1)/\(outTail s l c).bs.length=s.bs.length+1:=fun s l c hl hc hn=>by
  unfold outTail
  split
  ·exact ⟨⟨by show c % 1048576*2 ^ 7<_; omega,by show 7<=12; omega,by show c / 1048576 % 256<256; omega,by simp; omega⟩,by simp⟩
  ·exact ⟨⟨by show c % 524288*2 ^ 8<_; omega,by show 8<=12; omega,by show c / 524288 % 256<256; omega,by simp; omega⟩,by simp⟩
 unfold flushS outM
 split
 ·rename_i h1
  have h1:s.l≠255/\_:=h1
  exact hm { s with c:=s.c*2 ^ s.t } _ _ (by show s.l+1<256; have:=h.l; omega) (by show s.c*2 ^ s.t % 134217728<_; have:=h.c; omega) h.n
 ·exact hm { s with c:=s.c*2 ^ s.t } _ _ h.l h.c h.n
theorem flush_ok {h:Heap} {p q r:Nat} {s:Cod} {rest:List Value} {F:List Nat} {h0:Heap} (H:Hp h0 F h (codL p q r s rest)) (hs:Wf s) (hd:s.done=false)
  {K:VK} {Kp:PK} (hk:∀ r' rest' o orest h',Hp h0 F h' (codL p q r' (flushM s) rest'++[⟨o,true,T_uint8,u8s (bytesM (flushM s))++orest⟩]) ->
   K (.tuple #[.slice (at0 o) (bytesM (flushM s)).length ((bytesM (flushM s)).length+orest.length), .int .i64 0]) h') :
  CP F_arith_Coder_Flush #[.pointer (at0 p)] h K Kp:=by
 refine call_arith_Coder_Flush ?_
 unfold arith_Coder_Flush
 have hca:=hs.ca
 have hcp:=pow_le hs.t1
 have hlen:=hs.len
 have hn:=hs.n
 have hcl:flushC s<2 ^ (28-s.t)+65536:=by
  unfold flushC
  simp only []
  split <;> omega
 have hfl:Fl { s with c:=flushC s,done:=true } 0:=by
  refine ⟨?_,hs.t12,hs.l,by show s.bs.length<=_; omega⟩
  show flushC s*2 ^ s.t<4294967296
  have h1:(2:Nat) ^ s.t<=2 ^ 12:=Nat.pow_le_pow_right (by omega) hs.t12
  have h2:flushC s*2 ^ s.t<(2 ^ (28-s.t)+65536)*2 ^ s.t:=Nat.mul_lt_mul_of_pos_right hcl (Nat.two_pow_pos _)
  have h3:2 ^ (28-s.t)*2 ^ s.t=2 ^ 28:=by rw [<- Nat.pow_add]; congr 1; have:=hs.t12; omega
  rw [Nat.add_mul,h3] at h2
  omega
 try simp only [ptr_some_eq,add_mk,Nat.zero_add,Nat.add_zero]
 refine ldB_of (H.cell 0 rfl (app_get hR 6 (congrArg (fun b=>some (Value.bool b)) hd))) ?_
 refine bcase_false (by rfl) ?_
 refine stV_hr H 0 rfl hR 6 (Nat.le_of_ble_eq_true rfl) rfl fun h hsz H=>?_
 refine ldI_of (H.cell 0 rfl (app_get hR 3 rfl)) ?_
 refine ldI_of (H.cell 0 rfl (app_get hR 2 rfl)) ?_
 refine bindI_of (((s.c+s.a:Nat):Int)) (by exact u32_at _ _ (by omega) (by omega)) ?_
 refine ⟨fun vs h'=>Hp h0 F h' (codL p q r { s with c:=flushC s,done:=true } rest),?_,?_⟩
 ·refine ldI_of (H.cell 0 rfl (app_get hR 3 rfl)) ?_
  refine bindI_of (((s.c / 65536*65536+65535:Nat):Int)) (by exact (or32 _ 65535 (by omega) (by omega)).trans (by rw [flushC_or])) ?_
  refine stV_hr H 0 rfl hR 3 (Nat.le_of_ble_eq_true rfl) rfl fun h hsz H=>?_
  refine ldI_of (H.cell 0 rfl (app_get hR 3 rfl)) ?_
  refine bcase_of (fun h1=>?_) fun h1=>?_
  ·have h1:s.c+s.a<=s.c / 65536*65536+65535:=by simp at h1; omega
   refine ldI_of (H.cell 0 rfl (app_get hR 3 rfl)) ?_
   refine bindI_of (((s.c / 65536*65536+65535-0x8000:Nat):Int)) (by exact u32_at _ _ (by omega) (by omega)) ?_
   refine stV_hr H 0 rfl hR 3 (Nat.le_of_ble_eq_true rfl) rfl fun h hsz H=>?_
   have e:flushC s=s.c / 65536*65536+65535-0x8000:=by unfold flushC; simp only []; rw [if_pos h1]
   rw [e]
   exact H
  ·have h1:¬ s.c+s.a<=s.c / 65536*65536+65535:=by simp at h1; omega
   have e:flushC s=s.c / 65536*65536+65535:=by unfold flushC; simp only []; rw [if_neg h1]
   rw [e]
   exact H
 ·intro h u H
  generalize hS:({ s with c:=flushC s,done:=true }:Cod)=S at H hfl
  have hfm:flushM s=flushI 2 S:=by rw [<- hS]; rfl
  rw [hfm] at hk
  refine ⟨fun n vs h'=>∃ r' rest',n<=2/\vs=[.int .i64 ((2-n:Nat):Int)]/\Hp h0 F h' (codL p q r' (flushI (2-n) S) rest')/\Fl (flushI (2-n) S) (2-n)/\(flushI (2-n) S).bs.length=S.bs.length+(2-n),⟨2,r,rest,Nat.le_refl _,rfl,H,by simpa [flushI] using hfl,rfl⟩,?_⟩
  clear H
  rintro n h u x ⟨r',rest',hn2,hx,H,hf,hbl⟩
  injection hx with hx
  injection hx with _ hx
  subst hx
  try simp only [ptr_some_eq,add_mk,Nat.zero_add,Nat.add_zero]
  refine bcase_of (fun h1=>?_) fun h1=>?_
  ·have h1:1<=n:=by simp at h1; omega
   obtain ⟨m,rfl⟩:∃ m,n=m+1:=⟨n-1,by omega⟩
   have hm1:2-m=(2-(m+1))+1:=by omega
   generalize 2-(m+1)=k at hm1 H hf hbl
   obtain ⟨hf2,hbl2⟩:=flushS_fl hf
   have hft:=hf.t
   have hfc:=hf.c
   have hfn:=hf.n
   have hc0:(flushI k S).c<4294967296:=Nat.lt_of_le_of_lt (Nat.le_mul_of_pos_right _ (Nat.two_pow_pos _)) hfc
   refine ldI_of (H.cell 0 rfl (app_get hR 3 rfl)) ?_
   refine ldI_of (H.cell 0 rfl (app_get hR 4 rfl)) ?_
   refine needs_of (by omega) ?_
   refine bindI_of ((((flushI k S).c*2 ^ (flushI k S).t:Nat):Int)) (by exact shl_of (by show (flushI k S).t<=32; omega) (u32_in _ hfc)) ?_
   refine stV_hr H 0 rfl hR 3 (Nat.le_of_ble_eq_true rfl) rfl fun h hsz H=>?_
   have H2:Hp h0 F _ (codL p q r' { flushI k S with c:=(flushI k S).c*2 ^ (flushI k S).t } rest'):=H
   refine out_ok H2 hf.l hfc (by show (flushI k S).bs.length<_; omega) fun r2 rest2 h2 H=>?_
   refine bindI_of (((k+1:Nat):Int)) (by exact i64_at _ _ (by omega) (by omega) (by omega)) ?_
   refine ⟨m,Nat.lt_succ_self m,r2,rest2,by omega,by rw [hm1],?_,?_,?_⟩
   ·rw [hm1]; exact H
   ·rw [hm1]; exact hf2
   ·rw [hm1]; show (flushS (flushI k S)).bs.length=_; omega
  ·have h1:n=0:=by simp at h1; omega
   subst h1
   have hbl:(flushI 2 S).bs.length=S.bs.length+2:=hbl
   have H:Hp h0 F h (codL p q r' (flushI 2 S) rest'):=H
   have hfn:(flushI 2 S).bs.length<=900000000+2:=hf.n
   generalize hE:flushI 2 S=E at H hbl hk
   have hEn:E.bs.length<900000005:=by rw [<- hE]; omega
   have hEl:E.l<256:=by rw [<- hE]; exact hf.l
   refine ldS_of (H.cell 0 rfl (app_get hR 5 rfl)) ?_
   refine needs_of (by omega) ?_
   have hsub:((E.bs.length+1-(1:Int).toNat:Nat):Int)=(E.bs.length:Nat):=by simp
   rw [hsub]
   refine bindI_of (((E.bs.length-1:Nat):Int)) (by exact i64_at _ _ (by omega) (by omega) (by omega)) ?_
   refine needs_of (by omega) ?_
   have e1:subA (some ⟨r',0,none⟩) (E.bs.length+1+rest'.length) (1:Int).toNat 1=some ⟨r',1,none⟩:=by
    unfold subA
    rw [if_neg (by simp; omega)]
    rfl
   rw [e1]
   try simp only [ptr_some_eq,add_mk,Nat.zero_add,Nat.add_zero]
   simp only [Int.toNat_natCast,Nat.mul_one]
   have e2:1+(E.bs.length-1)=E.bs.length:=by omega
   rw [e2]
   refine ldI_of (H.cell 2 rfl (last_get _ _ _)) ?_
   have hb:bytesM E=if E.l=255 then ((E.bs++[E.l]).drop 1).dropLast else (E.bs++[E.l]).drop 1:=rfl
   refine bcase_of (fun h1=>?_) fun h1=>?_
   ·have h1:E.l=255:=by simp at h1; omega
    rw [if_pos h1] at hb
    refine bindI_of (((E.bs.length-1:Nat):Int)) (by exact i64_at _ _ (by omega) (by omega) (by omega)) ?_
    refine needs_of (by simp; omega) ?_
    have e3:subA (some ⟨r',1,none⟩) (E.bs.length+1+rest'.length-(1:Int).toNat) 0 1=some ⟨r',1,none⟩:=by
     unfold subA
     split <;> rfl
    rw [e3]
    simp only [Int.toNat_natCast,Nat.sub_zero]
    have hlen:((u8s (E.bs++[E.l])++rest').drop 1).take ((E.bs.length-1)*1)=u8s (bytesM E):=by
     rw [hb,Nat.mul_one,List.drop_append_of_le_length (by rw [u8s_length]; simp),List.take_append_of_le_length (by rw [List.length_drop,u8s_length]; simp)]
     unfold u8s
     rw [<- List.map_drop,<- List.map_take,List.dropLast_eq_take]
     congr 2
     simp
    have hl2:(bytesM E).length=E.bs.length-1:=by rw [hb]; simp
    have hr:=rdO_hp H 2 (o:=1) (n:=(E.bs.length-1)*1) rfl (by simp [u8s_length]; omega)
    rw [hlen] at hr
    refine appC_new H hr (by rw [u8s_length,hl2]) (by omega) (by omega) fun o orest h' _ H=>?_
    have:=hk r' rest' o orest _ H
    rw [hl2] at this
    exact this
   ·have h1:¬ E.l=255:=by simp at h1; omega
    rw [if_neg h1] at hb
    have hlen:((u8s (E.bs++[E.l])++rest').drop 1).take (E.bs.length*1)=u8s (bytesM E):=by
     rw [hb,Nat.mul_one,List.drop_append_of_le_length (by rw [u8s_length]; simp),List.take_append_of_le_length (by rw [List.length_drop,u8s_length]; simp)]
     unfold u8s
     rw [<- List.map_drop,<- List.map_take,List.take_of_length_le (by simp)]
    have hl2:(bytesM E).length=E.bs.length:=by rw [hb]; simp
    have hr:=rdO_hp H 2 (o:=1) (n:=E.bs.length*1) rfl (by simp [u8s_length]; omega)
    rw [hlen] at hr
    have e4:E.bs.length+1-(1:Int).toNat=E.bs.length:=by simp
    rw [e4]
    refine appC_new H hr (by rw [u8s_length,hl2]) (by omega) (by omega) fun o orest h' _ H=>?_
    have:=hk r' rest' o orest _ H
    rw [hl2] at this
    exact this
end Go.Ar
namespace Go.Ar
open Go Go.Den Go.Den.YtfaclehehhgpcaaGreat
def BOk (e:Ent) (bp:Option Addr) (b:List Nat):Prop:=e.w=true/\(b=[]\/∃ rest,bp=some ⟨e.b,0,none⟩/\e.cs=u8s b++rest)
def drest (q nst n a c:Nat) (t:Int) (bp:Option Addr) (bl bc:Nat) (i:Nat):List Value :=
 [.slice (some ⟨q,0,none⟩) nst nst, .int .i64 (n:Nat), .int .u32 (a:Nat), .int .u32 (c:Nat), .int .i64 t, .slice bp bl bc, .int .i64 (i:Nat)]
def decE (p q:Nat) (bp:Option Addr) (bc:Nat) (s:Dec):Ent :=
 ⟨p,true,T_arith_Decoder,rowsV++drest q s.st.length s.n s.a s.c (s.t:Nat) bp s.b.length bc s.i⟩
def decL (p q:Nat) (e:Ent) (bp:Option Addr) (bc:Nat) (s:Dec):List Ent:=[decE p q bp bc s,⟨q,true,T_uint8,u8s s.st⟩,e]
theorem byte_ok {h:Heap} {p q:Nat} {e:Ent} {bp:Option Addr} {bc:Nat} {s:Dec} {F:List Nat} {h0:Heap} (H:Hp h0 F h (decL p q e bp bc s)) (hb:BOk e bp s.b) (hb8:∀ x∈s.b,x<256) {i:Nat}
  {K:VK} {Kp:PK} (hk:K (.int .u32 (byteD s i:Nat)) h):CP F_arith_Decoder_byte #[.pointer (at0 p), .int .i64 (i:Nat)] h K Kp:=by
 refine call_arith_Decoder_byte ?_
 unfold arith_Decoder_byte
 try simp only [ptr_some_eq,add_mk,Nat.zero_add,Nat.add_zero]
 refine ldS_of (H.cell 0 rfl (app_get hR 5 rfl)) ?_
 refine bcase_of (fun h1=>?_) fun h1=>?_
 ·have h1:i<s.b.length:=by simp at h1; omega
  obtain ⟨_,hb | ⟨rest,hbp,he⟩⟩:=hb
  ·rw [hb] at h1; simp at h1
  ·have hg:s.b[i]? = some (byteD s i):=by
    unfold byteD
    rw [List.getD_eq_getElem?_getD,List.getElem?_eq_getElem h1]; rfl
   have hlt:=byteD_lt hb8 (s:=s) i
   refine ldS_of (H.cell 0 rfl (app_get hR 5 rfl)) ?_
   refine needs_of (by omega) ?_
   rw [hbp]
   simp only [Int.toNat_natCast,Nat.mul_one]
   try simp only [ptr_some_eq,add_mk,Nat.zero_add,Nat.add_zero]
   refine ldI_of (H.cell 2 rfl (i:=i) (by rw [he]; exact get_app (u8s_get hg))) ?_
   refine bindI_of (((byteD s i:Nat):Int)) (by exact u32_in _ (by omega)) ?_
   exact hk
 ·have h1:s.b.length<=i:=by simp at h1; omega
  have hg:byteD s i=255:=by
   unfold byteD
   rw [List.getD_eq_getElem?_getD,List.getElem?_eq_none h1]; rfl
  rw [hg] at hk
  exact hk
theorem inD_eq (s:Dec):inD s =
 if byteD s s.i≠255 then { s with i:=s.i+1,c:=(s.c+byteD s (s.i+1)*256) % M32,t:=8 }
 else if byteD s (s.i+1) > 143 then { s with c:=(s.c+65280) % M32,t:=8 }
 else { s with i:=s.i+1,c:=(s.c+byteD s (s.i+1)*512) % M32,t:=7 }:=rfl
theorem in_ok {h:Heap} {p q:Nat} {e:Ent} {bp:Option Addr} {bc:Nat} {s:Dec} {F:List Nat} {h0:Heap} (H:Hp h0 F h (decL p q e bp bc s)) (hb:BOk e bp s.b) (hs:MidD s) (hbl:s.b.length<140737488351300)
  {K:VK} {Kp:PK} (hk:∀ h',Hp h0 F h' (decL p q e bp bc (inD s))->K (.tuple #[]) h'):CP F_arith_Decoder_in #[.pointer (at0 p)] h K Kp:=by
 refine call_arith_Decoder_in ?_
 unfold arith_Decoder_in
 have hi:=hs.i
 have hc:=hs.c
 have hM:M32=4294967296:=rfl
 have hb1:=byteD_lt hs.b (s:=s) (s.i+1)
 have hb0:=byteD_lt hs.b (s:=s) s.i
 try simp only [ptr_some_eq,add_mk,Nat.zero_add,Nat.add_zero]
 refine ldI_of (H.cell 0 rfl (app_get hR 6 rfl)) ?_
 refine byte_ok H hb hs.b ?_
 refine ⟨_,rfl,?_⟩
 rw [inD_eq] at hk
 refine bcase_of (fun h1=>?_) fun h1=>?_
 ·have h1:byteD s s.i≠255:=by simp at h1; omega
  rw [if_pos h1] at hk
  refine ldI_of (H.cell 0 rfl (app_get hR 6 rfl)) ?_
  refine bindI_of (((s.i+1:Nat):Int)) (by exact i64_at _ _ (by omega) (by omega) (by omega)) ?_
  refine stV_hr H 0 rfl hR 6 (Nat.le_of_ble_eq_true rfl) rfl fun h hsz H=>?_
  refine ldI_of (H.cell 0 rfl (app_get hR 3 rfl)) ?_
  refine ldI_of (H.cell 0 rfl (app_get hR 6 rfl)) ?_
  have H2:Hp h0 F h (decL p q e bp bc { s with i:=s.i+1 }):=H
  refine byte_ok H2 hb hs.b ?_
  refine ⟨_,rfl,hext.refl _,?_⟩
  have hb2:byteD { s with i:=s.i+1 } (s.i+1)=byteD s (s.i+1):=rfl
  rw [hb2]
  refine bindI_of (((byteD s (s.i+1)*256:Nat):Int)) (by exact shl_of (i:=8) (by decide) (u32_in _ (by omega))) ?_
  refine bindI_of ((((s.c+byteD s (s.i+1)*256) % M32:Nat):Int)) (by rw [IntKind.wrap_u32,hM]; omega) ?_
  refine stV_hr H 0 rfl hR 3 (Nat.le_of_ble_eq_true rfl) rfl fun h hsz H=>?_
  refine stV_hr H 0 rfl hR 4 (Nat.le_of_ble_eq_true rfl) rfl fun h hsz H=>?_
  exact hk _ H
 ·have h1:¬ byteD s s.i≠255:=by simp at h1; omega
  rw [if_neg h1] at hk
  refine ldI_of (H.cell 0 rfl (app_get hR 6 rfl)) ?_
  refine bindI_of (((s.i+1:Nat):Int)) (by exact i64_at _ _ (by omega) (by omega) (by omega)) ?_
  refine byte_ok H hb hs.b ?_
  refine ⟨_,rfl,?_⟩
  refine bcase_of (fun h2=>?_) fun h2=>?_
  ·have h2:byteD s (s.i+1) > 143:=by simp at h2; omega
   rw [if_pos h2] at hk
   refine ldI_of (H.cell 0 rfl (app_get hR 3 rfl)) ?_
   refine bindI_of ((((s.c+65280) % M32:Nat):Int)) (by rw [IntKind.wrap_u32,hM]; omega) ?_
   refine stV_hr H 0 rfl hR 3 (Nat.le_of_ble_eq_true rfl) rfl fun h hsz H=>?_
   refine stV_hr H 0 rfl hR 4 (Nat.le_of_ble_eq_true rfl) rfl fun h hsz H=>?_
   exact hk _ H
  ·have h2:¬ byteD s (s.i+1) > 143:=by simp at h2; omega
   rw [if_neg h2] at hk
   refine ldI_of (H.cell 0 rfl (app_get hR 6 rfl)) ?_
   refine bindI_of (((s.i+1:Nat):Int)) (by exact i64_at _ _ (by omega) (by omega) (by omega)) ?_
   refine stV_hr H 0 rfl hR 6 (Nat.le_of_ble_eq_true rfl) rfl fun h hsz H=>?_
   refine ldI_of (H.cell 0 rfl (app_get hR 3 rfl)) ?_
   refine ldI_of (H.cell 0 rfl (app_get hR 6 rfl)) ?_
   have H2:Hp h0 F h (decL p q e bp bc { s with i:=s.i+1 }):=H
   refine byte_ok H2 hb hs.b ?_
   refine ⟨_,rfl,hext.refl _,?_⟩
   have hb2:byteD { s with i:=s.i+1 } (s.i+1)=byteD s (s.i+1):=rfl
   rw [hb2]
   refine bindI_of (((byteD s (s.i+1)*512:Nat):Int)) (by exact shl_of (i:=9) (by decide) (u32_in _ (by omega))) ?_
   refine bindI_of ((((s.c+byteD s (s.i+1)*512) % M32:Nat):Int)) (by rw [IntKind.wrap_u32,hM]; omega) ?_
   refine stV_hr H 0 rfl hR 3 (Nat.le_of_ble_eq_true rfl) rfl fun h hsz H=>?_
   refine stV_hr H 0 rfl hR 4 (Nat.le_of_ble_eq_true rfl) rfl fun h hsz H=>?_
   exact hk _ H
theorem shiftD_eq (s:Dec):shiftD s = { (if s.t=0 then inD s else s) with a:=2*(if s.t=0 then inD s else s).a,c:=2*(if s.t=0 then inD s else s).c % M32,t:=(if s.t=0 then inD s else s).t-1 }:=rfl
theorem renewD_succ (n:Nat) (s:Dec):renewD (n+1) s=if 0x8000<=(shiftD s).a then shiftD s else renewD n (shiftD s):=rfl
theorem renewD_ok {h:Heap} {p q:Nat} {e:Ent} {bp:Option Addr} {bc:Nat} {s:Dec} {F:List Nat} {h0:Heap} (H:Hp h0 F h (decL p q e bp bc s)) (hb:BOk e bp s.b) (hs:MidD s) (hbl:s.b.length<140737488351300) (ha:1<=s.a) (ha':s.a<0x8000)
  {K:VK} {Kp:PK} (hk:∀ h',Hp h0 F h' (decL p q e bp bc (renewD 17 s))->K (.tuple #[]) h'):CP F_arith_Decoder_renew #[.pointer (at0 p)] h K Kp:=by
 refine call_arith_Decoder_renew ?_
 unfold arith_Decoder_renew
 refine ⟨fun n vs h'=>∃ s':Dec,Hp h0 F h' (decL p q e bp bc s')/\MidD s'/\s'.a<0x8000/\0x8000<=s'.a*2 ^ n/\renewD n s'=renewD 17 s/\s'.b=s.b,
  ⟨17,s,H,hs,ha',by have:(2:Nat) ^ 17=131072:=rfl; omega,rfl,rfl⟩,?_⟩
 clear H
 rintro n h u ⟨s',H,hm,hlt,hge,he,hbe⟩
 obtain ⟨n,rfl⟩:∃ m,n=m+1:=by
  cases n with
  | zero=>simp at hge; omega
  | succ m=>exact ⟨m,rfl⟩
 obtain ⟨g1,g2,g3,g4,g5⟩:=shiftD_mid hm
 have hnext:0x8000<=(shiftD s').a*2 ^ n:=by
  rw [g2]
  rw [Nat.pow_succ] at hge
  have:s'.a*(2 ^ n*2)=2*s'.a*2 ^ n:=by rw [Nat.mul_comm (2 ^ n) 2,<- Nat.mul_assoc,Nat.mul_comm s'.a 2]
  omega
 rw [renewD_succ] at he
 rw [<- hbe] at hb hbl
 refine ⟨fun vs h'=>Hp h0 F h' (decL p q e bp bc (if s'.t=0 then inD s' else s')),?_,?_⟩
 ·try simp only [ptr_some_eq,add_mk,Nat.zero_add,Nat.add_zero]
  refine ldI_of (H.cell 0 rfl (app_get hR 4 rfl)) ?_
  refine bcase_of (fun h1=>?_) fun h1=>?_
  ·have h1:s'.t=0:=by simp at h1; omega
   refine in_ok H hb hm hbl fun h' H=>?_
   rw [if_pos h1]
   exact H
  ·have h1:¬ s'.t=0:=by simp at h1; omega
   rw [if_neg h1]
   exact H
 ·intro h u H
  rw [shiftD_eq] at g1 g2 g5 hnext he
  have hS:MidD (if s'.t=0 then inD s' else s')/\(if s'.t=0 then inD s' else s').a=s'.a/\1<=(if s'.t=0 then inD s' else s').t:=by
   split
   ·obtain ⟨i1,i2,_,_,_,i6⟩:=inD_mid hm
    exact ⟨i1,i2,i6⟩
   ·exact ⟨hm,rfl,by omega⟩
  generalize (if s'.t=0 then inD s' else s')=S at H g1 g2 g5 hnext he hS
  obtain ⟨hS1,hS2,hS3⟩:=hS
  have hSc:=hS1.c
  have hSt:=hS1.t8
  have hM:M32=4294967296:=rfl
  try simp only [ptr_some_eq,add_mk,Nat.zero_add,Nat.add_zero]
  refine ldI_of (H.cell 0 rfl (app_get hR 2 rfl)) ?_
  refine bindI_of (((2*S.a:Nat):Int)) (by exact shl_of (i:=1) (by decide) ((u32_in _ (by omega)).trans (by omega))) ?_
  refine stV_hr H 0 rfl hR 2 (Nat.le_of_ble_eq_true rfl) rfl fun h hsz H=>?_
  refine ldI_of (H.cell 0 rfl (app_get hR 3 rfl)) ?_
  refine bindI_of (((2*S.c % M32:Nat):Int)) (by exact shl_of (i:=1) (by decide) (by rw [IntKind.wrap_u32,hM]; omega)) ?_
  refine stV_hr H 0 rfl hR 3 (Nat.le_of_ble_eq_true rfl) rfl fun h hsz H=>?_
  refine ldI_of (H.cell 0 rfl (app_get hR 4 rfl)) ?_
  refine bindI_of (((S.t-1:Nat):Int)) (by exact i64_at _ _ (by omega) (by omega) (by omega)) ?_
  refine stV_hr H 0 rfl hR 4 (Nat.le_of_ble_eq_true rfl) rfl fun h hsz H=>?_
  refine ldI_of (H.cell 0 rfl (app_get hR 2 rfl)) ?_
  have H2:Hp h0 F h (decL p q e bp bc { S with a:=2*S.a,c:=2*S.c % M32,t:=S.t-1 }):=H
  refine bcase_of (fun h3=>?_) fun h3=>?_
  ·have h3:0x8000<=2*S.a:=by simp at h3; omega
   rw [if_pos h3] at he
   exact hk _ (he ▸ H2)
  ·have h3:¬ 0x8000<=2*S.a:=by simp at h3; omega
   rw [if_neg h3] at he
   exact ⟨n,Nat.lt_succ_self n,_,H2,g1,by show 2*S.a<_; omega,hnext,he,g5.trans hbe⟩
theorem dec_eq (q n:Nat) (bp:Option Addr) (bl bc:Nat):putL (putL (putL Z_arith_Decoder 0 (tabV q n)) 190 ([.int .u32 32768]:List Value)) 193 ([.slice bp bl bc]:List Value)=rowsV++drest q n 0 0x8000 0 0 bp bl bc 0:=by kernel_rfl
def dec0 (b:List Nat) (n:Nat):Dec:={ a:=0x8000,c:=0,t:=0,n:=0,st:=List.replicate n 0,b:=b,i:=0 }
theorem appC_nil {h0 h:Heap} {F:List Nat} {L:List Ent} (H:Hp h0 F h L) {t:TypeId} {by_:Nat} {z:Value} {src:Option Addr} {new:List Value} (hr:rdO h src (0*1) new) {K:Option Addr->Nat->Nat->Heap->Prop} (hk:K none 0 0 h) :
  appC h t 1 by_ [z] none 0 0 src 0 K:=⟨new,hr,by rw [if_pos (Nat.le_refl _)]; exact hk⟩
theorem newDecoder_ok {hB:Heap} {n:Nat} (h1:1<=n) (h2:n<=131072) {b:List Nat} (hb:∀ x∈b,x<256) (hbl:b.length<140737488351300) {src:Option Addr} {bc0:Nat} (hr:rdO hB src (b.length*1) (u8s b)) {K:VK} {Kp:PK}
  (hk:∀ p q e bp bc h',BOk e bp b->Hp hB [] h' (decL p q e bp bc (newD b n))->K (.tuple #[.pointer (at0 p), .int .i64 0]) h'):CP F_arith_NewDecoder #[.slice src b.length bc0, .int .i64 (n:Nat)] hB K Kp:=by
 refine call_arith_NewDecoder ?_
 unfold arith_NewDecoder
 refine made_ok h1 h2 fun q h' H=>?_
 refine ⟨tabV q n,tab_length q n,true,rfl,?_⟩
 refine newC_hp H fun t h H=>?_
 refine needs_of (tab_length q n) ?_
 refine stVs_all H 1 rfl (tab_length q n) (tab_cells q n) fun h' hsz H=>?_
 refine bcase_false (by rfl) ?_
 refine ldAll_hp H 1 rfl (tab_length q n) ?_
 have goal:∀ (bp:Option Addr) (bc:Nat) (e:Ent) (h2:Heap),BOk e bp b->Hp hB [] h2 [⟨q,true,T_uint8,u8s (List.replicate n 0)⟩,e] ->
   needs ((tabV q n).length=190/\0+190<=(Z_arith_Decoder).length) (
   needs ((([.int .u32 32768]:List Value)).length=1/\190+1<=((putL Z_arith_Decoder 0 (tabV q n))).length) <|
   needs ((([.slice bp b.length bc]:List Value)).length=1/\193+1<=((putL (putL Z_arith_Decoder 0 (tabV q n)) 190 ([.int .u32 32768]:List Value))).length) <|
   Go.Den.newC h2 ((putL (putL (putL Z_arith_Decoder 0 (tabV q n)) 190 ([.int .u32 32768]:List Value)) 193 ([.slice bp b.length bc]:List Value))) T_arith_Decoder fun r_11 h_12 =>
   CP F_arith_Decoder_byte #[.pointer (some ⟨r_11,0,none⟩), .int .i64 0] h_12 (fun v_13 h_14 =>
   ∃ (r_15:Int),v_13 = .int .u32 r_15/\(
   bindI (shlI .u32 r_15 (16:Int)) fun z_16 =>
   stV h_14 ((⟨r_11,0,none⟩:Addr).add 191) (.int .u32 z_16) fun h_17 =>
   CP F_arith_Decoder_in #[.pointer (some ⟨r_11,0,none⟩)] h_17 (fun v_18 h_19 =>
   ldI h_19 ((⟨r_11,0,none⟩:Addr).add 191) .u32 fun x_20 =>
   bindI (shlI .u32 x_20 (7:Int)) fun z_21 =>
   stV h_19 ((⟨r_11,0,none⟩:Addr).add 191) (.int .u32 z_21) fun h_22 =>
   ldI h_22 ((⟨r_11,0,none⟩:Addr).add 192) .i64 fun x_23 =>
   bindI (IntKind.i64.wrap (x_23-(7:Int))) fun z_24 =>
   stV h_22 ((⟨r_11,0,none⟩:Addr).add 192) (.int .i64 z_24) fun h_25 =>
   K (.tuple #[.pointer (some ⟨r_11,0,none⟩), .int .i64 0]) h_25) (Kp))) (Kp)):=by
  intro bp bc e h2 hbo H
  refine needs_of ⟨tab_length q n,by decide⟩ ?_
  refine needs_of ⟨rfl,by simp only [putL_length]; decide⟩ ?_
  refine needs_of ⟨rfl,by simp only [putL_length]; decide⟩ ?_
  rw [dec_eq]
  refine newC_hp H fun p h H=>?_
  have H2:=H.pick [2,0,1] (by decide) (L':=decL p q e bp bc (dec0 b n)) (by simp [decL,decE,dec0])
  have H:=H2
  clear H2
  have hb0:=byteD_lt (s:=dec0 b n) hb 0
  refine byte_ok (i:=0) H hbo hb ?_
  refine ⟨_,rfl,?_⟩
  refine bindI_of (((byteD (dec0 b n) 0*65536:Nat):Int)) (by exact shl_of (i:=16) (by decide) (u32_in _ (by omega))) ?_
  try simp only [ptr_some_eq,add_mk,Nat.zero_add,Nat.add_zero]
  refine stV_hr H 0 rfl hR 3 (Nat.le_of_ble_eq_true rfl) rfl fun h hsz H=>?_
  have H2:Hp _ [] h (decL p q e bp bc { dec0 b n with c:=byteD (dec0 b n) 0*65536 }):=H
  have hm:MidD { dec0 b n with c:=byteD (dec0 b n) 0*65536 }:=⟨Nat.zero_le _,by show byteD (dec0 b n) 0*65536<4294967296; omega,hb,fun x hx=>by simp only [dec0,List.mem_replicate] at hx; omega,Nat.zero_le _⟩
  obtain ⟨i1,i2,i3,i4,i5,i6⟩:=inD_mid hm
  refine in_ok H2 hbo hm hbl fun h H=>?_
  have hn:newD b n = { inD { dec0 b n with c:=byteD (dec0 b n) 0*65536 } with c:=(inD { dec0 b n with c:=byteD (dec0 b n) 0*65536 }).c*128 % M32,t:=(inD { dec0 b n with c:=byteD (dec0 b n) 0*65536 }).t-7 }:=rfl
  have ht7:7<=(inD { dec0 b n with c:=byteD (dec0 b n) 0*65536 }).t:=by
   unfold inD
   split
   ·show 7<=8; omega
   ·split
    ·show 7<=8; omega
    ·show 7<=7; omega
  generalize inD { dec0 b n with c:=byteD (dec0 b n) 0*65536 }=S at H hn i1 ht7
  have hSc:=i1.c
  have hSt:=i1.t8
  have hM:M32=4294967296:=rfl
  refine ldI_of (H.cell 0 rfl (app_get hR 3 rfl)) ?_
  refine bindI_of (((S.c*128 % M32:Nat):Int)) (by exact shl_of (i:=7) (by decide) (by rw [IntKind.wrap_u32,hM]; omega)) ?_
  refine stV_hr H 0 rfl hR 3 (Nat.le_of_ble_eq_true rfl) rfl fun h hsz H=>?_
  refine ldI_of (H.cell 0 rfl (app_get hR 4 rfl)) ?_
  refine bindI_of (((S.t-7:Nat):Int)) (by exact i64_at _ _ (by omega) (by omega) (by omega)) ?_
  refine stV_hr H 0 rfl hR 4 (Nat.le_of_ble_eq_true rfl) rfl fun h hsz H=>?_
  refine hk p q e bp bc _ hbo ?_
  rw [hn]
  exact H
 have hr2:=H.rdO hr
 rcases Nat.eq_zero_or_pos b.length with hz | hpos
 ·have hbn:b=[]:=List.length_eq_zero_iff.1 hz
  rw [hz] at hr2 goal ⊢
  refine appC_nil H hr2 ⟨hext.refl _,?_⟩
  exact goal none 0 ⟨t,true,T_arith_table,tabV q n⟩ _ ⟨rfl, .inl hbn⟩ H
 ·refine appC_new H hr2 (u8s_length b) hpos (by omega) fun o rest h' he H'=>⟨he,?_⟩
  ·exact goal (some ⟨o,0,none⟩) _ ⟨o,true,T_uint8,u8s b++rest⟩ _ ⟨rfl, .inr ⟨rest,rfl,rfl⟩⟩ (H'.pick [0,2] (by decide) rfl)
theorem getD_at (s:Dec) (k x:Nat) (hx:s.st[k]? = some x):getD s k =
 if s.c / 65536<qOf (x / 2) then
  if s.a-qOf (x / 2)<qOf (x / 2) then (renewD 17 { s with a:=qOf (x / 2),n:=s.n+1,st:=s.st.set k (upM x) },x % 2)
  else (renewD 17 { s with a:=qOf (x / 2),n:=s.n+1,st:=s.st.set k (upL x) },1-x % 2)
 else
  if 0x8000<=s.a-qOf (x / 2) then ({ s with a:=s.a-qOf (x / 2),c:=s.c-qOf (x / 2)*65536,n:=s.n+1 },x % 2)
  else if s.a-qOf (x / 2)<qOf (x / 2) then (renewD 17 { s with a:=s.a-qOf (x / 2),c:=s.c-qOf (x / 2)*65536,n:=s.n+1,st:=s.st.set k (upL x) },1-x % 2)
  else (renewD 17 { s with a:=s.a-qOf (x / 2),c:=s.c-qOf (x / 2)*65536,n:=s.n+1,st:=s.st.set k (upM x) },x % 2):=by
 rw [<- getD_of hx]; rfl
theorem xor_one {y:Nat} (hy:y<2):y ^^^ 1=1-y:=by
 have:∀ y∈List.range 2,y ^^^ 1=1-y:=by decide
 exact this y (List.mem_range.2 hy)
theorem get_ok {h:Heap} {p q:Nat} {e:Ent} {bp:Option Addr} {bc:Nat} {s:Dec} {F:List Nat} {h0:Heap} (H:Hp h0 F h (decL p q e bp bc s)) (hb:BOk e bp s.b) (hs:WfD s) (hbl:s.b.length<140737488351300) (hn:s.n<16777216) (hl:1<=s.st.length) (hl2:s.st.length<=131072)
  {ctx:Int} {K:VK} {Kp:PK} (hk:∀ h',Hp h0 F h' (decL p q e bp bc (getD s (idx ctx s.st.length)).1)->K (.tuple #[.int .i64 ((getD s (idx ctx s.st.length)).2:Nat), .int .i64 0]) h') :
  CP F_arith_Decoder_Get #[.pointer (at0 p), .int .i64 ctx] h K Kp:=by
 refine call_arith_Decoder_Get ?_
 unfold arith_Decoder_Get
 try simp only [ptr_some_eq,add_mk,Nat.zero_add,Nat.add_zero]
 refine ldI_of (H.cell 0 rfl (app_get hR 1 rfl)) ?_
 refine bcase_false (by simp; omega) ?_
 refine ldI_of (H.cell 0 rfl (app_get hR 1 rfl)) ?_
 refine bindI_of (((s.n+1:Nat):Int)) (by exact i64_at _ _ (by omega) (by omega) (by omega)) ?_
 refine stV_hr H 0 rfl hR 1 (Nat.le_of_ble_eq_true rfl) rfl fun h hsz H=>?_
 refine at_ok H 0 1 rfl rfl hl hl2 hs.st fun h x hx hx94 H=>?_
 refine ⟨_,_,_,_,_,rfl,?_⟩
 refine newC_hp H fun w h H=>?_
 try simp only [ptr_some_eq,add_mk,Nat.zero_add,Nat.add_zero]
 refine stV_hp H 3 rfl (by first | exact Nat.le_of_ble_eq_true rfl | simp) rfl fun h hsz H=>?_
 refine stV_hp H 3 rfl (by first | exact Nat.le_of_ble_eq_true rfl | simp) rfl fun h hsz H=>?_
 refine stV_hp H 3 rfl (by first | exact Nat.le_of_ble_eq_true rfl | simp) rfl fun h hsz H=>?_
 refine stV_hp H 3 rfl (by first | exact Nat.le_of_ble_eq_true rfl | simp) rfl fun h hsz H=>?_
 refine ldI_of (H.cell 1 rfl (u8s_get hx)) ?_
 refine bindI_of (((x % 2:Nat):Int)) (by exact (and8 _ 1 (by omega) (by omega)).trans (by rw [Nat.and_one_is_mod])) ?_
 refine bindI_of (((x % 2:Nat):Int)) (by exact i64_in _ (by omega) (by omega)) ?_
 refine ldI_of (H.cell 0 rfl (app_get hR 2 rfl)) ?_
 refine ldI_of (H.cell 3 rfl rfl) ?_
 have hr:x / 2<47:=by omega
 have hq1:=qOf_pos hr
 have hq2:=qOf_le hr
 have hlo:=hs.lo
 have hhi:=hs.hi
 have hc:=hs.c
 have hM32:M32=4294967296:=rfl
 have hM:=set_lt hs.st (k:=idx ctx s.st.length) (upM_lt hx94)
 have hL:=set_lt hs.st (k:=idx ctx s.st.length) (upL_lt hx94)
 have hil:idx ctx s.st.length<s.st.length:=idx_lt ctx hl
 rw [getD_at s _ x hx] at hk
 generalize idx ctx s.st.length=k at hk hM hL hx hil H ⊢
 refine bindI_of (((s.a-qOf (x / 2):Nat):Int)) (by exact u32_at _ _ (by omega) (by omega)) ?_
 refine stV_hr H 0 rfl hR 2 (Nat.le_of_ble_eq_true rfl) rfl fun h hsz H=>?_
 refine ldI_of (H.cell 0 rfl (app_get hR 3 rfl)) ?_
 refine bindI_of (((s.c / 65536:Nat):Int)) (by exact shr_of (i:=16) (by decide)) ?_
 refine ldI_of (H.cell 3 rfl rfl) ?_
 have hcmp:decide (((s.c / 65536:Nat):Int)<((qOf (x / 2):Nat):Int))=decide (s.c / 65536<qOf (x / 2)):=by
  by_cases h1:s.c / 65536<qOf (x / 2)
  ·rw [decide_eq_true h1]; exact decide_eq_true (by omega)
  ·rw [decide_eq_false h1]; exact decide_eq_false (by omega)
 rw [hcmp]
 have H2:Hp h0 F h (decL p q e bp bc { s with a:=s.a-qOf (x / 2),n:=s.n+1 }++[⟨w,true,T_arith_row,[.int .u32 (qOf (x / 2):Nat), .int .u8 (mOf (x / 2):Nat), .int .u8 (lOf (x / 2):Nat), .int .u8 (cOf (x / 2):Nat)]⟩]):=H
 have H:=H2
 clear H2
 refine ⟨fun vs h'=>(s.c / 65536<qOf (x / 2)/\h'=h)\/(¬ s.c / 65536<qOf (x / 2)/\¬ 0x8000<=s.a-qOf (x / 2)/\Hp h0 F h' (decL p q e bp bc { s with a:=s.a-qOf (x / 2),c:=s.c-qOf (x / 2)*65536,n:=s.n+1 }++[⟨w,true,T_arith_row,[.int .u32 (qOf (x / 2):Nat), .int .u8 (mOf (x / 2):Nat), .int .u8 (lOf (x / 2):Nat), .int .u8 (cOf (x / 2):Nat)]⟩])),?_,?_⟩
 ·refine bcase_of (fun h1=>?_) fun h1=>?_
  ·have h1:¬ s.c / 65536<qOf (x / 2):=by simpa using h1
   refine ldI_of (H.cell 0 rfl (app_get hR 3 rfl)) ?_
   refine ldI_of (H.cell 3 rfl rfl) ?_
   refine bindI_of (((qOf (x / 2)*65536:Nat):Int)) (by exact shl_of (i:=16) (by decide) (u32_in _ (by omega))) ?_
   refine bindI_of (((s.c-qOf (x / 2)*65536:Nat):Int)) (by exact u32_at _ _ (by show (s.c:Int)-((qOf (x / 2)*65536:Nat):Int)=_; omega) (by omega)) ?_
   refine stV_hr H 0 rfl hR 3 (Nat.le_of_ble_eq_true rfl) rfl fun h hsz H=>?_
   refine ldI_of (H.cell 0 rfl (app_get hR 2 rfl)) ?_
   refine bcase_of (fun h2=>?_) fun h2=>?_
   ·have h2:0x8000<=s.a-qOf (x / 2):=by simp at h2; omega
    rw [if_neg h1,if_pos h2] at hk
    exact hk _ (H.take 3)
   ·have h2:¬ 0x8000<=s.a-qOf (x / 2):=by simp at h2; omega
    exact .inr ⟨h1,h2,H⟩
  ·have h1:s.c / 65536<qOf (x / 2):=by simpa using h1
   exact .inl ⟨h1,rfl⟩
 ·rintro h' u (⟨h1,rfl⟩ | ⟨h1,h2,H'⟩)
  ·rw [decide_eq_true h1]
   rw [if_pos h1] at hk
   refine ⟨fun vs h''=>(s.a-qOf (x / 2)<qOf (x / 2)/\vs=[.int .i64 ((x % 2:Nat):Int)]/\Hp h0 F h'' (decL p q e bp bc { s with a:=s.a-qOf (x / 2),n:=s.n+1,st:=s.st.set k (upM x) }++[⟨w,true,T_arith_row,[.int .u32 (qOf (x / 2):Nat), .int .u8 (mOf (x / 2):Nat), .int .u8 (lOf (x / 2):Nat), .int .u8 (cOf (x / 2):Nat)]⟩])) \/
    (¬ s.a-qOf (x / 2)<qOf (x / 2)/\vs=[.int .i64 ((1-x % 2:Nat):Int)]/\Hp h0 F h'' (decL p q e bp bc { s with a:=s.a-qOf (x / 2),n:=s.n+1,st:=s.st.set k (upL x) }++[⟨w,true,T_arith_row,[.int .u32 (qOf (x / 2):Nat), .int .u8 (mOf (x / 2):Nat), .int .u8 (lOf (x / 2):Nat), .int .u8 (cOf (x / 2):Nat)]⟩])),?_,?_⟩
   ·refine ldI_of (H.cell 0 rfl (app_get hR 2 rfl)) ?_
    refine ldI_of (H.cell 3 rfl rfl) ?_
    refine bcase_of (fun h3=>?_) fun h3=>?_
    ·have h3:s.a-qOf (x / 2)<qOf (x / 2):=by simp at h3; omega
     refine ldI_of (H.cell 3 rfl rfl) ?_
     refine ldI_of (H.cell 3 rfl rfl) ?_
     refine ldI_of (H.cell 3 rfl rfl) ?_
     refine ldI_of (H.cell 3 rfl rfl) ?_
     refine likely_ok H 1 rfl hx hx94 rfl fun h H=>?_
     exact .inl ⟨h3,rfl,H.as (by simp [decL,decE,drest])⟩
    ·have h3:¬ s.a-qOf (x / 2)<qOf (x / 2):=by simp at h3; omega
     refine bindI_of (((1-x % 2:Nat):Int)) (by exact (xor63 _ 1 (by omega) (by omega)).trans (by rw [xor_one (by omega)])) ?_
     refine ldI_of (H.cell 3 rfl rfl) ?_
     refine ldI_of (H.cell 3 rfl rfl) ?_
     refine ldI_of (H.cell 3 rfl rfl) ?_
     refine ldI_of (H.cell 3 rfl rfl) ?_
     refine unlikely_ok H 1 rfl hx hx94 rfl rfl fun h H=>?_
     exact .inr ⟨h3,rfl,H.as (by simp [decL,decE,drest])⟩
   ·rintro h'' u y (⟨h3,hy,H⟩ | ⟨h3,hy,H⟩)
    ·injection hy with hy
     injection hy with _ hy
     subst hy
     rw [if_pos h3] at hk
     refine bcase_true (by rfl) ?_
     refine ldI_of (H.cell 3 rfl rfl) ?_
     refine stV_hr H 0 rfl hR 2 (Nat.le_of_ble_eq_true rfl) rfl fun h hsz H=>?_
     exact renewD_ok (s:={ s with a:=qOf (x / 2),n:=s.n+1,st:=s.st.set k (upM x) }) (H.take 3) hb ⟨hs.t8,hc,hs.b,hM,hs.i⟩ hbl hq1 (by show qOf _<_; omega) hk
    ·injection hy with hy
     injection hy with _ hy
     subst hy
     rw [if_neg h3] at hk
     refine bcase_true (by rfl) ?_
     refine ldI_of (H.cell 3 rfl rfl) ?_
     refine stV_hr H 0 rfl hR 2 (Nat.le_of_ble_eq_true rfl) rfl fun h hsz H=>?_
     exact renewD_ok (s:={ s with a:=qOf (x / 2),n:=s.n+1,st:=s.st.set k (upL x) }) (H.take 3) hb ⟨hs.t8,hc,hs.b,hL,hs.i⟩ hbl hq1 (by show qOf _<_; omega) hk
  ·have H:=H'
   clear H'
   rw [decide_eq_false h1]
   rw [if_neg h1,if_neg h2] at hk
   have hc':s.c-qOf (x / 2)*65536<M32:=by omega
   refine ⟨fun vs h''=>(s.a-qOf (x / 2)<qOf (x / 2)/\vs=[.int .i64 ((1-x % 2:Nat):Int)]/\Hp h0 F h'' (decL p q e bp bc { s with a:=s.a-qOf (x / 2),c:=s.c-qOf (x / 2)*65536,n:=s.n+1,st:=s.st.set k (upL x) }++[⟨w,true,T_arith_row,[.int .u32 (qOf (x / 2):Nat), .int .u8 (mOf (x / 2):Nat), .int .u8 (lOf (x / 2):Nat), .int .u8 (cOf (x / 2):Nat)]⟩])) \/
    (¬ s.a-qOf (x / 2)<qOf (x / 2)/\vs=[.int .i64 ((x % 2:Nat):Int)]/\Hp h0 F h'' (decL p q e bp bc { s with a:=s.a-qOf (x / 2),c:=s.c-qOf (x / 2)*65536,n:=s.n+1,st:=s.st.set k (upM x) }++[⟨w,true,T_arith_row,[.int .u32 (qOf (x / 2):Nat), .int .u8 (mOf (x / 2):Nat), .int .u8 (lOf (x / 2):Nat), .int .u8 (cOf (x / 2):Nat)]⟩])),?_,?_⟩
   ·refine ldI_of (H.cell 0 rfl (app_get hR 2 rfl)) ?_
    refine ldI_of (H.cell 3 rfl rfl) ?_
    refine bcase_of (fun h3=>?_) fun h3=>?_
    ·have h3:¬ s.a-qOf (x / 2)<qOf (x / 2):=by simp at h3; omega
     refine ldI_of (H.cell 3 rfl rfl) ?_
     refine ldI_of (H.cell 3 rfl rfl) ?_
     refine ldI_of (H.cell 3 rfl rfl) ?_
     refine ldI_of (H.cell 3 rfl rfl) ?_
     refine likely_ok H 1 rfl hx hx94 rfl fun h H=>?_
     exact .inr ⟨h3,rfl,H.as (by simp [decL,decE,drest])⟩
    ·have h3:s.a-qOf (x / 2)<qOf (x / 2):=by simp at h3; omega
     refine bindI_of (((1-x % 2:Nat):Int)) (by exact (xor63 _ 1 (by omega) (by omega)).trans (by rw [xor_one (by omega)])) ?_
     refine ldI_of (H.cell 3 rfl rfl) ?_
     refine ldI_of (H.cell 3 rfl rfl) ?_
     refine ldI_of (H.cell 3 rfl rfl) ?_
     refine ldI_of (H.cell 3 rfl rfl) ?_
     refine unlikely_ok H 1 rfl hx hx94 rfl rfl fun h H=>?_
     exact .inl ⟨h3,rfl,H.as (by simp [decL,decE,drest])⟩
   ·rintro h'' u y (⟨h3,hy,H⟩ | ⟨h3,hy,H⟩)
    ·injection hy with hy
     injection hy with _ hy
     subst hy
     rw [if_pos h3] at hk
     refine bcase_false (by rfl) ?_
     exact renewD_ok (s:={ s with a:=s.a-qOf (x / 2),c:=s.c-qOf (x / 2)*65536,n:=s.n+1,st:=s.st.set k (upL x) }) (H.take 3) hb ⟨hs.t8,hc',hs.b,hL,hs.i⟩ hbl (by show 1<=s.a-_; omega) (by show s.a-_<_; omega) hk
    ·injection hy with hy
     injection hy with _ hy
     subst hy
     rw [if_neg h3] at hk
     refine bcase_false (by rfl) ?_
     exact renewD_ok (s:={ s with a:=s.a-qOf (x / 2),c:=s.c-qOf (x / 2)*65536,n:=s.n+1,st:=s.st.set k (upM x) }) (H.take 3) hb ⟨hs.t8,hc',hs.b,hM,hs.i⟩ hbl (by show 1<=s.a-_; omega) (by show s.a-_<_; omega) hk
end Go.Ar
namespace Go.Ar
def codN (k b:Nat->Nat) (m:Nat):Nat->Cod
 | 0=>newC m
 | n+1=>putM (codN k b m n) (k n) (b n)
def decN (k:Nat->Nat) (bytes:List Nat) (m:Nat):Nat->Dec
 | 0=>newD bytes m
 | n+1=>(getD (decN k bytes m n) (k n)).1
end Go.Ar
namespace Go.Den.YtfaclehehhgpcaaGreat
open Go Go.Den
def burinkit_Lend (C:CallP) (b:Option Addr) (bn:Nat) (bc:Nat) (h:Heap) (K:VK) (Kp:PK):Prop :=
bindI (IntKind.i64.wrap ((bn:Int)+(7:Int))) fun z_1 =>
needs (0<=(0:Int)/\(0:Int)<=z_1/\z_1<=9223372036854775807/\((1:Nat):Int)*z_1<=281474976710656) <|
newC h (repZ [.int .u8 0] z_1.toNat) T_uint8 fun r_2 h_3 =>
appC h_3 T_uint8 1 1 [.int .u8 0] (some ⟨r_2,0,none⟩) ((0:Int).toNat) (z_1.toNat) b (bn) fun q_4 q_4n q_4c h_5 =>
∃ J_6:Nat->List Value->Heap->Prop,(∃ n_8,J_6 n_8 [.slice q_4 q_4n q_4c, .int .i64 0] h_5)/\∀ (n_8:Nat) (h_9:Heap) (u_10:Nat->Value) (x_11:Option Addr) (x_11n:Nat) (x_11c:Nat) (i_12:Int),J_6 n_8 [.slice x_11 x_11n x_11c, .int .i64 i_12] h_9->(
bcase (decide (i_12<(7:Int))) (
newC h_9 [.int .u8 165] T_uint8 fun r_13 h_14 =>
appC h_14 T_uint8 1 1 [.int .u8 0] x_11 (x_11n) (x_11c) (some ⟨r_13,0,none⟩) (1) fun q_15 q_15n q_15c h_16 =>
bindI (IntKind.i64.wrap (i_12+(1:Int))) fun z_17 =>
∃ m_7,m_7<n_8/\J_6 m_7 [.slice q_15 q_15n q_15c, .int .i64 z_17] h_16) <|
needs (0<=(bn:Int)/\(bn:Int)<=((x_11c:Nat):Int)) <|
K (.slice (subA x_11 (x_11c) (0) 1) ((bn:Int).toNat-0) (x_11c-0)) h_9)
def burinkit_Back (C:CallP) (x:Option Addr) (xn:Nat) (xc:Nat) (b:Option Addr) (bn:Nat) (bc:Nat) (h:Heap) (K:VK) (Kp:PK):Prop :=
C F_burinref0_Eq #[.slice x xn xc, .slice b bn bc] h (fun v_1 h_2 =>
∃ (r_3:Bool),v_1 = .bool r_3/\(
bindI (IntKind.i64.wrap ((bn:Int)+(7:Int))) fun z_4 =>
needs (0<=z_4/\z_4<=((xc:Nat):Int)) <|
∃ J_5:Nat->List Value->Heap->Prop,(∃ n_7,J_5 n_7 [.bool r_3, .int .i64 (bn:Int)] h_2)/\∀ (n_7:Nat) (h_8:Heap) (u_9:Nat->Value) (ok_10:Bool) (i_11:Int),J_5 n_7 [.bool ok_10, .int .i64 i_11] h_8->(
bcase (decide (i_11<(((z_4.toNat-0):Nat):Int))) (
bcase ok_10 (
needs (0<=i_11/\i_11<(((z_4.toNat-0):Nat):Int)) <|
ptr (subA x (xc) (0) 1) fun a_12 =>
ldI h_8 (a_12.add (i_11.toNat*1)) .u8 fun x_13 =>
bindI (IntKind.i64.wrap (i_11+(1:Int))) fun z_14 =>
∃ m_6,m_6<n_7/\J_5 m_6 [.bool (x_13 == (165:Int)), .int .i64 z_14] h_8) <|
bindI (IntKind.i64.wrap (i_11+(1:Int))) fun z_15 =>
∃ m_6,m_6<n_7/\J_5 m_6 [.bool false, .int .i64 z_15] h_8) <|
∃ J_16:Nat->List Value->Heap->Prop,(∃ n_18,J_16 n_18 [.int .i64 0] h_8)/\∀ (n_18:Nat) (h_19:Heap) (u_20:Nat->Value) (i_21:Int),J_16 n_18 [.int .i64 i_21] h_19->(
bcase (decide (i_21<(((z_4.toNat-0):Nat):Int))) (
needs (0<=i_21/\i_21<(((z_4.toNat-0):Nat):Int)) <|
ptr (subA x (xc) (0) 1) fun a_22 =>
stV h_19 (a_22.add (i_21.toNat*1)) (.int .u8 90) fun h_23 =>
bindI (IntKind.i64.wrap (i_21+(1:Int))) fun z_24 =>
∃ m_17,m_17<n_18/\J_16 m_17 [.int .i64 z_24] h_23) <|
K (.bool ok_10) h_19)))) (Kp)
def burinkit_OverBitmaps (C:CallP) (a0:Option Addr) (a0n:Nat) (a0c:Nat) (h:Heap) (K:VK) (Kp:PK):Prop :=
∃ J_1:Nat->List Value->Heap->Prop,(∃ n_3,J_1 n_3 [.int .i64 0] h)/\∀ (n_3:Nat) (h_4:Heap) (u_5:Nat->Value) (x_6:Int),J_1 n_3 [.int .i64 x_6] h_4->(
bcase (decide (x_6<(a0n:Int))) (
∃ J_7:Nat->List Value->Heap->Prop,(∃ n_9,J_7 n_9 [.int .i64 0] h_4)/\∀ (n_9:Nat) (h_10:Heap) (u_11:Nat->Value) (x_12:Int),J_7 n_9 [.int .i64 x_12] h_10->(
needs (0<=x_6/\x_6<(a0n:Int)) <|
ptr a0 fun a_13 =>
ldS h_10 ((a_13.add (x_6.toNat*3)).add 2) fun x_14 x_14n x_14c =>
bcase (decide (x_12<(x_14n:Int))) (
needs (0<=x_6/\x_6<(a0n:Int)) <|
ptr a0 fun a_15 =>
ldS h_10 ((a_15.add (x_6.toNat*3)).add 2) fun x_16 x_16n x_16c =>
bindI (IntKind.i64.wrap ((1000:Int)+x_6)) fun z_17 =>
bindI (IntKind.u64.wrap z_17) fun z_18 =>
needs (0<=x_12/\x_12<(x_16n:Int)) <|
ptr x_16 fun a_19 =>
stV h_10 (a_19.add (x_12.toNat*1)) (.int .u64 z_18) fun h_20 =>
bindI (IntKind.i64.wrap (x_12+(1:Int))) fun z_21 =>
∃ m_8,m_8<n_9/\J_7 m_8 [.int .i64 z_21] h_20) <|
needs (0<=x_6/\x_6<(a0n:Int)) <|
ptr a0 fun a_22 =>
ldS h_10 ((a_22.add (x_6.toNat*3)).add 2) fun x_23 x_23n x_23c =>
newC h_10 [.int .u64 7] T_uint64 fun r_24 h_25 =>
appC h_25 T_uint64 1 8 [.int .u64 0] x_23 (x_23n) (x_23c) (some ⟨r_24,0,none⟩) (1) fun q_26 q_26n q_26c h_27 =>
needs (0<=x_6/\x_6<(a0n:Int)) <|
ptr a0 fun a_28 =>
ldS h_27 ((a_28.add (x_6.toNat*3)).add 2) fun x_29 x_29n x_29c =>
bindI (IntKind.i64.wrap ((1000:Int)+x_6)) fun z_30 =>
bindI (IntKind.u64.wrap z_30) fun z_31 =>
needs (0<=(x_29n:Int)/\(x_29n:Int)<(q_26n:Int)) <|
ptr q_26 fun a_32 =>
stV h_27 (a_32.add ((x_29n:Int).toNat*1)) (.int .u64 z_31) fun h_33 =>
bindI (IntKind.i64.wrap (x_6+(1:Int))) fun z_34 =>
∃ m_2,m_2<n_3/\J_1 m_2 [.int .i64 z_34] h_33)) <|
∃ J_35:Nat->List Value->Heap->Prop,(∃ n_37,J_35 n_37 [.int .i64 0] h_4)/\∀ (n_37:Nat) (h_38:Heap) (u_39:Nat->Value) (x_40:Int),J_35 n_37 [.int .i64 x_40] h_38->(
bcase (decide (x_40<(a0n:Int))) (
∃ J_41:Nat->List Value->Heap->Prop,(∃ n_43,J_41 n_43 [.int .i64 0] h_38)/\∀ (n_43:Nat) (h_44:Heap) (u_45:Nat->Value) (x_46:Int),J_41 n_43 [.int .i64 x_46] h_44->(
needs (0<=x_40/\x_40<(a0n:Int)) <|
ptr a0 fun a_47 =>
ldS h_44 ((a_47.add (x_40.toNat*3)).add 2) fun x_48 x_48n x_48c =>
bcase (decide (x_46<(x_48n:Int))) (
needs (0<=x_40/\x_40<(a0n:Int)) <|
ptr a0 fun a_49 =>
ldS h_44 ((a_49.add (x_40.toNat*3)).add 2) fun x_50 x_50n x_50c =>
needs (0<=x_46/\x_46<(x_50n:Int)) <|
ptr x_50 fun a_51 =>
ldI h_44 (a_51.add (x_46.toNat*1)) .u64 fun x_52 =>
bindI (IntKind.i64.wrap ((1000:Int)+x_40)) fun z_53 =>
bindI (IntKind.u64.wrap z_53) fun z_54 =>
bcase (x_52 != z_54) (
K (.bool false) h_44) <|
bindI (IntKind.i64.wrap (x_46+(1:Int))) fun z_55 =>
∃ m_42,m_42<n_43/\J_41 m_42 [.int .i64 z_55] h_44) <|
bindI (IntKind.i64.wrap (x_40+(1:Int))) fun z_56 =>
∃ m_36,m_36<n_37/\J_35 m_36 [.int .i64 z_56] h_44)) <|
K (.bool true) h_38))
end Go.Den.YtfaclehehhgpcaaGreat
namespace Go.Den.YtfaclehehhgpcaaGreat
open Go Go.Den
theorem call_burinkit_Lend {b:Option Addr} {bn:Nat} {bc:Nat} {h:Heap} {K:VK} {Kp:PK} (H:burinkit_Lend (CallsHP Go.Proofs.Tryz.prog) b bn bc h K Kp):CallsHP Go.Proofs.Tryz.prog F_burinkit_Lend #[.slice b bn bc] h K Kp :=
 callsHP_ofE (Hints.mk (fun i=>none) (fun i=>bif Nat.beq i 4 then some ([(3, .slc),(4, .int .i64)],520216) else (none)) (fun i=>none) []) (by kernel_rfl) Go.Proofs.Tryz.func21 (by kernel_rfl) (fun C=>burinkit_Lend C b bn bc h K Kp) (fun C=>by kernel_rfl) H
theorem call_burinkit_Back {x:Option Addr} {xn:Nat} {xc:Nat} {b:Option Addr} {bn:Nat} {bc:Nat} {h:Heap} {K:VK} {Kp:PK} (H:burinkit_Back (CallsHP Go.Proofs.Tryz.prog) x xn xc b bn bc h K Kp):CallsHP Go.Proofs.Tryz.prog F_burinkit_Back #[.slice x xn xc, .slice b bn bc] h K Kp :=
 callsHP_ofE (Hints.mk (fun i=>none) (fun i=>bif Nat.beq i 4 then some ([(5, .bool),(7, .int .i64)],8589410464) else (bif Nat.beq i 8 then some ([(8, .int .i64)],4389456576768) else (none))) (fun i=>none) []) (by kernel_rfl) Go.Proofs.Tryz.func24 (by kernel_rfl) (fun C=>burinkit_Back C x xn xc b bn bc h K Kp) (fun C=>by kernel_rfl) H
theorem call_burinkit_OverBitmaps {a0:Option Addr} {a0n:Nat} {a0c:Nat} {h:Heap} {K:VK} {Kp:PK} (H:burinkit_OverBitmaps (CallsHP Go.Proofs.Tryz.prog) a0 a0n a0c h K Kp):CallsHP Go.Proofs.Tryz.prog F_burinkit_OverBitmaps #[.slice a0 a0n a0c] h K Kp :=
 callsHP_ofE (Hints.mk (fun i=>none) (fun i=>bif Nat.beq i 2 then some ([(3, .int .i64)],4503599627370296) else (bif Nat.beq i 5 then some ([(4, .int .i64)],17179852816) else (bif Nat.beq i 11 then some ([(6, .int .i64)],1208925815111029547335876) else (bif Nat.beq i 14 then some ([(7, .int .i64)],1208925531384253022994564) else (none))))) (fun i=>none) []) (by kernel_rfl) Go.Proofs.Tryz.func38 (by kernel_rfl) (fun C=>burinkit_OverBitmaps C a0 a0n a0c h K Kp) (fun C=>by kernel_rfl) H
end Go.Den.YtfaclehehhgpcaaGreat
namespace Go.Ar
open Go Go.Den Go.Den.YtfaclehehhgpcaaGreat
structure CodOk (m n:Nat) (s:Cod):Prop where
 wf:Wf s
 n:s.n=n
 len:s.st.length=m
 done:s.done=false
theorem newC_ok (m:Nat):CodOk m 0 (newC m):=⟨newC_wf m,rfl,by simp [newC],rfl⟩
theorem putM_ok {m n:Nat} {s:Cod} (h:CodOk m n s) (k b:Nat) (hn:n<16777216):CodOk m (n+1) (putM s k b):=by
 obtain ⟨h1,h2,h3⟩:=putM_n s k b
 exact ⟨putM_wf h.wf k b (by rw [h.n]; exact hn),by rw [h1,h.n],by rw [h2,h.len],by rw [h3,h.done]⟩
theorem renewD_st:∀ (k:Nat) (s:Dec),(renewD k s).st=s.st/\(renewD k s).n=s.n/\(renewD k s).b=s.b:=by
 have hi:∀ s:Dec,(inD s).st=s.st/\(inD s).n=s.n/\(inD s).b=s.b:=fun s=>by
  unfold inD
  split
  ·exact ⟨rfl,rfl,rfl⟩
  ·split <;> exact ⟨rfl,rfl,rfl⟩
 have hs:∀ s:Dec,(shiftD s).st=s.st/\(shiftD s).n=s.n/\(shiftD s).b=s.b:=fun s=>by
  rw [shiftD_eq]
  split
  ·exact hi s
  ·exact ⟨rfl,rfl,rfl⟩
 intro k
 induction k with
 | zero=>intro s; exact ⟨rfl,rfl,rfl⟩
 | succ k ih =>
  intro s
  obtain ⟨h1,h2,h3⟩:=hs s
  rw [renewD_succ]
  split
  ·exact ⟨h1,h2,h3⟩
  ·obtain ⟨g1,g2,g3⟩:=ih (shiftD s)
   exact ⟨g1.trans h1,g2.trans h2,g3.trans h3⟩
theorem getD_n (s:Dec) (k:Nat):(getD s k).1.n=s.n+1/\(getD s k).1.st.length=s.st.length/\(getD s k).1.b=s.b:=by
 have hr:∀ S:Dec,S.n=s.n+1->S.st.length=s.st.length->S.b=s.b->(renewD 17 S).n=s.n+1/\(renewD 17 S).st.length=s.st.length/\(renewD 17 S).b=s.b:=fun S e1 e2 e3=>by
  obtain ⟨h1,h2,h3⟩:=renewD_st 17 S
  exact ⟨h2.trans e1,by rw [h1,e2],h3.trans e3⟩
 unfold getD
 simp only []
 split
 ·split
  ·exact hr _ rfl (List.length_set ..) rfl
  ·exact hr _ rfl (List.length_set ..) rfl
 ·split
  ·exact ⟨rfl,rfl,rfl⟩
  ·split
   ·exact hr _ rfl (List.length_set ..) rfl
   ·exact hr _ rfl (List.length_set ..) rfl
theorem getD_bit {s:Dec} (k:Nat):(getD s k).2<=1:=by
 have:s.st.getD k 0 % 2<2:=Nat.mod_lt _ (by omega)
 unfold getD
 simp only []
 split
 ·split
  ·show s.st.getD k 0 % 2<=1; omega
  ·show 1-s.st.getD k 0 % 2<=1; omega
 ·split
  ·show s.st.getD k 0 % 2<=1; omega
  ·split
   ·show 1-s.st.getD k 0 % 2<=1; omega
   ·show s.st.getD k 0 % 2<=1; omega
theorem newD_wf {b:List Nat} (hb:∀ x∈b,x<256) (n:Nat):WfD (newD b n)/\(newD b n).n=0/\(newD b n).st.length=n/\(newD b n).b=b:=by
 have hm:MidD { dec0 b n with c:=byteD (dec0 b n) 0*65536 }:=⟨Nat.zero_le _,by
  show byteD (dec0 b n) 0*65536<4294967296
  have:=byteD_lt (s:=dec0 b n) hb 0
  omega,hb,fun x hx=>by simp only [dec0,List.mem_replicate] at hx; omega,Nat.zero_le _⟩
 obtain ⟨i1,i2,i3,i4,i5,i6⟩:=inD_mid hm
 have hn:newD b n = { inD { dec0 b n with c:=byteD (dec0 b n) 0*65536 } with c:=(inD { dec0 b n with c:=byteD (dec0 b n) 0*65536 }).c*128 % M32,t:=(inD { dec0 b n with c:=byteD (dec0 b n) 0*65536 }).t-7 }:=rfl
 generalize inD { dec0 b n with c:=byteD (dec0 b n) 0*65536 }=S at hn i1 i2 i3 i4 i5
 rw [hn]
 have e2:S.a=0x8000:=i2
 have e3:S.n=0:=i3
 have e4:S.st=List.replicate n 0:=i4
 have e5:S.b=b:=i5
 refine ⟨⟨⟨by show S.t-7<=8; have:=i1.t8; omega,Nat.mod_lt _ (by decide),i1.b,i1.st,i1.i⟩,by show S.n<=_; omega,by show _<=S.a; omega,by show S.a<_; omega⟩,e3,?_,e5⟩
 show S.st.length=n
 rw [e4]
 simp
structure DecOk (bytes:List Nat) (m n:Nat) (s:Dec):Prop where
 wf:WfD s
 n:s.n=n
 len:s.st.length=m
 b:s.b=bytes
theorem newD_ok {b:List Nat} (hb:∀ x∈b,x<256) (m:Nat):DecOk b m 0 (newD b m):=by
 obtain ⟨h1,h2,h3,h4⟩:=newD_wf hb m
 exact ⟨h1,h2,h3,h4⟩
theorem getD_ok {b:List Nat} {m n:Nat} {s:Dec} (h:DecOk b m n s) (k:Nat) (hn:n<16777216):DecOk b m (n+1) (getD s k).1:=by
 obtain ⟨h1,h2,h3⟩:=getD_n s k
 exact ⟨getD_wf h.wf k (by rw [h.n]; exact hn),by rw [h1,h.n],by rw [h2,h.len],by rw [h3,h.b]⟩
theorem outM_lt {s:Cod} (hl:s.l<256) (hb:∀ x∈s.bs,x<256):(outM s).l<256/\∀ x∈(outM s).bs,x<256:=by
 have hm:∀ (l c:Nat),l<256->(outTail s l c).l<256/\∀ x∈(outTail s l c).bs,x<256:=fun l c h=>by
  have h2:∀ x∈s.bs++[l],x<256:=fun x hx=>by
   rcases List.mem_append.1 hx with h3 | h3
   ·exact hb x h3
   ·rw [List.mem_singleton.1 h3]; exact h
  unfold outTail
  split
  ·exact ⟨Nat.mod_lt _ (by omega),h2⟩
  ·exact ⟨Nat.mod_lt _ (by omega),h2⟩
 unfold outM
 split
 ·exact hm _ _ (by omega)
 ·exact hm _ _ hl
theorem flushM_lt {s:Cod} (h:Wf s):∀ x∈bytesM (flushM s),x<256:=by
 have h1:(flushS { s with c:=flushC s,done:=true }).l<256/\∀ x∈(flushS { s with c:=flushC s,done:=true }).bs,x<256:=outM_lt (s:={ s with c:=flushC s*2 ^ s.t,done:=true }) h.l h.bs
 have h2:(flushM s).l<256/\∀ x∈(flushM s).bs,x<256:=outM_lt (s:={ flushS { s with c:=flushC s,done:=true } with c:=(flushS { s with c:=flushC s,done:=true }).c*2 ^ (flushS { s with c:=flushC s,done:=true }).t }) h1.1 h1.2
 have h3:∀ x∈(flushM s).bs++[(flushM s).l],x<256:=fun x hx=>by
  rcases List.mem_append.1 hx with h4 | h4
  ·exact h2.2 x h4
  ·rw [List.mem_singleton.1 h4]; exact h2.1
 intro x hx
 unfold bytesM at hx
 simp only [] at hx
 split at hx
 ·exact h3 x (List.mem_of_mem_drop ((List.dropLast_sublist _).subset hx))
 ·exact h3 x (List.mem_of_mem_drop hx)
theorem flushM_len (s:Cod):(bytesM (flushM s)).length<=s.bs.length+3:=by
 have h1:(flushS { s with c:=flushC s,done:=true }).bs.length=s.bs.length+1:=(outM_same _).2.2.2.2
 have h2:(flushM s).bs.length=(flushS { s with c:=flushC s,done:=true }).bs.length+1:=(outM_same _).2.2.2.2
 unfold bytesM
 simp only []
 split
 ·simp; omega
 ·simp; omega
theorem rdO_cell {h:Heap} {a:Option Addr} {n:Nat} {cs:List Value} (hr:rdO h a n cs) {i:Nat} {v:Value} (hi:cs[i]? = some v):∃ ad,a=some ad/\hcell h (ad.add i)=some v:=by
 cases a with
 | none=>rw [show cs=[] from hr] at hi; simp at hi
 | some ad=>exact ⟨ad,rfl,hr.2 i v hi⟩
theorem eq_ok {h:Heap} {a b:Option Addr} {ac bc:Nat} {xs ys:List Nat} (ha:rdO h a (xs.length*1) (u8s xs)) (hb:rdO h b (ys.length*1) (u8s ys)) (hlen:xs.length<140737488351300)
  {K:VK} {Kp:PK} (hk:K (.bool (decide (xs=ys))) h):CP F_burinref0_Eq #[.slice a xs.length ac, .slice b ys.length bc] h K Kp:=by
 refine call_burinref0_Eq ?_
 unfold burinref0_Eq
 refine bcase_of (fun h1=>?_) fun h1=>?_
 ·have h1:xs.length≠ys.length:=by simp at h1; omega
  rw [decide_eq_false (fun e=>h1 (congrArg List.length e))] at hk
  exact hk
 ·have h1:xs.length=ys.length:=by simp at h1; omega
  refine ⟨fun n vs h'=>∃ i:Nat,h'=h/\vs=[.int .i64 (i:Int)]/\i+n=xs.length/\xs.take i=ys.take i,⟨xs.length,0,rfl,rfl,by omega,rfl⟩,?_⟩
  rintro n h' u x ⟨i,rfl,hx,hin,hti⟩
  injection hx with hx
  injection hx with _ hx
  subst hx
  refine bcase_of (fun h2=>?_) fun h2=>?_
  ·have h2:i<xs.length:=by simp at h2; omega
   have h3:i<ys.length:=by omega
   refine needs_of (by omega) ?_
   have hxi:xs[i]? = some xs[i]:=List.getElem?_eq_getElem h2
   have hyi:ys[i]? = some ys[i]:=List.getElem?_eq_getElem h3
   obtain ⟨aa,rfl,hca⟩:=rdO_cell ha (u8s_get hxi)
   obtain ⟨ba,rfl,hcb⟩:=rdO_cell hb (u8s_get hyi)
   simp only [ptr_some_eq,Int.toNat_natCast,Nat.mul_one]
   refine needs_of (by omega) ?_
   refine ldI_of hca (ldI_of hcb ?_)
   refine bcase_of (fun h4=>?_) fun h4=>?_
   ·have h4:xs[i]≠ys[i]:=by simp at h4; omega
    rw [decide_eq_false (fun e=>h4 (by subst e; rfl))] at hk
    exact hk
   ·have h4:xs[i]=ys[i]:=by simp at h4; omega
    refine bindI_of (((i+1:Nat):Int)) (by exact i64_at _ _ (by omega) (by omega) (by omega)) ?_
    refine ⟨n-1,by omega,i+1,by first | rfl | trivial,rfl,by omega,?_⟩
    rw [List.take_succ_eq_append_getElem h2,List.take_succ_eq_append_getElem h3,hti,h4]
  ·have h2:i=xs.length:=by simp at h2; omega
   subst h2
   have e:xs=ys:=by rwa [List.take_of_length_le (Nat.le_refl _),h1,List.take_of_length_le (Nat.le_refl _)] at hti
   rw [decide_eq_true e] at hk
   exact hk
end Go.Ar
namespace Go.Ar
open Go Go.Den Go.Den.YtfaclehehhgpcaaGreat
theorem row_rdO {h0 h:Heap} {F:List Nat} {L:List Ent} (H:Hp h0 F h L) (k:Nat) {b:Nat} {w:Bool} {t:TypeId} {xs:List Nat} {rest:List Value} (he:L[k]? = some ⟨b,w,t,u8s xs++rest⟩):rdO h (at0 b) (xs.length*1) (u8s xs):=by
 have h2:=rdO_hp H k (o:=0) (n:=xs.length*1) he (by rw [List.length_append,u8s_length]; omega)
 rw [List.drop_zero,List.take_append_of_le_length (by rw [u8s_length]; omega),List.take_of_length_le (by rw [u8s_length]; omega)] at h2
 exact h2
end Go.Ar
namespace Go.Ar
open Go Go.Den Go.Den.YtfaclehehhgpcaaGreat
theorem add_add' (a:Addr) (m n:Nat):(a.add m).add n=a.add (m+n):=by
 unfold Addr.add
 by_cases h1:m=0
 ·subst h1; simp
 ·by_cases h2:n=0
  ·subst h2; simp
  ·rw [if_neg h1,if_neg h2,if_neg (by omega)]
   simp [Nat.add_assoc]
end Go.Ar
namespace Go.Den.YtfaclehehhgpcaaGreat
open Go Go.Den
def burinref4_NewDecoder (C:CallP) (b:Option Addr) (bn:Nat) (bc:Nat) (contexts:Int) (h:Heap) (K:VK) (Kp:PK):Prop :=
C F_burinref4_begun #[.int .i64 contexts] h (fun v_1 h_2 =>
∃ (r_3:Option Addr) (r_3n:Nat) (r_3c:Nat) (r_4:Option Addr) (r_4n:Nat) (r_4c:Nat) (r_5:Option Addr) (r_5n:Nat) (r_5c:Nat) (r_6:Int),v_1 = .agg #[.slice r_3 r_3n r_3c, .slice r_4 r_4n r_4c, .slice r_5 r_5n r_5c, .int .i64 r_6]/\(
appC h_2 T_uint8 1 1 [.int .u8 0] none (0) (0) b (bn) fun q_7 q_7n q_7c h_8 =>
newC h_8 [.slice r_3 r_3n r_3c, .slice r_4 r_4n r_4c, .slice r_5 r_5n r_5c, .int .i64 r_6, .int .i64 32768, .int .i64 0, .int .i64 0, .slice q_7 q_7n q_7c, .int .i64 0] T_burinref4_Decoder fun r_9 h_10 =>
C F_burinref4_Decoder_byte #[.pointer (some ⟨r_9,0,none⟩), .int .i64 0] h_10 (fun v_11 h_12 =>
∃ (r_13:Int),v_11 = .int .i64 r_13/\(
bindI (shlI .i64 r_13 (16:Int)) fun z_14 =>
stV h_12 ((⟨r_9,0,none⟩:Addr).add 5) (.int .i64 z_14) fun h_15 =>
C F_burinref4_Decoder_in #[.pointer (some ⟨r_9,0,none⟩)] h_15 (fun v_16 h_17 =>
ldI h_17 ((⟨r_9,0,none⟩:Addr).add 5) .i64 fun x_18 =>
bindI (shlI .i64 x_18 (7:Int)) fun z_19 =>
bindI (bitI .and .i64 z_19 (4294967295:Int)) fun z_20 =>
stV h_17 ((⟨r_9,0,none⟩:Addr).add 5) (.int .i64 z_20) fun h_21 =>
ldI h_21 ((⟨r_9,0,none⟩:Addr).add 6) .i64 fun x_22 =>
bindI (IntKind.i64.wrap (x_22-(7:Int))) fun z_23 =>
stV h_21 ((⟨r_9,0,none⟩:Addr).add 6) (.int .i64 z_23) fun h_24 =>
K (.pointer (some ⟨r_9,0,none⟩)) h_24) (Kp))) (Kp))) (Kp)
def burinref4_begun (C:CallP) (contexts:Int) (h:Heap) (K:VK) (Kp:PK):Prop :=
newC h [.slice none 0 0, .slice none 0 0, .slice none 0 0, .int .i64 0] T_burinref4_side fun r_1 h_2 =>
(
C F_burinref4_table #[] h_2 (fun v_3 h_4 =>
∃ (r_5:Option Addr) (r_5n:Nat) (r_5c:Nat),v_3 = .slice r_5 r_5n r_5c/\(
hext h_2 h_4/\(
(
needs (0<=contexts/\contexts<=contexts/\contexts<=9223372036854775807/\((8:Nat):Int)*contexts<=281474976710656) <|
newC h_4 (repZ [.int .i64 0] contexts.toNat) T_int fun r_6 h_7 =>
needs (0<=contexts/\contexts<=contexts/\contexts<=9223372036854775807/\((8:Nat):Int)*contexts<=281474976710656) <|
newC h_7 (repZ [.int .i64 0] contexts.toNat) T_int fun r_8 h_9 =>
stV h_9 ((⟨r_1,0,none⟩:Addr).add 0) (.slice r_5 r_5n r_5c) fun h_10 =>
stV h_10 ((⟨r_1,0,none⟩:Addr).add 1) (.slice (some ⟨r_6,0,none⟩) contexts.toNat contexts.toNat) fun h_11 =>
stV h_11 ((⟨r_1,0,none⟩:Addr).add 2) (.slice (some ⟨r_8,0,none⟩) contexts.toNat contexts.toNat) fun h_12 =>
stV h_12 ((⟨r_1,0,none⟩:Addr).add 3) (.int .i64 0) fun h_13 =>
ldS h_13 ((⟨r_1,0,none⟩:Addr).add 0) fun r_14 r_14n r_14c =>
ldS h_13 ((⟨r_1,0,none⟩:Addr).add 1) fun r_15 r_15n r_15c =>
ldS h_13 ((⟨r_1,0,none⟩:Addr).add 2) fun r_16 r_16n r_16c =>
ldI h_13 ((⟨r_1,0,none⟩:Addr).add 3) .i64 fun r_17 =>
K (.agg #[.slice r_14 r_14n r_14c, .slice r_15 r_15n r_15c, .slice r_16 r_16n r_16c, .int .i64 r_17]) h_13)/\(
needs (0<=contexts/\contexts<=contexts/\contexts<=9223372036854775807/\((8:Nat):Int)*contexts<=281474976710656) <|
newC h_4 (repZ [.int .i64 0] contexts.toNat) T_int fun r_18 h_19 =>
needs (0<=contexts/\contexts<=contexts/\contexts<=9223372036854775807/\((8:Nat):Int)*contexts<=281474976710656) <|
newC h_19 (repZ [.int .i64 0] contexts.toNat) T_int fun r_20 h_21 =>
stV h_21 ((⟨r_1,0,none⟩:Addr).add 0) (.slice r_5 r_5n r_5c) fun h_22 =>
stV h_22 ((⟨r_1,0,none⟩:Addr).add 1) (.slice (some ⟨r_20,0,none⟩) contexts.toNat contexts.toNat) fun h_23 =>
stV h_23 ((⟨r_1,0,none⟩:Addr).add 2) (.slice (some ⟨r_18,0,none⟩) contexts.toNat contexts.toNat) fun h_24 =>
stV h_24 ((⟨r_1,0,none⟩:Addr).add 3) (.int .i64 0) fun h_25 =>
ldS h_25 ((⟨r_1,0,none⟩:Addr).add 0) fun r_26 r_26n r_26c =>
ldS h_25 ((⟨r_1,0,none⟩:Addr).add 1) fun r_27 r_27n r_27c =>
ldS h_25 ((⟨r_1,0,none⟩:Addr).add 2) fun r_28 r_28n r_28c =>
ldI h_25 ((⟨r_1,0,none⟩:Addr).add 3) .i64 fun r_29 =>
K (.agg #[.slice r_26 r_26n r_26c, .slice r_27 r_27n r_27c, .slice r_28 r_28n r_28c, .int .i64 r_29]) h_25)))) (Kp))/\(
(
needs (0<=contexts/\contexts<=contexts/\contexts<=9223372036854775807/\((8:Nat):Int)*contexts<=281474976710656) <|
newC h_2 (repZ [.int .i64 0] contexts.toNat) T_int fun r_30 h_31 =>
(
C F_burinref4_table #[] h_31 (fun v_32 h_33 =>
∃ (r_34:Option Addr) (r_34n:Nat) (r_34c:Nat),v_32 = .slice r_34 r_34n r_34c/\(
hext h_31 h_33/\(
needs (0<=contexts/\contexts<=contexts/\contexts<=9223372036854775807/\((8:Nat):Int)*contexts<=281474976710656) <|
newC h_33 (repZ [.int .i64 0] contexts.toNat) T_int fun r_35 h_36 =>
stV h_36 ((⟨r_1,0,none⟩:Addr).add 0) (.slice r_34 r_34n r_34c) fun h_37 =>
stV h_37 ((⟨r_1,0,none⟩:Addr).add 1) (.slice (some ⟨r_30,0,none⟩) contexts.toNat contexts.toNat) fun h_38 =>
stV h_38 ((⟨r_1,0,none⟩:Addr).add 2) (.slice (some ⟨r_35,0,none⟩) contexts.toNat contexts.toNat) fun h_39 =>
stV h_39 ((⟨r_1,0,none⟩:Addr).add 3) (.int .i64 0) fun h_40 =>
ldS h_40 ((⟨r_1,0,none⟩:Addr).add 0) fun r_41 r_41n r_41c =>
ldS h_40 ((⟨r_1,0,none⟩:Addr).add 1) fun r_42 r_42n r_42c =>
ldS h_40 ((⟨r_1,0,none⟩:Addr).add 2) fun r_43 r_43n r_43c =>
ldI h_40 ((⟨r_1,0,none⟩:Addr).add 3) .i64 fun r_44 =>
K (.agg #[.slice r_41 r_41n r_41c, .slice r_42 r_42n r_42c, .slice r_43 r_43n r_43c, .int .i64 r_44]) h_40))) (Kp))/\(
needs (0<=contexts/\contexts<=contexts/\contexts<=9223372036854775807/\((8:Nat):Int)*contexts<=281474976710656) <|
newC h_31 (repZ [.int .i64 0] contexts.toNat) T_int fun r_45 h_46 =>
C F_burinref4_table #[] h_46 (fun v_47 h_48 =>
∃ (r_49:Option Addr) (r_49n:Nat) (r_49c:Nat),v_47 = .slice r_49 r_49n r_49c/\(
hext h_46 h_48/\(
stV h_48 ((⟨r_1,0,none⟩:Addr).add 0) (.slice r_49 r_49n r_49c) fun h_50 =>
stV h_50 ((⟨r_1,0,none⟩:Addr).add 1) (.slice (some ⟨r_30,0,none⟩) contexts.toNat contexts.toNat) fun h_51 =>
stV h_51 ((⟨r_1,0,none⟩:Addr).add 2) (.slice (some ⟨r_45,0,none⟩) contexts.toNat contexts.toNat) fun h_52 =>
stV h_52 ((⟨r_1,0,none⟩:Addr).add 3) (.int .i64 0) fun h_53 =>
ldS h_53 ((⟨r_1,0,none⟩:Addr).add 0) fun r_54 r_54n r_54c =>
ldS h_53 ((⟨r_1,0,none⟩:Addr).add 1) fun r_55 r_55n r_55c =>
ldS h_53 ((⟨r_1,0,none⟩:Addr).add 2) fun r_56 r_56n r_56c =>
ldI h_53 ((⟨r_1,0,none⟩:Addr).add 3) .i64 fun r_57 =>
K (.agg #[.slice r_54 r_54n r_54c, .slice r_55 r_55n r_55c, .slice r_56 r_56n r_56c, .int .i64 r_57]) h_53))) (Kp)))/\(
needs (0<=contexts/\contexts<=contexts/\contexts<=9223372036854775807/\((8:Nat):Int)*contexts<=281474976710656) <|
newC h_2 (repZ [.int .i64 0] contexts.toNat) T_int fun r_58 h_59 =>
(
C F_burinref4_table #[] h_59 (fun v_60 h_61 =>
∃ (r_62:Option Addr) (r_62n:Nat) (r_62c:Nat),v_60 = .slice r_62 r_62n r_62c/\(
hext h_59 h_61/\(
needs (0<=contexts/\contexts<=contexts/\contexts<=9223372036854775807/\((8:Nat):Int)*contexts<=281474976710656) <|
newC h_61 (repZ [.int .i64 0] contexts.toNat) T_int fun r_63 h_64 =>
stV h_64 ((⟨r_1,0,none⟩:Addr).add 0) (.slice r_62 r_62n r_62c) fun h_65 =>
stV h_65 ((⟨r_1,0,none⟩:Addr).add 1) (.slice (some ⟨r_63,0,none⟩) contexts.toNat contexts.toNat) fun h_66 =>
stV h_66 ((⟨r_1,0,none⟩:Addr).add 2) (.slice (some ⟨r_58,0,none⟩) contexts.toNat contexts.toNat) fun h_67 =>
stV h_67 ((⟨r_1,0,none⟩:Addr).add 3) (.int .i64 0) fun h_68 =>
ldS h_68 ((⟨r_1,0,none⟩:Addr).add 0) fun r_69 r_69n r_69c =>
ldS h_68 ((⟨r_1,0,none⟩:Addr).add 1) fun r_70 r_70n r_70c =>
ldS h_68 ((⟨r_1,0,none⟩:Addr).add 2) fun r_71 r_71n r_71c =>
ldI h_68 ((⟨r_1,0,none⟩:Addr).add 3) .i64 fun r_72 =>
K (.agg #[.slice r_69 r_69n r_69c, .slice r_70 r_70n r_70c, .slice r_71 r_71n r_71c, .int .i64 r_72]) h_68))) (Kp))/\(
needs (0<=contexts/\contexts<=contexts/\contexts<=9223372036854775807/\((8:Nat):Int)*contexts<=281474976710656) <|
newC h_59 (repZ [.int .i64 0] contexts.toNat) T_int fun r_73 h_74 =>
C F_burinref4_table #[] h_74 (fun v_75 h_76 =>
∃ (r_77:Option Addr) (r_77n:Nat) (r_77c:Nat),v_75 = .slice r_77 r_77n r_77c/\(
hext h_74 h_76/\(
stV h_76 ((⟨r_1,0,none⟩:Addr).add 0) (.slice r_77 r_77n r_77c) fun h_78 =>
stV h_78 ((⟨r_1,0,none⟩:Addr).add 1) (.slice (some ⟨r_73,0,none⟩) contexts.toNat contexts.toNat) fun h_79 =>
stV h_79 ((⟨r_1,0,none⟩:Addr).add 2) (.slice (some ⟨r_58,0,none⟩) contexts.toNat contexts.toNat) fun h_80 =>
stV h_80 ((⟨r_1,0,none⟩:Addr).add 3) (.int .i64 0) fun h_81 =>
ldS h_81 ((⟨r_1,0,none⟩:Addr).add 0) fun r_82 r_82n r_82c =>
ldS h_81 ((⟨r_1,0,none⟩:Addr).add 1) fun r_83 r_83n r_83c =>
ldS h_81 ((⟨r_1,0,none⟩:Addr).add 2) fun r_84 r_84n r_84c =>
ldI h_81 ((⟨r_1,0,none⟩:Addr).add 3) .i64 fun r_85 =>
K (.agg #[.slice r_82 r_82n r_82c, .slice r_83 r_83n r_83c, .slice r_84 r_84n r_84c, .int .i64 r_85]) h_81))) (Kp))))
def burinref4_Decoder_byte (C:CallP) (d:Option Addr) (atv:Int) (h:Heap) (K:VK) (Kp:PK):Prop :=
ptr d fun a_1 =>
ldS h (a_1.add 7) fun x_2 x_2n x_2c =>
bcase (decide (atv<(x_2n:Int))) (
ptr d fun a_3 =>
ldS h (a_3.add 7) fun x_4 x_4n x_4c =>
needs (0<=atv/\atv<(x_4n:Int)) <|
ptr x_4 fun a_5 =>
ldI h (a_5.add (atv.toNat*1)) .u8 fun x_6 =>
bindI (IntKind.i64.wrap x_6) fun z_7 =>
K (.int .i64 z_7) h) <|
K (.int .i64 255) h
def burinref4_Decoder_in (C:CallP) (a0:Option Addr) (h:Heap) (K:VK) (Kp:PK):Prop :=
ptr a0 fun a_1 =>
ldI h (a_1.add 8) .i64 fun x_2 =>
C F_burinref4_Decoder_byte #[.pointer a0, .int .i64 x_2] h (fun v_3 h_4 =>
∃ (r_5:Int),v_3 = .int .i64 r_5/\(
bcase (r_5 == (255:Int)) (
ptr a0 fun a_6 =>
ldI h_4 (a_6.add 8) .i64 fun x_7 =>
bindI (IntKind.i64.wrap (x_7+(1:Int))) fun z_8 =>
C F_burinref4_Decoder_byte #[.pointer a0, .int .i64 z_8] h_4 (fun v_9 h_10 =>
∃ (r_11:Int),v_9 = .int .i64 r_11/\(
bcase (decide (r_11 > (143:Int))) (
ptr a0 fun a_12 =>
ldI h_10 (a_12.add 5) .i64 fun x_13 =>
bindI (IntKind.i64.wrap (x_13+(65280:Int))) fun z_14 =>
ptr a0 fun a_15 =>
stV h_10 (a_15.add 5) (.int .i64 z_14) fun h_16 =>
ptr a0 fun a_17 =>
stV h_16 (a_17.add 6) (.int .i64 8) fun h_18 =>
ptr a0 fun a_19 =>
ldI h_18 (a_19.add 5) .i64 fun x_20 =>
bindI (bitI .and .i64 x_20 (4294967295:Int)) fun z_21 =>
ptr a0 fun a_22 =>
stV h_18 (a_22.add 5) (.int .i64 z_21) fun h_23 =>
K (.tuple #[]) h_23) <|
ptr a0 fun a_24 =>
ldI h_10 (a_24.add 8) .i64 fun x_25 =>
bindI (IntKind.i64.wrap (x_25+(1:Int))) fun z_26 =>
ptr a0 fun a_27 =>
stV h_10 (a_27.add 8) (.int .i64 z_26) fun h_28 =>
ptr a0 fun a_29 =>
ldI h_28 (a_29.add 5) .i64 fun x_30 =>
bindI (shlI .i64 r_11 (9:Int)) fun z_31 =>
bindI (IntKind.i64.wrap (x_30+z_31)) fun z_32 =>
ptr a0 fun a_33 =>
stV h_28 (a_33.add 5) (.int .i64 z_32) fun h_34 =>
ptr a0 fun a_35 =>
stV h_34 (a_35.add 6) (.int .i64 7) fun h_36 =>
ptr a0 fun a_37 =>
ldI h_36 (a_37.add 5) .i64 fun x_38 =>
bindI (bitI .and .i64 x_38 (4294967295:Int)) fun z_39 =>
ptr a0 fun a_40 =>
stV h_36 (a_40.add 5) (.int .i64 z_39) fun h_41 =>
K (.tuple #[]) h_41)) (Kp)) <|
ptr a0 fun a_42 =>
ldI h_4 (a_42.add 8) .i64 fun x_43 =>
bindI (IntKind.i64.wrap (x_43+(1:Int))) fun z_44 =>
ptr a0 fun a_45 =>
stV h_4 (a_45.add 8) (.int .i64 z_44) fun h_46 =>
ptr a0 fun a_47 =>
ptr a0 fun a_48 =>
ldI h_46 (a_47.add 5) .i64 fun x_49 =>
ldI h_46 (a_48.add 8) .i64 fun x_50 =>
C F_burinref4_Decoder_byte #[.pointer a0, .int .i64 x_50] h_46 (fun v_51 h_52 =>
∃ (r_53:Int),v_51 = .int .i64 r_53/\(
hext h_46 h_52/\(
bindI (shlI .i64 r_53 (8:Int)) fun z_54 =>
bindI (IntKind.i64.wrap (x_49+z_54)) fun z_55 =>
ptr a0 fun a_56 =>
stV h_52 (a_56.add 5) (.int .i64 z_55) fun h_57 =>
ptr a0 fun a_58 =>
stV h_57 (a_58.add 6) (.int .i64 8) fun h_59 =>
ptr a0 fun a_60 =>
ldI h_59 (a_60.add 5) .i64 fun x_61 =>
bindI (bitI .and .i64 x_61 (4294967295:Int)) fun z_62 =>
ptr a0 fun a_63 =>
stV h_59 (a_63.add 5) (.int .i64 z_62) fun h_64 =>
K (.tuple #[]) h_64))) (Kp))) (Kp)
def burinref4_Decoder_Get (C:CallP) (a0:Option Addr) (a1:Int) (h:Heap) (K:VK) (Kp:PK):Prop :=
ptr a0 fun a_1 =>
ldI h ((a_1.add 0).add 3) .i64 fun x_2 =>
bcase (x_2 == (16777216:Int)) (
K (.tuple #[.int .i64 0, .int .i64 41]) h) <|
ptr a0 fun a_3 =>
ldI h ((a_3.add 0).add 3) .i64 fun x_4 =>
bindI (IntKind.i64.wrap (x_4+(1:Int))) fun z_5 =>
ptr a0 fun a_6 =>
stV h ((a_6.add 0).add 3) (.int .i64 z_5) fun h_7 =>
ptr a0 fun a_8 =>
C F_burinref4_side_Index #[.pointer (some (a_8.add 0)), .int .i64 a1] h_7 (fun v_9 h_10 =>
∃ (r_11:Int),v_9 = .int .i64 r_11/\(
ptr a0 fun a_12 =>
ptr a0 fun a_13 =>
ldS h_10 ((a_12.add 0).add 0) fun x_14 x_14n x_14c =>
ldS h_10 ((a_13.add 0).add 1) fun x_15 x_15n x_15c =>
needs (0<=r_11/\r_11<(x_15n:Int)) <|
ptr x_15 fun a_16 =>
ldI h_10 (a_16.add (r_11.toNat*1)) .i64 fun x_17 =>
needs (0<=x_17/\x_17<(x_14n:Int)) <|
ptr x_14 fun a_18 =>
ldI h_10 ((a_18.add (x_17.toNat*4)).add 0) .i64 fun x_19 =>
ptr a0 fun a_20 =>
ldS h_10 ((a_20.add 0).add 2) fun x_21 x_21n x_21c =>
needs (0<=r_11/\r_11<(x_21n:Int)) <|
ptr x_21 fun a_22 =>
ldI h_10 (a_22.add (r_11.toNat*1)) .i64 fun x_23 =>
ptr a0 fun a_24 =>
ldI h_10 (a_24.add 4) .i64 fun x_25 =>
bindI (IntKind.i64.wrap (x_25-x_19)) fun z_26 =>
ptr a0 fun a_27 =>
stV h_10 (a_27.add 4) (.int .i64 z_26) fun h_28 =>
ptr a0 fun a_29 =>
ldI h_28 (a_29.add 5) .i64 fun x_30 =>
bindI (shrI .i64 x_30 (16:Int)) fun z_31 =>
bcase (decide (z_31<x_19)) (
∃ K_32:List Value->Heap->Prop,(
ptr a0 fun a_35 =>
ldI h_28 (a_35.add 4) .i64 fun x_36 =>
bcase (decide (x_36<x_19)) (
ptr a0 fun a_37 =>
C F_burinref4_side_likely #[.pointer (some (a_37.add 0)), .int .i64 r_11] h_28 (fun v_38 h_39 =>
K_32 [.int .i64 x_23] h_39) (Kp)) <|
bindI (IntKind.i64.wrap ((1:Int)-x_23)) fun z_40 =>
ptr a0 fun a_41 =>
C F_burinref4_side_other #[.pointer (some (a_41.add 0)), .int .i64 r_11] h_28 (fun v_42 h_43 =>
K_32 [.int .i64 z_40] h_43) (Kp))/\∀ (h_33:Heap) (u_34:Nat->Value) (x_44:Int),K_32 [.int .i64 x_44] h_33->(
ptr a0 fun a_45 =>
stV h_33 (a_45.add 4) (.int .i64 x_19) fun h_46 =>
C F_burinref4_Decoder_renew #[.pointer a0] h_46 (fun v_47 h_48 =>
K (.tuple #[.int .i64 x_44, .int .i64 0]) h_48) (Kp))) <|
ptr a0 fun a_49 =>
ldI h_28 (a_49.add 5) .i64 fun x_50 =>
bindI (shlI .i64 x_19 (16:Int)) fun z_51 =>
bindI (IntKind.i64.wrap (x_50-z_51)) fun z_52 =>
ptr a0 fun a_53 =>
stV h_28 (a_53.add 5) (.int .i64 z_52) fun h_54 =>
ptr a0 fun a_55 =>
ldI h_54 (a_55.add 4) .i64 fun x_56 =>
bcase (decide (x_56≥(32768:Int))) (
K (.tuple #[.int .i64 x_23, .int .i64 0]) h_54) <|
ptr a0 fun a_57 =>
ldI h_54 (a_57.add 4) .i64 fun x_58 =>
bcase (decide (x_58<x_19)) (
bindI (IntKind.i64.wrap ((1:Int)-x_23)) fun z_59 =>
ptr a0 fun a_60 =>
C F_burinref4_side_other #[.pointer (some (a_60.add 0)), .int .i64 r_11] h_54 (fun v_61 h_62 =>
C F_burinref4_Decoder_renew #[.pointer a0] h_62 (fun v_63 h_64 =>
K (.tuple #[.int .i64 z_59, .int .i64 0]) h_64) (Kp)) (Kp)) <|
ptr a0 fun a_65 =>
C F_burinref4_side_likely #[.pointer (some (a_65.add 0)), .int .i64 r_11] h_54 (fun v_66 h_67 =>
C F_burinref4_Decoder_renew #[.pointer a0] h_67 (fun v_68 h_69 =>
K (.tuple #[.int .i64 x_23, .int .i64 0]) h_69) (Kp)) (Kp))) (Kp)
def burinref4_table (C:CallP)  (h:Heap) (K:VK) (Kp:PK):Prop :=
∃ J_1:Nat->List Value->Heap->Prop,(∃ n_3,J_1 n_3 [.slice none 0 0, .int .i64 0] h)/\∀ (n_3:Nat) (h_4:Heap) (u_5:Nat->Value) (t_6:Option Addr) (t_6n:Nat) (t_6c:Nat) (i_7:Int),J_1 n_3 [.slice t_6 t_6n t_6c, .int .i64 i_7] h_4->(
bcase (decide (i_7<(47:Int))) (
C F_burinref4_row #[.int .i64 i_7] h_4 (fun v_8 h_9 =>
∃ (r_10:Int) (r_11:Int) (r_12:Int) (r_13:Bool),v_8 = .agg #[.int .i64 r_10, .int .i64 r_11, .int .i64 r_12, .bool r_13]/\(
newC h_9 [.int .i64 r_10, .int .i64 r_11, .int .i64 r_12, .bool r_13] T_burinref4_Row fun r_14 h_15 =>
appC h_15 T_burinref4_Row 4 32 [.int .i64 0, .int .i64 0, .int .i64 0, .bool false] t_6 (t_6n) (t_6c) (some ⟨r_14,0,none⟩) (1) fun q_16 q_16n q_16c h_17 =>
bindI (IntKind.i64.wrap (i_7+(1:Int))) fun z_18 =>
∃ m_2,m_2<n_3/\J_1 m_2 [.slice q_16 q_16n q_16c, .int .i64 z_18] h_17)) (Kp)) <|
K (.slice t_6 t_6n t_6c) h_4)
def burinref4_side_Index (C:CallP) (s:Option Addr) (context:Int) (h:Heap) (K:VK) (Kp:PK):Prop :=
ptr s fun a_1 =>
ldS h (a_1.add 1) fun x_2 x_2n x_2c =>
needs (IntKind.i64=IntKind.i64/\(x_2n:Int)≠0) <|
bindI (context.tmod (x_2n:Int)) fun z_3 =>
bcase (decide (z_3<(0:Int))) (
ptr s fun a_4 =>
ldS h (a_4.add 1) fun x_5 x_5n x_5c =>
bindI (IntKind.i64.wrap (z_3+(x_5n:Int))) fun z_6 =>
K (.int .i64 z_6) h) <|
K (.int .i64 z_3) h
def burinref4_side_likely (C:CallP) (s:Option Addr) (k:Int) (h:Heap) (K:VK) (Kp:PK):Prop :=
ptr s fun a_1 =>
ptr s fun a_2 =>
ptr s fun a_3 =>
ldS h (a_1.add 1) fun x_4 x_4n x_4c =>
ldS h (a_2.add 0) fun x_5 x_5n x_5c =>
ldS h (a_3.add 1) fun x_6 x_6n x_6c =>
needs (0<=k/\k<(x_6n:Int)) <|
ptr x_6 fun a_7 =>
ldI h (a_7.add (k.toNat*1)) .i64 fun x_8 =>
needs (0<=x_8/\x_8<(x_5n:Int)) <|
ptr x_5 fun a_9 =>
ldI h ((a_9.add (x_8.toNat*4)).add 1) .i64 fun x_10 =>
needs (0<=k/\k<(x_4n:Int)) <|
ptr x_4 fun a_11 =>
stV h (a_11.add (k.toNat*1)) (.int .i64 x_10) fun h_12 =>
K (.tuple #[]) h_12
def burinref4_side_other (C:CallP) (s:Option Addr) (k:Int) (h:Heap) (K:VK) (Kp:PK):Prop :=
ptr s fun a_1 =>
ptr s fun a_2 =>
ldS h (a_1.add 0) fun x_3 x_3n x_3c =>
ldS h (a_2.add 1) fun x_4 x_4n x_4c =>
needs (0<=k/\k<(x_4n:Int)) <|
ptr x_4 fun a_5 =>
ldI h (a_5.add (k.toNat*1)) .i64 fun x_6 =>
needs (0<=x_6/\x_6<(x_3n:Int)) <|
ptr x_3 fun a_7 =>
ldI h ((a_7.add (x_6.toNat*4)).add 0) .i64 fun x_8 =>
ldI h ((a_7.add (x_6.toNat*4)).add 1) .i64 fun x_9 =>
ldI h ((a_7.add (x_6.toNat*4)).add 2) .i64 fun x_10 =>
ldB h ((a_7.add (x_6.toNat*4)).add 3) fun x_11 =>
newC h [.int .i64 0, .int .i64 0, .int .i64 0, .bool false] T_burinref4_Row fun r_12 h_13 =>
stV h_13 ((⟨r_12,0,none⟩:Addr).add 0) (.int .i64 x_8) fun h_14 =>
stV h_14 ((⟨r_12,0,none⟩:Addr).add 1) (.int .i64 x_9) fun h_15 =>
stV h_15 ((⟨r_12,0,none⟩:Addr).add 2) (.int .i64 x_10) fun h_16 =>
stV h_16 ((⟨r_12,0,none⟩:Addr).add 3) (.bool x_11) fun h_17 =>
ldB h_17 ((⟨r_12,0,none⟩:Addr).add 3) fun x_18 =>
bcase x_18 (
ptr s fun a_19 =>
ptr s fun a_20 =>
ldS h_17 (a_19.add 2) fun x_21 x_21n x_21c =>
ldS h_17 (a_20.add 2) fun x_22 x_22n x_22c =>
needs (0<=k/\k<(x_22n:Int)) <|
ptr x_22 fun a_23 =>
ldI h_17 (a_23.add (k.toNat*1)) .i64 fun x_24 =>
bindI (IntKind.i64.wrap ((1:Int)-x_24)) fun z_25 =>
needs (0<=k/\k<(x_21n:Int)) <|
ptr x_21 fun a_26 =>
stV h_17 (a_26.add (k.toNat*1)) (.int .i64 z_25) fun h_27 =>
ptr s fun a_28 =>
ldS h_27 (a_28.add 1) fun x_29 x_29n x_29c =>
ldI h_27 ((⟨r_12,0,none⟩:Addr).add 2) .i64 fun x_30 =>
needs (0<=k/\k<(x_29n:Int)) <|
ptr x_29 fun a_31 =>
stV h_27 (a_31.add (k.toNat*1)) (.int .i64 x_30) fun h_32 =>
K (.tuple #[]) h_32) <|
ptr s fun a_33 =>
ldS h_17 (a_33.add 1) fun x_34 x_34n x_34c =>
ldI h_17 ((⟨r_12,0,none⟩:Addr).add 2) .i64 fun x_35 =>
needs (0<=k/\k<(x_34n:Int)) <|
ptr x_34 fun a_36 =>
stV h_17 (a_36.add (k.toNat*1)) (.int .i64 x_35) fun h_37 =>
K (.tuple #[]) h_37
def burinref4_Decoder_renew (C:CallP) (d:Option Addr) (h:Heap) (K:VK) (Kp:PK):Prop :=
∃ J_1:Nat->List Value->Heap->Prop,(∃ n_3,J_1 n_3 [.bool true] h)/\∀ (n_3:Nat) (h_4:Heap) (u_5:Nat->Value) (first_6:Bool),J_1 n_3 [.bool first_6] h_4->(
∃ K_7:List Value->Heap->Prop,(
bcase first_6 (
K_7 [] h_4) <|
ptr d fun a_10 =>
ldI h_4 (a_10.add 4) .i64 fun x_11 =>
bcase (decide (x_11<(32768:Int))) (
K_7 [] h_4) <|
K (.tuple #[]) h_4)/\∀ (h_8:Heap) (u_9:Nat->Value) ,K_7 [] h_8->(
∃ K_12:List Value->Heap->Prop,(
ptr d fun a_15 =>
ldI h_8 (a_15.add 6) .i64 fun x_16 =>
bcase (x_16 == (0:Int)) (
C F_burinref4_Decoder_in #[.pointer d] h_8 (fun v_17 h_18 =>
K_12 [] h_18) (Kp)) <|
K_12 [] h_8)/\∀ (h_13:Heap) (u_14:Nat->Value) ,K_12 [] h_13->(
ptr d fun a_19 =>
ldI h_13 (a_19.add 4) .i64 fun x_20 =>
bindI (IntKind.i64.wrap ((2:Int)*x_20)) fun z_21 =>
ptr d fun a_22 =>
stV h_13 (a_22.add 4) (.int .i64 z_21) fun h_23 =>
ptr d fun a_24 =>
ldI h_23 (a_24.add 5) .i64 fun x_25 =>
bindI (IntKind.i64.wrap ((2:Int)*x_25)) fun z_26 =>
bindI (bitI .and .i64 z_26 (4294967295:Int)) fun z_27 =>
ptr d fun a_28 =>
stV h_23 (a_28.add 5) (.int .i64 z_27) fun h_29 =>
ptr d fun a_30 =>
ldI h_29 (a_30.add 6) .i64 fun x_31 =>
bindI (IntKind.i64.wrap (x_31-(1:Int))) fun z_32 =>
ptr d fun a_33 =>
stV h_29 (a_33.add 6) (.int .i64 z_32) fun h_34 =>
∃ m_2,m_2<n_3/\J_1 m_2 [.bool false] h_34)))
def burinref4_row (C:CallP) (n:Int) (h:Heap) (K:VK) (Kp:PK):Prop :=
newC h [.int .i64 0, .int .i64 0, .int .i64 0, .bool false] T_burinref4_Row fun r_1 h_2 =>
newC h_2 [.int .i64 22017, .int .i64 13313, .int .i64 6145, .int .i64 2753, .int .i64 1313, .int .i64 545, .int .i64 22017, .int .i64 21505, .int .i64 18433, .int .i64 14337, .int .i64 12289, .int .i64 9217, .int .i64 7169, .int .i64 5633, .int .i64 22017, .int .i64 21505, .int .i64 20737, .int .i64 18433, .int .i64 14337, .int .i64 13313, .int .i64 12289, .int .i64 10241, .int .i64 9217, .int .i64 8705, .int .i64 7169, .int .i64 6145, .int .i64 5633, .int .i64 5121, .int .i64 4609, .int .i64 4353, .int .i64 2753, .int .i64 2497, .int .i64 2209, .int .i64 1313, .int .i64 1089, .int .i64 673, .int .i64 545, .int .i64 321, .int .i64 273, .int .i64 133, .int .i64 73, .int .i64 37, .int .i64 21, .int .i64 9, .int .i64 5, .int .i64 1, .int .i64 22017] T_int fun r_3 h_4 =>
newC h_4 [.int .i64 1, .int .i64 2, .int .i64 3, .int .i64 4, .int .i64 5, .int .i64 38, .int .i64 7, .int .i64 8, .int .i64 9, .int .i64 10, .int .i64 11, .int .i64 12, .int .i64 13, .int .i64 29, .int .i64 15, .int .i64 16, .int .i64 17, .int .i64 18, .int .i64 19, .int .i64 20, .int .i64 21, .int .i64 22, .int .i64 23, .int .i64 24, .int .i64 25, .int .i64 26, .int .i64 27, .int .i64 28, .int .i64 29, .int .i64 30, .int .i64 31, .int .i64 32, .int .i64 33, .int .i64 34, .int .i64 35, .int .i64 36, .int .i64 37, .int .i64 38, .int .i64 39, .int .i64 40, .int .i64 41, .int .i64 42, .int .i64 43, .int .i64 44, .int .i64 45, .int .i64 45, .int .i64 46] T_int fun r_5 h_6 =>
newC h_6 [.int .i64 1, .int .i64 6, .int .i64 9, .int .i64 12, .int .i64 29, .int .i64 33, .int .i64 6, .int .i64 14, .int .i64 14, .int .i64 14, .int .i64 17, .int .i64 18, .int .i64 20, .int .i64 21, .int .i64 14, .int .i64 14, .int .i64 15, .int .i64 16, .int .i64 17, .int .i64 18, .int .i64 19, .int .i64 19, .int .i64 20, .int .i64 21, .int .i64 22, .int .i64 23, .int .i64 24, .int .i64 25, .int .i64 26, .int .i64 27, .int .i64 28, .int .i64 29, .int .i64 30, .int .i64 31, .int .i64 32, .int .i64 33, .int .i64 34, .int .i64 35, .int .i64 36, .int .i64 37, .int .i64 38, .int .i64 39, .int .i64 40, .int .i64 41, .int .i64 42, .int .i64 43, .int .i64 46] T_int fun r_7 h_8 =>
needs (0<=n/\n<((47:Nat):Int)) <|
needs (0<=n/\n<((47:Nat):Int)) <|
needs (0<=n/\n<((47:Nat):Int)) <|
bcase (n == (0:Int)) (
ldI h_8 ((⟨r_3,0,none⟩:Addr).add (n.toNat*1)) .i64 fun x_9 =>
ldI h_8 ((⟨r_5,0,none⟩:Addr).add (n.toNat*1)) .i64 fun x_10 =>
ldI h_8 ((⟨r_7,0,none⟩:Addr).add (n.toNat*1)) .i64 fun x_11 =>
stV h_8 ((⟨r_1,0,none⟩:Addr).add 0) (.int .i64 x_9) fun h_12 =>
stV h_12 ((⟨r_1,0,none⟩:Addr).add 1) (.int .i64 x_10) fun h_13 =>
stV h_13 ((⟨r_1,0,none⟩:Addr).add 2) (.int .i64 x_11) fun h_14 =>
stV h_14 ((⟨r_1,0,none⟩:Addr).add 3) (.bool true) fun h_15 =>
ldI h_15 ((⟨r_1,0,none⟩:Addr).add 0) .i64 fun r_16 =>
ldI h_15 ((⟨r_1,0,none⟩:Addr).add 1) .i64 fun r_17 =>
ldI h_15 ((⟨r_1,0,none⟩:Addr).add 2) .i64 fun r_18 =>
ldB h_15 ((⟨r_1,0,none⟩:Addr).add 3) fun r_19 =>
K (.agg #[.int .i64 r_16, .int .i64 r_17, .int .i64 r_18, .bool r_19]) h_15) <|
bcase (n == (6:Int)) (
ldI h_8 ((⟨r_3,0,none⟩:Addr).add (n.toNat*1)) .i64 fun x_20 =>
ldI h_8 ((⟨r_5,0,none⟩:Addr).add (n.toNat*1)) .i64 fun x_21 =>
ldI h_8 ((⟨r_7,0,none⟩:Addr).add (n.toNat*1)) .i64 fun x_22 =>
stV h_8 ((⟨r_1,0,none⟩:Addr).add 0) (.int .i64 x_20) fun h_23 =>
stV h_23 ((⟨r_1,0,none⟩:Addr).add 1) (.int .i64 x_21) fun h_24 =>
stV h_24 ((⟨r_1,0,none⟩:Addr).add 2) (.int .i64 x_22) fun h_25 =>
stV h_25 ((⟨r_1,0,none⟩:Addr).add 3) (.bool true) fun h_26 =>
ldI h_26 ((⟨r_1,0,none⟩:Addr).add 0) .i64 fun r_27 =>
ldI h_26 ((⟨r_1,0,none⟩:Addr).add 1) .i64 fun r_28 =>
ldI h_26 ((⟨r_1,0,none⟩:Addr).add 2) .i64 fun r_29 =>
ldB h_26 ((⟨r_1,0,none⟩:Addr).add 3) fun r_30 =>
K (.agg #[.int .i64 r_27, .int .i64 r_28, .int .i64 r_29, .bool r_30]) h_26) <|
ldI h_8 ((⟨r_3,0,none⟩:Addr).add (n.toNat*1)) .i64 fun x_31 =>
ldI h_8 ((⟨r_5,0,none⟩:Addr).add (n.toNat*1)) .i64 fun x_32 =>
ldI h_8 ((⟨r_7,0,none⟩:Addr).add (n.toNat*1)) .i64 fun x_33 =>
stV h_8 ((⟨r_1,0,none⟩:Addr).add 0) (.int .i64 x_31) fun h_34 =>
stV h_34 ((⟨r_1,0,none⟩:Addr).add 1) (.int .i64 x_32) fun h_35 =>
stV h_35 ((⟨r_1,0,none⟩:Addr).add 2) (.int .i64 x_33) fun h_36 =>
stV h_36 ((⟨r_1,0,none⟩:Addr).add 3) (.bool (n == (14:Int))) fun h_37 =>
ldI h_37 ((⟨r_1,0,none⟩:Addr).add 0) .i64 fun r_38 =>
ldI h_37 ((⟨r_1,0,none⟩:Addr).add 1) .i64 fun r_39 =>
ldI h_37 ((⟨r_1,0,none⟩:Addr).add 2) .i64 fun r_40 =>
ldB h_37 ((⟨r_1,0,none⟩:Addr).add 3) fun r_41 =>
K (.agg #[.int .i64 r_38, .int .i64 r_39, .int .i64 r_40, .bool r_41]) h_37
end Go.Den.YtfaclehehhgpcaaGreat
namespace Go.Den.YtfaclehehhgpcaaGreat
open Go Go.Den
theorem call_burinref4_NewDecoder {b:Option Addr} {bn:Nat} {bc:Nat} {contexts:Int} {h:Heap} {K:VK} {Kp:PK} (H:burinref4_NewDecoder (CallsHP Go.Proofs.Tryz.prog) b bn bc contexts h K Kp):CallsHP Go.Proofs.Tryz.prog F_burinref4_NewDecoder #[.slice b bn bc, .int .i64 contexts] h K Kp :=
 callsHP_ofE (Hints.mk (fun i=>none) (fun i=>none) (fun i=>none) []) (by kernel_rfl) Go.Proofs.Tryz.func116 (by kernel_rfl) (fun C=>burinref4_NewDecoder C b bn bc contexts h K Kp) (fun C=>by kernel_rfl) H
theorem call_burinref4_begun {contexts:Int} {h:Heap} {K:VK} {Kp:PK} (H:burinref4_begun (CallsHP Go.Proofs.Tryz.prog) contexts h K Kp):CallsHP Go.Proofs.Tryz.prog F_burinref4_begun #[.int .i64 contexts] h K Kp :=
 callsHP_ofE (Hints.mk (fun i=>bif Nat.beq i 1 then some ([6], .take 1 <| .take 3 <| .alt 0 (.alt 2 (.go 4 <| .take 5 <| .bar 6 [] <| .done) <| .go 4 <| .go 2 <| .take 5 <| .bar 6 [] <| .done) <| .alt 2 (.alt 0 (.go 4 <| .take 5 <| .bar 6 [] <| .done) <| .go 4 <| .go 0 <| .take 5 <| .bar 6 [] <| .done) <| .go 4 <| .alt 0 (.go 2 <| .take 5 <| .bar 6 [] <| .done) <| .go 2 <| .go 0 <| .take 5 <| .bar 6 [] <| .done) else (none)) (fun i=>none) (fun i=>none) []) (by kernel_rfl) Go.Proofs.Tryz.func146 (by kernel_rfl) (fun C=>burinref4_begun C contexts h K Kp) (fun C=>by kernel_rfl) H
theorem call_burinref4_Decoder_byte {d:Option Addr} {atv:Int} {h:Heap} {K:VK} {Kp:PK} (H:burinref4_Decoder_byte (CallsHP Go.Proofs.Tryz.prog) d atv h K Kp):CallsHP Go.Proofs.Tryz.prog F_burinref4_Decoder_byte #[.pointer d, .int .i64 atv] h K Kp :=
 callsHP_ofE (Hints.mk (fun i=>none) (fun i=>none) (fun i=>none) []) (by kernel_rfl) Go.Proofs.Tryz.func165 (by kernel_rfl) (fun C=>burinref4_Decoder_byte C d atv h K Kp) (fun C=>by kernel_rfl) H
theorem call_burinref4_Decoder_in {a0:Option Addr} {h:Heap} {K:VK} {Kp:PK} (H:burinref4_Decoder_in (CallsHP Go.Proofs.Tryz.prog) a0 h K Kp):CallsHP Go.Proofs.Tryz.prog F_burinref4_Decoder_in #[.pointer a0] h K Kp :=
 callsHP_ofE (Hints.mk (fun i=>bif Nat.beq i 9 then some ([15], .take 0 <| .take 1 <| .take 2 <| .take 3 <| .take 5 <| .take 6 <| .take 7 <| .take 8 <| .take 4 <| .take 9 <| .go 10 <| .take 11 <| .take 12 <| .take 13 <| .take 14 <| .bar 15 [] <| .done) else (none)) (fun i=>none) (fun i=>none) []) (by kernel_rfl) Go.Proofs.Tryz.func166 (by kernel_rfl) (fun C=>burinref4_Decoder_in C a0 h K Kp) (fun C=>by kernel_rfl) H
theorem call_burinref4_Decoder_Get {a0:Option Addr} {a1:Int} {h:Heap} {K:VK} {Kp:PK} (H:burinref4_Decoder_Get (CallsHP Go.Proofs.Tryz.prog) a0 a1 h K Kp):CallsHP Go.Proofs.Tryz.prog F_burinref4_Decoder_Get #[.pointer a0, .int .i64 a1] h K Kp :=
 callsHP_ofE (Hints.mk (fun i=>bif Nat.beq i 5 then some ([], .take 0 <| .take 1 <| .take 2 <| .take 3 <| .take 5 <| .take 6 <| .take 7 <| .take 8 <| .take 10 <| .take 4 <| .take 9 <| .take 11 <| .take 12 <| .take 13 <| .take 14 <| .take 15 <| .take 16 <| .done) else (none)) (fun i=>none) (fun i=>bif Nat.beq i 13 then some ([(8, .int .i64)],154741914614862175656739072) else (none)) []) (by kernel_rfl) Go.Proofs.Tryz.func180 (by kernel_rfl) (fun C=>burinref4_Decoder_Get C a0 a1 h K Kp) (fun C=>by kernel_rfl) H
theorem call_burinref4_table  {h:Heap} {K:VK} {Kp:PK} (H:burinref4_table (CallsHP Go.Proofs.Tryz.prog)  h K Kp):CallsHP Go.Proofs.Tryz.prog F_burinref4_table #[] h K Kp :=
 callsHP_ofE (Hints.mk (fun i=>none) (fun i=>bif Nat.beq i 3 then some ([(1, .slc),(2, .int .i64)],4094) else (none)) (fun i=>none) []) (by kernel_rfl) Go.Proofs.Tryz.func189 (by kernel_rfl) (fun C=>burinref4_table C  h K Kp) (fun C=>by kernel_rfl) H
theorem call_burinref4_side_Index {s:Option Addr} {context:Int} {h:Heap} {K:VK} {Kp:PK} (H:burinref4_side_Index (CallsHP Go.Proofs.Tryz.prog) s context h K Kp):CallsHP Go.Proofs.Tryz.prog F_burinref4_side_Index #[.pointer s, .int .i64 context] h K Kp :=
 callsHP_ofE (Hints.mk (fun i=>none) (fun i=>none) (fun i=>none) []) (by kernel_rfl) Go.Proofs.Tryz.func190 (by kernel_rfl) (fun C=>burinref4_side_Index C s context h K Kp) (fun C=>by kernel_rfl) H
theorem call_burinref4_side_likely {s:Option Addr} {k:Int} {h:Heap} {K:VK} {Kp:PK} (H:burinref4_side_likely (CallsHP Go.Proofs.Tryz.prog) s k h K Kp):CallsHP Go.Proofs.Tryz.prog F_burinref4_side_likely #[.pointer s, .int .i64 k] h K Kp :=
 callsHP_ofE (Hints.mk (fun i=>bif Nat.beq i 0 then some ([20], .take 0 <| .take 1 <| .take 2 <| .take 4 <| .take 5 <| .take 6 <| .take 7 <| .take 9 <| .take 10 <| .take 11 <| .take 13 <| .take 3 <| .take 8 <| .take 12 <| .take 14 <| .take 15 <| .take 16 <| .take 17 <| .take 18 <| .take 19 <| .bar 20 [] <| .done) else (none)) (fun i=>none) (fun i=>none) []) (by kernel_rfl) Go.Proofs.Tryz.func191 (by kernel_rfl) (fun C=>burinref4_side_likely C s k h K Kp) (fun C=>by kernel_rfl) H
theorem call_burinref4_side_other {s:Option Addr} {k:Int} {h:Heap} {K:VK} {Kp:PK} (H:burinref4_side_other (CallsHP Go.Proofs.Tryz.prog) s k h K Kp):CallsHP Go.Proofs.Tryz.prog F_burinref4_side_other #[.pointer s, .int .i64 k] h K Kp :=
 callsHP_ofE (Hints.mk (fun i=>bif Nat.beq i 0 then some ([14], .take 0 <| .take 1 <| .take 2 <| .take 4 <| .take 5 <| .take 6 <| .take 8 <| .take 3 <| .take 7 <| .take 9 <| .take 10 <| .take 11 <| .take 12 <| .go 13 <| .bar 14 [] <| .done) else (bif Nat.beq i 2 then some ([14], .take 0 <| .take 1 <| .take 2 <| .take 4 <| .take 5 <| .take 6 <| .take 7 <| .take 9 <| .take 3 <| .take 8 <| .take 10 <| .take 11 <| .take 12 <| .take 13 <| .bar 14 [] <| .done) else (bif Nat.beq i 3 then some ([8], .take 0 <| .take 1 <| .take 2 <| .take 4 <| .take 5 <| .take 3 <| .take 6 <| .take 7 <| .bar 8 [] <| .done) else (none)))) (fun i=>none) (fun i=>none) []) (by kernel_rfl) Go.Proofs.Tryz.func192 (by kernel_rfl) (fun C=>burinref4_side_other C s k h K Kp) (fun C=>by kernel_rfl) H
theorem call_burinref4_Decoder_renew {d:Option Addr} {h:Heap} {K:VK} {Kp:PK} (H:burinref4_Decoder_renew (CallsHP Go.Proofs.Tryz.prog) d h K Kp):CallsHP Go.Proofs.Tryz.prog F_burinref4_Decoder_renew #[.pointer d] h K Kp :=
 callsHP_ofE (Hints.mk (fun i=>none) (fun i=>bif Nat.beq i 1 then some ([(2, .bool)],4398046511100) else (none)) (fun i=>bif Nat.beq i 3 then some ([],2040) else (bif Nat.beq i 5 then some ([],260096) else (none))) []) (by kernel_rfl) Go.Proofs.Tryz.func208 (by kernel_rfl) (fun C=>burinref4_Decoder_renew C d h K Kp) (fun C=>by kernel_rfl) H
theorem call_burinref4_row {n:Int} {h:Heap} {K:VK} {Kp:PK} (H:burinref4_row (CallsHP Go.Proofs.Tryz.prog) n h K Kp):CallsHP Go.Proofs.Tryz.prog F_burinref4_row #[.int .i64 n] h K Kp :=
 callsHP_ofE (Hints.mk (fun i=>bif Nat.beq i 4 then some ([23], .take 0 <| .take 1 <| .take 2 <| .take 4 <| .take 5 <| .take 6 <| .take 8 <| .take 9 <| .take 10 <| .take 12 <| .take 13 <| .take 14 <| .take 15 <| .take 16 <| .take 17 <| .take 18 <| .take 19 <| .take 20 <| .take 21 <| .take 3 <| .take 7 <| .take 11 <| .take 22 <| .bar 23 [] <| .done) else (none)) (fun i=>none) (fun i=>none) []) (by kernel_rfl) Go.Proofs.Tryz.func214 (by kernel_rfl) (fun C=>burinref4_row C n h K Kp) (fun C=>by kernel_rfl) H
end Go.Den.YtfaclehehhgpcaaGreat
namespace Go.Ar
open Go Go.Den Go.Den.YtfaclehehhgpcaaGreat
def i64s (l:List Nat):List Value:=l.map fun x:Nat => .int .i64 (x:Int)
theorem i64s_length (l:List Nat):(i64s l).length=l.length:=by simp [i64s]
theorem i64s_get {l:List Nat} {i x:Nat} (h:l[i]? = some x):(i64s l)[i]? = some (.int .i64 (x:Int)):=by
 unfold i64s; rw [List.getElem?_map,h]; rfl
theorem i64s_set (l:List Nat) (i x:Nat):i64s (l.set i x)=(i64s l).set i (.int .i64 (x:Int)):=by simp [i64s,List.map_set]
theorem tab_get {l:List Nat} (hl:l.length=47) {k:Nat} (hk:k<47):(i64s l)[k]? = some (.int .i64 ((l.getD k 0:Nat):Int)):=by
 refine i64s_get ?_
 rw [List.getD_eq_getElem?_getD,List.getElem?_eq_getElem (by omega)]; rfl
def grow (k:Nat):List Value:=[.int .i64 (qOf k:Nat), .int .i64 (mOf k:Nat), .int .i64 (lOf k:Nat), .bool (cOf k == 1)]
def growsN:Nat->List Value
 | 0=>[]
 | n+1=>growsN n++grow n
theorem growsN_length:∀ n,(growsN n).length=4*n
 | 0=>rfl
 | n+1=>by rw [growsN,List.length_append,growsN_length n]; show 4*n+4=_; omega
theorem growsN_get:∀ {n r j:Nat} {v:Value},r<n->(grow r)[j]? = some v->(growsN n)[r*4+j]? = some v
 | 0,r,j,v,h,_=>by omega
 | n+1,r,j,v,h,hv=>by
  rw [growsN]
  have hj:j<4:=(List.getElem?_eq_some_iff.1 hv).1
  rcases Nat.lt_or_ge r n with h1 | h1
  ·exact get_app (growsN_get h1 hv)
  ·have:r=n:=by omega
   subst this
   have:=app_get (growsN_length r) (R:=growsN r) j hv
   rw [Nat.mul_comm] at this
   exact this
theorem c_row {k:Nat} (hk:k<47):(cOf k == 1)=(k == 0 || k == 6 || k == 14):=forall_lt_47 (p:=fun k=>(cOf k == 1)=(k == 0 || k == 6 || k == 14)) (by decide) hk
theorem row_ok {h:Heap} {k:Nat} (hk:k<47) {K:VK} {Kp:PK} (hK:∀ h',hext h h'->K (.agg #[.int .i64 (qOf k:Nat), .int .i64 (mOf k:Nat), .int .i64 (lOf k:Nat), .bool (cOf k == 1)]) h') :
  CP F_burinref4_row #[.int .i64 (k:Nat)] h K Kp:=by
 refine call_burinref4_row ?_
 unfold burinref4_row
 have H:=Hp.nil h []
 have hc:=c_row hk
 have hq:∀ X,X=i64s qTab->X[k]? = some (.int .i64 ((qOf k:Nat):Int)):=fun X e=>e ▸ tab_get (by decide) hk
 have hm:∀ X,X=i64s mTab->X[k]? = some (.int .i64 ((mOf k:Nat):Int)):=fun X e=>e ▸ tab_get (by decide) hk
 have hl:∀ X,X=i64s lTab->X[k]? = some (.int .i64 ((lOf k:Nat):Int)):=fun X e=>e ▸ tab_get (by decide) hk
 refine newC_hp H fun r h H=>?_
 refine newC_hp H fun a h H=>?_
 refine newC_hp H fun b h H=>?_
 refine newC_hp H fun c h H=>?_
 refine needs_of (by omega) ?_
 refine needs_of (by omega) ?_
 refine needs_of (by omega) ?_
 simp only [Int.toNat_natCast,Nat.mul_one]
 refine bcase_of (fun h1=>?_) fun h1=>?_
 ·have h1:k=0:=by simp at h1; omega
  try simp only [ptr_some_eq,add_mk,Nat.zero_add,Nat.add_zero]
  refine ldI_of (H.cell 1 rfl (hq _ (by kernel_rfl))) ?_
  refine ldI_of (H.cell 2 rfl (hm _ (by kernel_rfl))) ?_
  refine ldI_of (H.cell 3 rfl (hl _ (by kernel_rfl))) ?_
  refine stV_hp H 0 rfl (by first | exact Nat.le_of_ble_eq_true rfl | simp) rfl fun h hsz H=>?_
  refine stV_hp H 0 rfl (by first | exact Nat.le_of_ble_eq_true rfl | simp) rfl fun h hsz H=>?_
  refine stV_hp H 0 rfl (by first | exact Nat.le_of_ble_eq_true rfl | simp) rfl fun h hsz H=>?_
  refine stV_hp H 0 rfl (by first | exact Nat.le_of_ble_eq_true rfl | simp) rfl fun h hsz H=>?_
  refine ldI_of (H.cell 0 rfl rfl) ?_
  refine ldI_of (H.cell 0 rfl rfl) ?_
  refine ldI_of (H.cell 0 rfl rfl) ?_
  refine ldB_of (H.cell 0 rfl rfl) ?_
  have:=hK _ H.hext
  have e:(cOf k == 1)=true:=by rw [hc,h1]; rfl
  rw [e] at this
  exact this
 ·have h1:k≠0:=by simp at h1; omega
  refine bcase_of (fun h2=>?_) fun h2=>?_
  ·have h2:k=6:=by simp at h2; omega
   try simp only [ptr_some_eq,add_mk,Nat.zero_add,Nat.add_zero]
   refine ldI_of (H.cell 1 rfl (hq _ (by kernel_rfl))) ?_
   refine ldI_of (H.cell 2 rfl (hm _ (by kernel_rfl))) ?_
   refine ldI_of (H.cell 3 rfl (hl _ (by kernel_rfl))) ?_
   refine stV_hp H 0 rfl (by first | exact Nat.le_of_ble_eq_true rfl | simp) rfl fun h hsz H=>?_
   refine stV_hp H 0 rfl (by first | exact Nat.le_of_ble_eq_true rfl | simp) rfl fun h hsz H=>?_
   refine stV_hp H 0 rfl (by first | exact Nat.le_of_ble_eq_true rfl | simp) rfl fun h hsz H=>?_
   refine stV_hp H 0 rfl (by first | exact Nat.le_of_ble_eq_true rfl | simp) rfl fun h hsz H=>?_
   refine ldI_of (H.cell 0 rfl rfl) ?_
   refine ldI_of (H.cell 0 rfl rfl) ?_
   refine ldI_of (H.cell 0 rfl rfl) ?_
   refine ldB_of (H.cell 0 rfl rfl) ?_
   have:=hK _ H.hext
   have e:(cOf k == 1)=true:=by rw [hc,h2]; rfl
   rw [e] at this
   exact this
  ·have h2:k≠6:=by simp at h2; omega
   try simp only [ptr_some_eq,add_mk,Nat.zero_add,Nat.add_zero]
   refine ldI_of (H.cell 1 rfl (hq _ (by kernel_rfl))) ?_
   refine ldI_of (H.cell 2 rfl (hm _ (by kernel_rfl))) ?_
   refine ldI_of (H.cell 3 rfl (hl _ (by kernel_rfl))) ?_
   refine stV_hp H 0 rfl (by first | exact Nat.le_of_ble_eq_true rfl | simp) rfl fun h hsz H=>?_
   refine stV_hp H 0 rfl (by first | exact Nat.le_of_ble_eq_true rfl | simp) rfl fun h hsz H=>?_
   refine stV_hp H 0 rfl (by first | exact Nat.le_of_ble_eq_true rfl | simp) rfl fun h hsz H=>?_
   refine stV_hp H 0 rfl (by first | exact Nat.le_of_ble_eq_true rfl | simp) rfl fun h hsz H=>?_
   refine ldI_of (H.cell 0 rfl rfl) ?_
   refine ldI_of (H.cell 0 rfl rfl) ?_
   refine ldI_of (H.cell 0 rfl rfl) ?_
   refine ldB_of (H.cell 0 rfl rfl) ?_
   have:=hK _ H.hext
   have e:(((k:Nat):Int) == 14)=(cOf k == 1):=by
    rw [hc]
    by_cases h3:k=14
    ·subst h3; rfl
    ·have e1:(((k:Nat):Int) == 14)=false:=by simp; omega
     have e2:(k == 0 || k == 6 || k == 14)=false:=by simp [h1,h2,h3]
     rw [e1,e2]
   rw [e]
   exact this
theorem table_ok {h:Heap} {K:VK} {Kp:PK} (hK:∀ g rest c h',Hp h [] h' [⟨g,true,T_burinref4_Row,growsN 47++rest⟩]->K (.slice (at0 g) 47 c) h') :
  CP F_burinref4_table #[] h K Kp:=by
 refine call_burinref4_table ?_
 unfold burinref4_table
 refine ⟨fun n vs h'=>∃ i:Nat,i+n=47/\((i=0/\vs=[.slice none 0 0, .int .i64 0]/\h'=h)\/∃ g rest c,1<=i/\vs=[.slice (at0 g) i c, .int .i64 (i:Int)]/\(growsN i++rest).length=c*4/\Hp h [] h' [⟨g,true,T_burinref4_Row,growsN i++rest⟩]),
  ⟨47,0,rfl, .inl ⟨rfl,rfl,rfl⟩⟩,?_⟩
 rintro n h' u t tn tc x ⟨i,hin,⟨rfl,hx,rfl⟩ | ⟨g,rest,c,hi1,hx,hlen,H⟩⟩
 ·injection hx with hx1 hx
  injection hx1 with e1 e2 e3
  injection hx with hx
  injection hx with _ hx
  subst e1 e2 e3 hx
  refine bcase_true (by rfl) ?_
  refine row_ok (k:=0) (by decide) fun h2 e=>?_
  refine ⟨_,_,_,_,rfl,?_⟩
  have H:=(Hp.nil h' []).ext e
  refine newC_hp H fun r h H=>?_
  refine appC_newZ (sz:=4) (by_:=32) (m:=1) (z:=[.int .i64 0, .int .i64 0, .int .i64 0, .bool false]) H rfl (rdO_hp (o:=0) (n:=1*4) H 0 rfl (Nat.le_refl _)) rfl (Nat.le_refl _) (by decide) fun g rest c h3 hl hc e3 H=>?_
  refine bindI_of (((1:Nat):Int)) (by decide) ?_
  exact ⟨n-1,by omega,1,by omega, .inr ⟨g,rest,c,Nat.le_refl _,rfl,hl,H.pick [1] (by decide) rfl⟩⟩
 ·injection hx with hx1 hx
  injection hx1 with e1 e2 e3
  injection hx with hx
  injection hx with _ hx
  subst e1 e2 e3 hx
  refine bcase_of (fun h1=>?_) fun h1=>?_
  ·have h1:tn<47:=by simp at h1; omega
   refine row_ok h1 fun h2 e=>?_
   refine ⟨_,_,_,_,rfl,?_⟩
   have H:=H.ext e
   refine newC_hp H fun r h H=>?_
   refine appC_ownZ (sz:=4) (by_:=32) (m:=1) (z:=[.int .i64 0, .int .i64 0, .int .i64 0, .bool false]) H 0 rfl rfl (by rw [growsN_length]; omega) hlen (rdO_hp (o:=0) (n:=1*4) H 1 rfl (Nat.le_refl _)) rfl ?_ (by omega) fun g' rest' c' h3 hl hc H=>?_
   ·intro v hv
    have hv:v∈grow tn:=hv
    simp only [grow,List.mem_cons,List.not_mem_nil,or_false] at hv
    rcases hv with rfl | rfl | rfl | rfl <;> rfl
   ·refine bindI_of (((tn+1:Nat):Int)) (by exact i64_at _ _ (by omega) (by omega) (by omega)) ?_
    exact ⟨n-1,by omega,tn+1,by omega, .inr ⟨g',rest',c',by omega,rfl,hl,H.take 1⟩⟩
  ·have h1:tn=47:=by simp at h1; omega
   subst h1
   exact hK g rest _ _ H
end Go.Ar
namespace Go.Ar
open Go Go.Den Go.Den.YtfaclehehhgpcaaGreat
theorem i64s_zero (n:Nat):repZ [.int .i64 0] n=i64s (List.replicate n 0):=by rw [repZ_one]; simp [i64s]
theorem set_same {α:Type} {l:List α} {k:Nat} {v:α} (h:l[k]? = some v):l.set k v=l:=by
 apply List.ext_getElem?
 intro j
 by_cases hj:k=j
 ·subst hj
  rw [List.getElem?_set_self (List.getElem?_eq_some_iff.1 h).1,h]
 ·rw [List.getElem?_set_ne hj]
theorem begun_ok {h:Heap} {n:Nat} (hn:n<=131072) {K:VK} {Kp:PK}
  (hK:∀ g grest gc sq bq (sp:Ent) h',sp.w=true->Hp h [] h' [⟨g,true,T_burinref4_Row,growsN 47++grest⟩,⟨sq,true,T_int,i64s (List.replicate n 0)⟩,⟨bq,true,T_int,i64s (List.replicate n 0)⟩,sp] ->
   K (.agg #[.slice (at0 g) 47 gc, .slice (at0 sq) n n, .slice (at0 bq) n n, .int .i64 0]) h') :
  CP F_burinref4_begun #[.int .i64 (n:Nat)] h K Kp:=by
 refine call_burinref4_begun ?_
 unfold burinref4_begun
 have H:=Hp.nil h []
 refine newC_hp H fun r1 h H=>?_
 simp only [Int.toNat_natCast,i64s_zero]
 refine ⟨table_ok fun g grest gc h' H'=>⟨_,_,_,rfl,H'.hext,?_⟩,?_⟩
 ·replace H:=H.join H' rfl
  refine ⟨?_,?_⟩
  ·refine needs_of (by omega) ?_
   refine newC_hp H fun sq h H=>?_
   refine needs_of (by omega) ?_
   refine newC_hp H fun bq h H=>?_
   try simp only [ptr_some_eq,add_mk,Nat.zero_add,Nat.add_zero]
   refine stV_hp H 0 rfl (by first | exact Nat.le_of_ble_eq_true rfl | simp) rfl fun h hsz H=>?_
   refine stV_hp H 0 rfl (by first | exact Nat.le_of_ble_eq_true rfl | simp) rfl fun h hsz H=>?_
   refine stV_hp H 0 rfl (by first | exact Nat.le_of_ble_eq_true rfl | simp) rfl fun h hsz H=>?_
   refine stV_hp H 0 rfl (by first | exact Nat.le_of_ble_eq_true rfl | simp) rfl fun h hsz H=>?_
   refine ldS_of (H.cell 0 rfl rfl) ?_
   refine ldS_of (H.cell 0 rfl rfl) ?_
   refine ldS_of (H.cell 0 rfl rfl) ?_
   refine ldI_of (H.cell 0 rfl rfl) ?_
   exact hK g grest gc sq bq _ _ rfl (H.pick [1,2,3,0] (by decide) rfl)
  ·refine needs_of (by omega) ?_
   refine newC_hp H fun bq h H=>?_
   refine needs_of (by omega) ?_
   refine newC_hp H fun sq h H=>?_
   try simp only [ptr_some_eq,add_mk,Nat.zero_add,Nat.add_zero]
   refine stV_hp H 0 rfl (by first | exact Nat.le_of_ble_eq_true rfl | simp) rfl fun h hsz H=>?_
   refine stV_hp H 0 rfl (by first | exact Nat.le_of_ble_eq_true rfl | simp) rfl fun h hsz H=>?_
   refine stV_hp H 0 rfl (by first | exact Nat.le_of_ble_eq_true rfl | simp) rfl fun h hsz H=>?_
   refine stV_hp H 0 rfl (by first | exact Nat.le_of_ble_eq_true rfl | simp) rfl fun h hsz H=>?_
   refine ldS_of (H.cell 0 rfl rfl) ?_
   refine ldS_of (H.cell 0 rfl rfl) ?_
   refine ldS_of (H.cell 0 rfl rfl) ?_
   refine ldI_of (H.cell 0 rfl rfl) ?_
   exact hK g grest gc sq bq _ _ rfl (H.pick [1,3,2,0] (by decide) rfl)
 ·refine ⟨?_,?_⟩
  ·refine needs_of (by omega) ?_
   refine newC_hp H fun sq h H=>?_
   refine ⟨table_ok fun g grest gc h' H'=>⟨_,_,_,rfl,H'.hext,?_⟩,?_⟩
   ·replace H:=H.join H' rfl
    refine needs_of (by omega) ?_
    refine newC_hp H fun bq h H=>?_
    try simp only [ptr_some_eq,add_mk,Nat.zero_add,Nat.add_zero]
    refine stV_hp H 0 rfl (by first | exact Nat.le_of_ble_eq_true rfl | simp) rfl fun h hsz H=>?_
    refine stV_hp H 0 rfl (by first | exact Nat.le_of_ble_eq_true rfl | simp) rfl fun h hsz H=>?_
    refine stV_hp H 0 rfl (by first | exact Nat.le_of_ble_eq_true rfl | simp) rfl fun h hsz H=>?_
    refine stV_hp H 0 rfl (by first | exact Nat.le_of_ble_eq_true rfl | simp) rfl fun h hsz H=>?_
    refine ldS_of (H.cell 0 rfl rfl) ?_
    refine ldS_of (H.cell 0 rfl rfl) ?_
    refine ldS_of (H.cell 0 rfl rfl) ?_
    refine ldI_of (H.cell 0 rfl rfl) ?_
    exact hK g grest gc sq bq _ _ rfl (H.pick [2,1,3,0] (by decide) rfl)
   ·refine needs_of (by omega) ?_
    refine newC_hp H fun bq h H=>?_
    refine table_ok fun g grest gc h' H'=>⟨_,_,_,rfl,H'.hext,?_⟩
    replace H:=H.join H' rfl
    try simp only [ptr_some_eq,add_mk,Nat.zero_add,Nat.add_zero]
    refine stV_hp H 0 rfl (by first | exact Nat.le_of_ble_eq_true rfl | simp) rfl fun h hsz H=>?_
    refine stV_hp H 0 rfl (by first | exact Nat.le_of_ble_eq_true rfl | simp) rfl fun h hsz H=>?_
    refine stV_hp H 0 rfl (by first | exact Nat.le_of_ble_eq_true rfl | simp) rfl fun h hsz H=>?_
    refine stV_hp H 0 rfl (by first | exact Nat.le_of_ble_eq_true rfl | simp) rfl fun h hsz H=>?_
    refine ldS_of (H.cell 0 rfl rfl) ?_
    refine ldS_of (H.cell 0 rfl rfl) ?_
    refine ldS_of (H.cell 0 rfl rfl) ?_
    refine ldI_of (H.cell 0 rfl rfl) ?_
    exact hK g grest gc sq bq _ _ rfl (H.pick [3,1,2,0] (by decide) rfl)
  ·refine needs_of (by omega) ?_
   refine newC_hp H fun bq h H=>?_
   refine ⟨table_ok fun g grest gc h' H'=>⟨_,_,_,rfl,H'.hext,?_⟩,?_⟩
   ·replace H:=H.join H' rfl
    refine needs_of (by omega) ?_
    refine newC_hp H fun sq h H=>?_
    try simp only [ptr_some_eq,add_mk,Nat.zero_add,Nat.add_zero]
    refine stV_hp H 0 rfl (by first | exact Nat.le_of_ble_eq_true rfl | simp) rfl fun h hsz H=>?_
    refine stV_hp H 0 rfl (by first | exact Nat.le_of_ble_eq_true rfl | simp) rfl fun h hsz H=>?_
    refine stV_hp H 0 rfl (by first | exact Nat.le_of_ble_eq_true rfl | simp) rfl fun h hsz H=>?_
    refine stV_hp H 0 rfl (by first | exact Nat.le_of_ble_eq_true rfl | simp) rfl fun h hsz H=>?_
    refine ldS_of (H.cell 0 rfl rfl) ?_
    refine ldS_of (H.cell 0 rfl rfl) ?_
    refine ldS_of (H.cell 0 rfl rfl) ?_
    refine ldI_of (H.cell 0 rfl rfl) ?_
    exact hK g grest gc sq bq _ _ rfl (H.pick [2,3,1,0] (by decide) rfl)
   ·refine needs_of (by omega) ?_
    refine newC_hp H fun sq h H=>?_
    refine table_ok fun g grest gc h' H'=>⟨_,_,_,rfl,H'.hext,?_⟩
    replace H:=H.join H' rfl
    try simp only [ptr_some_eq,add_mk,Nat.zero_add,Nat.add_zero]
    refine stV_hp H 0 rfl (by first | exact Nat.le_of_ble_eq_true rfl | simp) rfl fun h hsz H=>?_
    refine stV_hp H 0 rfl (by first | exact Nat.le_of_ble_eq_true rfl | simp) rfl fun h hsz H=>?_
    refine stV_hp H 0 rfl (by first | exact Nat.le_of_ble_eq_true rfl | simp) rfl fun h hsz H=>?_
    refine stV_hp H 0 rfl (by first | exact Nat.le_of_ble_eq_true rfl | simp) rfl fun h hsz H=>?_
    refine ldS_of (H.cell 0 rfl rfl) ?_
    refine ldS_of (H.cell 0 rfl rfl) ?_
    refine ldS_of (H.cell 0 rfl rfl) ?_
    refine ldI_of (H.cell 0 rfl rfl) ?_
    exact hK g grest gc sq bq _ _ rfl (H.pick [3,2,1,0] (by decide) rfl)
def sideV (g gc sq bq m:Nat) (n:Nat):List Value:=[.slice (at0 g) 47 gc, .slice (at0 sq) m m, .slice (at0 bq) m m, .int .i64 (n:Nat)]
def half (st:List Nat):List Nat:=st.map (· / 2)
def low (st:List Nat):List Nat:=st.map (· % 2)
theorem half_get {st:List Nat} {k x:Nat} (h:st[k]? = some x):(half st)[k]? = some (x / 2):=by unfold half; rw [List.getElem?_map,h]; rfl
theorem low_get {st:List Nat} {k x:Nat} (h:st[k]? = some x):(low st)[k]? = some (x % 2):=by unfold low; rw [List.getElem?_map,h]; rfl
theorem half_set (st:List Nat) (k v:Nat):half (st.set k v)=(half st).set k (v / 2):=List.map_set
theorem low_set (st:List Nat) (k v:Nat):low (st.set k v)=(low st).set k (v % 2):=List.map_set
theorem index_ok {h:Heap} {p g gc sq bq m n:Nat} {F:List Nat} {h0:Heap} {L:List Ent} (H:Hp h0 F h L) (kp:Nat) {w:Bool} {t:TypeId} {T:List Value} (hp:L[kp]? = some ⟨p,w,t,sideV g gc sq bq m n++T⟩) (hm:1<=m) (hm2:m<=131072)
  {ctx:Int} {K:VK} {Kp:PK} (hk:K (.int .i64 (idx ctx m:Nat)) h):CP F_burinref4_side_Index #[.pointer (at0 p), .int .i64 ctx] h K Kp:=by
 refine call_burinref4_side_Index ?_
 unfold burinref4_side_Index
 have habs:=tmod_abs ctx hm
 have e2:=Int.tmod_eq_emod (a:=ctx) (b:=(m:Int))
 have h1:=Int.emod_nonneg ctx (b:=(m:Int)) (by omega)
 have hlt:=Int.emod_lt_of_pos ctx (b:=(m:Int)) (by omega)
 have e1:((idx ctx m:Nat):Int)=ctx % m:=by unfold idx; omega
 try simp only [ptr_some_eq,add_mk,Nat.zero_add,Nat.add_zero]
 refine ldS_of (H.cell kp hp rfl) ?_
 refine needs_of (by exact ⟨trivial,by omega⟩) ?_
 refine bindI_gen fun z ez=>?_
 subst ez
 refine bcase_of (fun h2=>?_) fun h2=>?_
 ·have h2:ctx.tmod m<0:=of_decide_eq_true h2
  refine ldS_of (H.cell kp hp rfl) ?_
  refine bindI_of ((idx ctx m:Nat)) (by exact i64_at _ _ (by split at e2 <;> omega) (by omega) (by omega)) ?_
  exact hk
 ·have h2:¬ ctx.tmod m<0:=of_decide_eq_false h2
  have e3:ctx.tmod m=((idx ctx m:Nat):Int):=by split at e2 <;> omega
  rw [e3]
  exact hk
theorem g_get {k j:Nat} {v:Value} {rest:List Value} (hk:k<47) (h:(grow k)[j]? = some v):(growsN 47++rest)[k*4+j]? = some v:=get_app (growsN_get hk h)
theorem slikely_ok {h:Heap} {p g gc sq bq n k x:Nat} {st:List Nat} {grest:List Value} {F:List Nat} {h0:Heap} {L:List Ent} (H:Hp h0 F h L) (kp kg ks:Nat) {w wg:Bool} {t:TypeId} {T:List Value} (hp:L[kp]? = some ⟨p,w,t,sideV g gc sq bq st.length n++T⟩)
  (hg:L[kg]? = some ⟨g,wg,T_burinref4_Row,growsN 47++grest⟩) (hs:L[ks]? = some ⟨sq,true,T_int,i64s (half st)⟩) (hx:st[k]? = some x) (hx94:x<94)
  {K:VK} {Kp:PK} (hk:∀ h',Hp h0 F h' (L.set ks ⟨sq,true,T_int,i64s (half (st.set k (upM x)))⟩)->K (.tuple #[]) h') :
  CP F_burinref4_side_likely #[.pointer (at0 p), .int .i64 (k:Nat)] h K Kp:=by
 refine call_burinref4_side_likely ?_
 unfold burinref4_side_likely
 have hkl:k<st.length:=(List.getElem?_eq_some_iff.1 hx).1
 have hr:x / 2<47:=by omega
 try simp only [ptr_some_eq,add_mk,Nat.zero_add,Nat.add_zero]
 refine ldS_of (H.cell kp hp rfl) (ldS_of (H.cell kp hp rfl) (ldS_of (H.cell kp hp rfl) ?_))
 refine needs_of (by omega) ?_
 try simp only [ptr_some_eq,add_mk,Nat.zero_add,Int.toNat_natCast,Nat.mul_one]
 refine ldI_of (H.cell ks hs (i64s_get (half_get hx))) ?_
 refine needs_of (by omega) ?_
 try simp only [ptr_some_eq,add_mk,Nat.zero_add,Int.toNat_natCast,Nat.mul_one]
 refine ldI_of (H.cell kg hg (g_get hr (j:=1) rfl)) ?_
 refine needs_of (by omega) ?_
 try simp only [ptr_some_eq,add_mk,Nat.zero_add]
 refine stV_hp H ks hs (by rw [i64s_length]; simpa [half] using hkl) rfl fun h' hsz H=>hk _ ?_
 rw [half_set,i64s_set]
 have e:upM x / 2=mOf (x / 2):=by unfold upM; omega
 rw [e]
 exact H
end Go.Ar
namespace Go.Ar
open Go Go.Den Go.Den.YtfaclehehhgpcaaGreat
def sideL (p:Nat) (t:TypeId) (T:List Value) (g gc sq bq n:Nat) (st:List Nat) (grest:List Value) (e5:Ent):List Ent :=
 [⟨p,true,t,sideV g gc sq bq st.length n++T⟩,⟨g,true,T_burinref4_Row,growsN 47++grest⟩,⟨sq,true,T_int,i64s (half st)⟩,⟨bq,true,T_int,i64s (low st)⟩,e5]
theorem slk_ok {h:Heap} {p g gc sq bq n k x:Nat} {st:List Nat} {grest:List Value} {F:List Nat} {h0:Heap} {t:TypeId} {T:List Value} {e5:Ent} (H:Hp h0 F h (sideL p t T g gc sq bq n st grest e5)) (hx:st[k]? = some x) (hx94:x<94)
  {K:VK} {Kp:PK} (hk:∀ h',Hp h0 F h' (sideL p t T g gc sq bq n (st.set k (upM x)) grest e5)->K (.tuple #[]) h') :
  CP F_burinref4_side_likely #[.pointer (at0 p), .int .i64 (k:Nat)] h K Kp :=
 slikely_ok H 0 1 2 rfl rfl rfl hx hx94 fun h' H'=>hk _ (H'.as (by
  have e:low (st.set k (upM x))=low st:=by
   rw [low_set]
   have e2:upM x % 2=x % 2:=by unfold upM; omega
   rw [e2]
   exact set_same (low_get hx)
  simp [sideL,e]))
theorem sother_ok {h:Heap} {p g gc sq bq n k x:Nat} {st:List Nat} {grest:List Value} {F:List Nat} {h0:Heap} {t:TypeId} {T:List Value} {e5:Ent} (H:Hp h0 F h (sideL p t T g gc sq bq n st grest e5)) (hx:st[k]? = some x) (hx94:x<94)
  {K:VK} {Kp:PK} (hk:∀ h',Hp h0 F h' (sideL p t T g gc sq bq n (st.set k (upL x)) grest e5)->K (.tuple #[]) h') :
  CP F_burinref4_side_other #[.pointer (at0 p), .int .i64 (k:Nat)] h K Kp:=by
 refine call_burinref4_side_other ?_
 unfold burinref4_side_other
 have hkl:k<st.length:=(List.getElem?_eq_some_iff.1 hx).1
 have hr:x / 2<47:=by omega
 have hc1:=cOf_le hr
 have eh:half (st.set k (upL x))=(half st).set k (lOf (x / 2)):=by
  rw [half_set]; congr 1; unfold upL; omega
 have el:low (st.set k (upL x))=(low st).set k ((x % 2+cOf (x / 2)) % 2):=by
  rw [low_set]; congr 1; unfold upL; omega
 try simp only [ptr_some_eq,add_mk,Nat.zero_add,Nat.add_zero]
 refine ldS_of (H.cell 0 rfl rfl) ?_
 refine ldS_of (H.cell 0 rfl rfl) ?_
 refine needs_of (by omega) ?_
 try simp only [ptr_some_eq,add_mk,Nat.zero_add,Int.toNat_natCast,Nat.mul_one]
 refine ldI_of (H.cell 2 rfl (i64s_get (half_get hx))) ?_
 refine needs_of (by omega) ?_
 try simp only [ptr_some_eq,add_mk,Nat.zero_add,Int.toNat_natCast,Nat.mul_one]
 refine ldI_of (H.cell 1 rfl (g_get hr (j:=0) rfl)) ?_
 refine ldI_of (H.cell 1 rfl (g_get hr (j:=1) rfl)) ?_
 refine ldI_of (H.cell 1 rfl (g_get hr (j:=2) rfl)) ?_
 refine ldB_of (H.cell 1 rfl (g_get hr (j:=3) rfl)) ?_
 refine newC_hp H fun w h H=>?_
 try simp only [ptr_some_eq,add_mk,Nat.zero_add,Nat.add_zero]
 refine stV_hp H 5 rfl (by first | exact Nat.le_of_ble_eq_true rfl | simp) rfl fun h hsz H=>?_
 refine stV_hp H 5 rfl (by first | exact Nat.le_of_ble_eq_true rfl | simp) rfl fun h hsz H=>?_
 refine stV_hp H 5 rfl (by first | exact Nat.le_of_ble_eq_true rfl | simp) rfl fun h hsz H=>?_
 refine stV_hp H 5 rfl (by first | exact Nat.le_of_ble_eq_true rfl | simp) rfl fun h hsz H=>?_
 refine ldB_of (H.cell 5 rfl rfl) ?_
 refine bcase_of (fun h1=>?_) fun h1=>?_
 ·have h1:cOf (x / 2)=1:=by simpa using h1
  refine ldS_of (H.cell 0 rfl rfl) ?_
  refine ldS_of (H.cell 0 rfl rfl) ?_
  refine needs_of (by omega) ?_
  try simp only [ptr_some_eq,add_mk,Nat.zero_add,Int.toNat_natCast,Nat.mul_one]
  refine ldI_of (H.cell 3 rfl (i64s_get (low_get hx))) ?_
  refine bindI_of (((1-x % 2:Nat):Int)) (by exact i64_at _ _ (by omega) (by omega) (by omega)) ?_
  refine needs_of (by omega) ?_
  try simp only [ptr_some_eq,add_mk,Nat.zero_add,Int.toNat_natCast,Nat.mul_one]
  refine stV_hp H 3 rfl (by rw [i64s_length]; simpa [low] using hkl) rfl fun h hsz H=>?_
  refine ldS_of (H.cell 0 rfl rfl) ?_
  refine ldI_of (H.cell 5 rfl rfl) ?_
  refine needs_of (by omega) ?_
  try simp only [ptr_some_eq,add_mk,Nat.zero_add,Int.toNat_natCast,Nat.mul_one]
  refine stV_hp H 2 rfl (by rw [i64s_length]; simpa [half] using hkl) rfl fun h hsz H=>?_
  refine hk _ ((H.take 5).as ?_)
  have e3:(x % 2+cOf (x / 2)) % 2=1-x % 2:=by rw [h1]; omega
  rw [e3] at el
  simp [sideL,eh,el,i64s_set]
 ·have h1:cOf (x / 2)=0:=by
   have:cOf (x / 2)≠1:=by simpa using h1
   omega
  refine ldS_of (H.cell 0 rfl rfl) ?_
  refine ldI_of (H.cell 5 rfl rfl) ?_
  refine needs_of (by omega) ?_
  try simp only [ptr_some_eq,add_mk,Nat.zero_add,Int.toNat_natCast,Nat.mul_one]
  refine stV_hp H 2 rfl (by rw [i64s_length]; simpa [half] using hkl) rfl fun h hsz H=>?_
  refine hk _ ((H.take 5).as ?_)
  have e3:(x % 2+cOf (x / 2)) % 2=x % 2:=by rw [h1]; omega
  rw [e3] at el
  have el2:low (st.set k (upL x))=low st:=el.trans (set_same (low_get hx))
  simp [sideL,eh,el2,i64s_set]
structure RP where
 p:Nat
 g:Nat
 gc:Nat
 sq:Nat
 bq:Nat
 grest:List Value
end Go.Ar
namespace Go.Ar
open Go Go.Den Go.Den.YtfaclehehhgpcaaGreat
end Go.Ar
namespace Go.Ar
open Go Go.Den Go.Den.YtfaclehehhgpcaaGreat
end Go.Ar
namespace Go.Ar
open Go Go.Den Go.Den.YtfaclehehhgpcaaGreat
end Go.Ar
namespace Go.Ar
open Go Go.Den Go.Den.YtfaclehehhgpcaaGreat
end Go.Ar
namespace Go.Ar
open Go Go.Den Go.Den.YtfaclehehhgpcaaGreat
theorem contexts_ok {h:Heap} {p q n:Nat} {F:List Nat} {h0:Heap} {L:List Ent} (H:Hp h0 F h L) (kp:Nat) {w:Bool} {t:TypeId} {T:List Value} (hp:L[kp]? = some ⟨p,w,t,rowsV++(.slice (some ⟨q,0,none⟩) n n::T)⟩)
  {K:VK} {Kp:PK} (hk:K (.int .i64 (n:Nat)) h):CP F_arith_table_Contexts #[.pointer (at0 p)] h K Kp:=by
 refine call_arith_table_Contexts ?_
 unfold arith_table_Contexts
 try simp only [ptr_some_eq,add_mk,Nat.zero_add,Nat.add_zero]
 refine ldS_of (H.cell kp hp (app_get hR 0 rfl)) ?_
 exact hk
end Go.Ar
namespace Go.Ar
open Go Go.Den Go.Den.YtfaclehehhgpcaaGreat
end Go.Ar
namespace Go.Den.YtfaclehehhgpcaaGreat
open Go Go.Den
end Go.Den.YtfaclehehhgpcaaGreat
namespace Go.Den.YtfaclehehhgpcaaGreat
open Go Go.Den
end Go.Den.YtfaclehehhgpcaaGreat
namespace Go.Den.YtfaclehehhgpcaaGreat
open Go Go.Den
end Go.Den.YtfaclehehhgpcaaGreat
namespace Go.Den.YtfaclehehhgpcaaGreat
open Go Go.Den
end Go.Den.YtfaclehehhgpcaaGreat
namespace Go.Bm
open Go Go.Den Go.Den.YtfaclehehhgpcaaGreat
theorem rdO_ext {h h':Heap} (e:hext h h') {a:Option Addr} {n:Nat} {vs:List Value} (hr:rdO h a n vs):rdO h' a n vs :=
 Fr.rdO (F:=[]) ⟨e.1,fun b hb _=>e.2 b hb⟩ (fun _ _=>by simp) hr
theorem setAll_app:∀ (B0:List Ent) (ix:List Nat) (L D:List Ent),B0.length=ix.length->setAll L ix (B0++D)=setL L ix B0++D
 | [],[],L,D,_=>by rw [List.nil_append,setAll_nil]; unfold setL; rfl
 | b::B0,i::ix,L,D,h=>by
  show setAll L (i::ix) (b::(B0++D))=setL L (i::ix) (b::B0)++D
  unfold setAll setL
  exact setAll_app B0 ix _ D (by simpa using h)
 | [],_::_,_,_,h=>by cases h
 | _::_,[],_,_,h=>by cases h
theorem Hp.backD {h0 h h':Heap} {F:List Nat} {L A B0 D:List Ent} (H:Hp h0 F h L) (ix:List Nat) (hnd:ix.Nodup) (hA:ix.map (fun k=>L[k]?)=A.map some) (hw:A.all Ent.w=true) (H':Hp h (A.map Ent.b) h' (B0++D)) (hB:B0.all Ent.w=true) (hD:D.all Ent.w=true) (hl:B0.length=ix.length) :
  Hp h0 F h' (setL L ix B0++D):=(H.back ix hnd hA hw H' (by rw [List.all_append,hB,hD]; rfl) (by rw [List.length_append]; omega)).as (setAll_app B0 ix L D hl)
theorem Slot.rdO' {h0 h:Heap} {F:List Nat} {L D:List Ent} {t:TypeId} {sz n c:Nat} {q:Option Addr} {xs:List Value} (hd:Slot t sz D q n c xs) (H:Hp h0 F h L) (hs:∀ e∈D,e∈L):rdO h q (n*sz) xs:=by
 obtain ⟨hl,⟨rfl,rfl,rfl,rfl⟩ | ⟨b,rest,rfl,rfl,hc⟩⟩:=hd
 ·rw [Nat.zero_mul] at hl ⊢
  rw [List.length_eq_zero_iff.1 hl]
  exact rfl
 ·exact H.rdO_mem (hs _ (List.mem_singleton.2 rfl)) hl
structure Pg where
 W:Nat
 X:Nat
 d:Nat
 s:Nat
 ws:List Nat
 nx:Nat
 dn:Bool
structure PgOk (g:Pg):Prop where
 size:SizeP (g.W:Int) (g.X:Int)
 len:g.ws.length=g.X*wds g.W
 w:W64 g.ws
 nx:g.nx<=g.X
 s:g.s<=1048576
theorem PgOk.b {g:Pg} (h:PgOk g):1<=g.W/\g.W<=1048576/\1<=g.X/\g.X<=1048576/\1<=g.ws.length/\g.ws.length<=1048576:=by
 obtain ⟨W',X',e1,e2,hW1,hW2,hX1,hX2,hWX⟩:=size_nat h.size
 have e1:g.W=W':=by omega
 have e2:g.X=X':=by omega
 rw [h.len,e1,e2]
 have:=hw_le hW1 hWX
 have h1:1<=X'*wds W':=Nat.mul_pos hX1 (wds_pos hW1)
 omega
theorem pix_zero (n wd x y:Nat):pix (List.replicate n 0) wd x y=false:=by
 unfold pix
 rw [List.getD_eq_getElem?_getD]
 cases h:(List.replicate n 0)[y*wd+x / 64]? with
 | none=>exact Nat.zero_testBit _
 | some v=>rw [(List.mem_replicate.1 (List.mem_of_getElem? h)).2]; exact Nat.zero_testBit _
end Go.Bm
namespace Go.Bm
open Go Go.Den Go.Den.YtfaclehehhgpcaaGreat
end Go.Bm
namespace Go.Den.YtfaclehehhgpcaaGreat
open Go Go.Den
end Go.Den.YtfaclehehhgpcaaGreat
namespace Go.Den.YtfaclehehhgpcaaGreat
open Go Go.Den
end Go.Den.YtfaclehehhgpcaaGreat
namespace Go.Bm
open Go Go.Den Go.Den.YtfaclehehhgpcaaGreat
end Go.Bm
namespace Go.Bm
open Go Go.Den Go.Den.YtfaclehehhgpcaaGreat
theorem list3 {α:Type} {l:List α} (h:l.length=3):∃ a b c,l=[a,b,c]:=by
 match l,h with
 | [a,b,c],_=>exact ⟨a,b,c,rfl⟩
noncomputable abbrev TP:=Go.Proofs.Tryz.prog
theorem one_of {P:Program} {h:Heap} {t:TypeId} {cs:List Value} {o:Nat} {v:Value} (k:P.cellsOf t=1) (H:WDx P h t ((cs.drop o).take (P.cellsOf t))) (hv:cs[o]? = some v):WDx P h t [v]:=by
 rw [k] at H
 have:(cs.drop o).take 1=[v]:=by
  have ho:=(List.getElem?_eq_some_iff.1 hv).1
  rw [List.drop_eq_getElem_cons ho]
  have:=(List.getElem?_eq_some_iff.1 hv).2
  simp [this]
 rw [this] at H
 exact H
theorem inI_of {n:Int} (h:IntKind.i64.min<=n/\n<=IntKind.i64.max):InI n:=by
 have h1:IntKind.i64.min = -9223372036854775808:=by decide
 have h2:IntKind.i64.max=9223372036854775807:=by decide
 rw [h1,h2] at h
 unfold InI
 omega
theorem u64s_ints {l:List Int} (h:∀ x∈l,IntKind.u64.min<=x/\x<=IntKind.u64.max):(l.map fun x=>(.int .u64 x:Value))=u64s (l.map Int.toNat)/\W64 (l.map Int.toNat):=by
 have h1:IntKind.u64.min=0:=by decide
 have h2:IntKind.u64.max=18446744073709551615:=by decide
 rw [h1,h2] at h
 constructor
 ·unfold u64s
  rw [List.map_map]
  refine List.map_congr_left fun x hx=>?_
  have:=h x hx
  show Value.int .u64 x = .int .u64 ((x.toNat:Nat):Int)
  rw [Int.toNat_of_nonneg this.1]
 ·intro y hy
  obtain ⟨x,hx,rfl⟩:=List.mem_map.1 hy
  have:=h x hx
  show x.toNat<18446744073709551616
  omega
theorem k_int:TP.cellsOf T_int=1:=by kernel_rfl
theorem k_s_uint64:TP.cellsOf T_s_uint64=1:=by kernel_rfl
theorem wd_words {h:Heap} {cs:List Value} (H:WDx TP h T_s_uint64 cs) :
  ∃ q cap,∃ ws:List Nat,cs=[.slice q ws.length cap]/\ws.length<140737488351300/\rdO h q (ws.length*1) (u64s ws)/\W64 ws:=by
 obtain ⟨q,cap,l,rfl,h1,h2,h3,h4,h5⟩:=wd_ints (k := .u64) Go.Proofs.Tryz.underlying34 Go.Proofs.Tryz.underlying85 (by kernel_rfl) H
 obtain ⟨e1,e2⟩:=u64s_ints h5
 have k1:TP.bytesOf T_uint64=8:=by kernel_rfl
 rw [k1] at h2
 have hr:reachBytes=140737488351232:=rfl
 rw [e1] at h4
 exact ⟨q,cap,l.map Int.toNat,by simp,by simp; omega,by simpa using h4,e2⟩
theorem wd_bitmap {h:Heap} {cs:List Value} (H:WDx TP h T_api_Bitmap cs) :
  ∃ w b q cap,∃ ws:List Nat,cs=[.int .i64 w, .int .i64 b, .slice q ws.length cap]/\InI w/\InI b/\ws.length<140737488351300/\rdO h q (ws.length*1) (u64s ws)/\W64 ws:=by
 obtain ⟨hl,hf⟩:=wd_struct Go.Proofs.Tryz.underlying36 H
 have k:TP.cellsOf T_api_Bitmap=3:=by kernel_rfl
 rw [k] at hl
 obtain ⟨a,b,c,rfl⟩:=list3 hl
 obtain ⟨w,ew,iw⟩:=wd_int Go.Proofs.Tryz.underlying3 (one_of k_int (hf 0 _ rfl) (v:=a) rfl)
 obtain ⟨b',eb,ib⟩:=wd_int Go.Proofs.Tryz.underlying3 (one_of k_int (hf 1 _ rfl) (v:=b) rfl)
 obtain ⟨q,cap,ws,e2,g1,g2,g3⟩:=wd_words (one_of k_s_uint64 (hf 2 _ rfl) (v:=c) rfl)
 simp only [List.cons.injEq,and_true] at ew eb e2
 subst ew eb e2
 exact ⟨w,b',q,cap,ws,rfl,inI_of iw,inI_of ib,g1,g2,g3⟩
end Go.Bm
namespace Go.Bm
open Go Go.Den Go.Den.YtfaclehehhgpcaaGreat
theorem may_of_pix {W X:Nat} {ws:List Nat} (hs:SizeP (W:Int) (X:Int)) (hl:ws.length=X*wds W) (hw:W64 ws) (hp:∀ y,y<X->∀ x,W<=x->x<64*wds W->pix ws (wds W) x y=false):MayP (W:Int) (X:Int) ws:=by
 obtain ⟨W',X',e1,e2,hW1,hW2,hX1,hX2,hWX⟩:=size_nat hs
 obtain rfl:W=W':=by omega
 refine ⟨hs,by simpa using hl,fun y hy=>?_⟩
 simp only [Int.toNat_natCast] at hy ⊢
 rw [mod_zero_bits]
 intro j hj
 unfold padn at hj
 have hwd:wds W=(W+63) / 64:=rfl
 have:=hp y hy (64*(wds W-1)+(63-j)) (by omega) (by omega)
 unfold pix at this
 rw [show (64*(wds W-1)+(63-j)) / 64=wds W-1 by omega,show 63-(64*(wds W-1)+(63-j)) % 64=j by omega] at this
 exact this
theorem pix_of_may {W X:Nat} {ws:List Nat} (h:MayP (W:Int) (X:Int) ws) {x y:Nat} (hy:y<X) (h1:W<=x) (h2:x<64*wds W):pix ws (wds W) x y=false:=by
 have h3:=h.2.2 y (by simpa using hy)
 simp only [Int.toNat_natCast] at h3
 rw [mod_zero_bits] at h3
 have hwd:wds W=(W+63) / 64:=rfl
 unfold padn at h3
 have:=h3 (63-x % 64) (by omega)
 unfold pix
 rw [show x / 64=wds W-1 by omega]
 exact this
theorem may_len {W X:Nat} {ws:List Nat} (h:MayP (W:Int) (X:Int) ws):ws.length=X*wds W:=by simpa using h.2.1
end Go.Bm
namespace Go.Bm
open Go Go.Den Go.Den.YtfaclehehhgpcaaGreat
open Go.Ar (Cod putM idx)
def stepP (m:Nat) (base:Int) (s:Cod) (n:Nat) (bit:Bool):(Bool × Cod) ⊕ (Int × Cod) := .inl (bit,putM s (idx (base+(n:Int)) m) bit.toNat)
end Go.Bm
namespace Go.Bm
open Go Go.Den Go.Den.YtfaclehehhgpcaaGreat
end Go.Bm
