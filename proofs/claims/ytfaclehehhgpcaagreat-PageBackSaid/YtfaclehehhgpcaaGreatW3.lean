/- W3: put together by wip/tools/bundle.py: Marith Barith ArB ArC ArD ArK Mburinkit Bburinkit ArE Mpage Bpage Mburinref15 Bburinref15 PgA Mbits. -/
import Derived.Test.YtfaclehehhgpcaaGreatW1
import Derived.Test.YtfaclehehhgpcaaGreatW2
import Derived.Test.YtfaclehehhgpcaaGreatProg

/- Written by gen.py: the conditions of the functions of arith. -/
set_option linter.unusedVariables false
set_option linter.unusedSimpArgs false
namespace Go.Den.YtfaclehehhgpcaaGreat
open Go Go.Den

/- burin/arith.New -/
set_option maxRecDepth 100000 in
def arith_New (C : CallP) (contexts : Int) (h : Heap) (K : Value → Heap → Prop) (Kp : List PanicEntry → Heap → Prop) : Prop :=
C F_arith_made #[.int .i64 contexts] h (fun v_1 h_2 =>
∃ (cs_3 : List Value), cs_3.length = 190 ∧ ∃ (r_4 : Bool), v_1 = .tuple #[.agg (cs_3).toArray, .bool r_4] ∧ (
newC h_2 Z_arith_table T_arith_table fun r_5 h_6 =>
needs ((cs_3).length = 190) <| stVs h_6 (⟨r_5, 0, none⟩ : Addr) 0 (cs_3) fun h_7 =>
bcase (!r_4) (
K (.tuple #[.pointer none, .int .i64 40]) h_7) <|
ldAll h_7 (⟨r_5, 0, none⟩ : Addr) 190 fun cs_8 =>
newC h_7 [.int .u8 0] T_uint8 fun r_9 h_10 =>
needs ((cs_8).length = 190 ∧ 0 + 190 ≤ (Z_arith_Coder).length) <|
needs ((([.int .u32 32768] : List Value)).length = 1 ∧ 190 + 1 ≤ ((putL Z_arith_Coder 0 cs_8)).length) <|
needs ((([.int .i64 12] : List Value)).length = 1 ∧ 192 + 1 ≤ ((putL (putL Z_arith_Coder 0 cs_8) 190 ([.int .u32 32768] : List Value))).length) <|
needs ((([.slice (some ⟨r_9, 0, none⟩) 1 1] : List Value)).length = 1 ∧ 193 + 1 ≤ ((putL (putL (putL Z_arith_Coder 0 cs_8) 190 ([.int .u32 32768] : List Value)) 192 ([.int .i64 12] : List Value))).length) <|
newC h_10 ((putL (putL (putL (putL Z_arith_Coder 0 cs_8) 190 ([.int .u32 32768] : List Value)) 192 ([.int .i64 12] : List Value)) 193 ([.slice (some ⟨r_9, 0, none⟩) 1 1] : List Value))) T_arith_Coder fun r_11 h_12 =>
K (.tuple #[.pointer (some ⟨r_11, 0, none⟩), .int .i64 0]) h_12)) (Kp)

/- (*burin/arith.Coder).Flush -/
set_option maxRecDepth 100000 in
def arith_Coder_Flush (C : CallP) (a0 : Option Addr) (h : Heap) (K : Value → Heap → Prop) (Kp : List PanicEntry → Heap → Prop) : Prop :=
ptr a0 fun a_1 =>
ldB h (a_1.add 194) fun x_2 =>
bcase x_2 (
K (.tuple #[.slice none 0 0, .int .i64 43]) h) <|
ptr a0 fun a_3 =>
stV h (a_3.add 194) (.bool true) fun h_4 =>
ptr a0 fun a_5 =>
ptr a0 fun a_6 =>
ldI h_4 (a_5.add 191) .u32 fun x_7 =>
ldI h_4 (a_6.add 190) .u32 fun x_8 =>
bindI (IntKind.u32.wrap (x_7 + x_8)) fun z_9 =>
∃ K_10 : List Value → Heap → Prop, (
ptr a0 fun a_13 =>
ldI h_4 (a_13.add 191) .u32 fun x_14 =>
bindI (bitI .or .u32 x_14 (65535 : Int)) fun z_15 =>
ptr a0 fun a_16 =>
stV h_4 (a_16.add 191) (.int .u32 z_15) fun h_17 =>
ptr a0 fun a_18 =>
ldI h_17 (a_18.add 191) .u32 fun x_19 =>
bcase (decide (x_19 ≥ z_9)) (
ptr a0 fun a_20 =>
ldI h_17 (a_20.add 191) .u32 fun x_21 =>
bindI (IntKind.u32.wrap (x_21 - (32768 : Int))) fun z_22 =>
ptr a0 fun a_23 =>
stV h_17 (a_23.add 191) (.int .u32 z_22) fun h_24 =>
K_10 [] h_24) <|
K_10 [] h_17) ∧ ∀ (h_11 : Heap) (u_12 : Nat → Value) , K_10 [] h_11 → (
∃ J_25 : Nat → List Value → Heap → Prop, (∃ n_27, J_25 n_27 [.int .i64 0] h_11) ∧ ∀ (n_27 : Nat) (h_28 : Heap) (u_29 : Nat → Value) (x_30 : Int), J_25 n_27 [.int .i64 x_30] h_28 → (
bcase (decide (x_30 < (2 : Int))) (
ptr a0 fun a_31 =>
ptr a0 fun a_32 =>
ldI h_28 (a_31.add 191) .u32 fun x_33 =>
ldI h_28 (a_32.add 192) .i64 fun x_34 =>
needs (0 ≤ x_34) <|
bindI (shlI .u32 x_33 x_34) fun z_35 =>
ptr a0 fun a_36 =>
stV h_28 (a_36.add 191) (.int .u32 z_35) fun h_37 =>
C F_arith_Coder_out #[.pointer a0] h_37 (fun v_38 h_39 =>
bindI (IntKind.i64.wrap (x_30 + (1 : Int))) fun z_40 =>
∃ m_26, m_26 < n_27 ∧ J_25 m_26 [.int .i64 z_40] h_39) (Kp)) <|
ptr a0 fun a_41 =>
ldS h_28 (a_41.add 193) fun x_42 x_42n x_42c =>
needs (0 ≤ (1 : Int) ∧ (1 : Int) ≤ ((x_42n : Nat) : Int)) <|
bindI (IntKind.i64.wrap ((((x_42n - (1 : Int).toNat) : Nat) : Int) - (1 : Int))) fun z_43 =>
needs (0 ≤ z_43 ∧ z_43 < (((x_42n - (1 : Int).toNat) : Nat) : Int)) <|
ptr (subA x_42 (x_42c) ((1 : Int).toNat) 1) fun a_44 =>
ldI h_28 (a_44.add (z_43.toNat * 1)) .u8 fun x_45 =>
bcase (x_45 == (255 : Int)) (
bindI (IntKind.i64.wrap ((((x_42n - (1 : Int).toNat) : Nat) : Int) - (1 : Int))) fun z_46 =>
needs (0 ≤ z_46 ∧ z_46 ≤ (((x_42c - (1 : Int).toNat) : Nat) : Int)) <|
appC h_28 T_uint8 1 1 [.int .u8 0] none (0) (0) (subA (subA x_42 (x_42c) ((1 : Int).toNat) 1) ((x_42c - (1 : Int).toNat)) (0) 1) ((z_46.toNat - 0)) fun q_47 q_47n q_47c h_48 =>
K (.tuple #[.slice q_47 q_47n q_47c, .int .i64 0]) h_48) <|
appC h_28 T_uint8 1 1 [.int .u8 0] none (0) (0) (subA x_42 (x_42c) ((1 : Int).toNat) 1) ((x_42n - (1 : Int).toNat)) fun q_49 q_49n q_49c h_50 =>
K (.tuple #[.slice q_49 q_49n q_49c, .int .i64 0]) h_50))

/- burin/arith.NewDecoder -/
set_option maxRecDepth 100000 in
def arith_NewDecoder (C : CallP) (b : Option Addr) (bn : Nat) (bc : Nat) (contexts : Int) (h : Heap) (K : Value → Heap → Prop) (Kp : List PanicEntry → Heap → Prop) : Prop :=
C F_arith_made #[.int .i64 contexts] h (fun v_1 h_2 =>
∃ (cs_3 : List Value), cs_3.length = 190 ∧ ∃ (r_4 : Bool), v_1 = .tuple #[.agg (cs_3).toArray, .bool r_4] ∧ (
newC h_2 Z_arith_table T_arith_table fun r_5 h_6 =>
needs ((cs_3).length = 190) <| stVs h_6 (⟨r_5, 0, none⟩ : Addr) 0 (cs_3) fun h_7 =>
bcase (!r_4) (
K (.tuple #[.pointer none, .int .i64 40]) h_7) <|
ldAll h_7 (⟨r_5, 0, none⟩ : Addr) 190 fun cs_8 =>
appC h_7 T_uint8 1 1 [.int .u8 0] none (0) (0) b (bn) fun q_9 q_9n q_9c h_10 =>
hext h_7 h_10 ∧ (
needs ((cs_8).length = 190 ∧ 0 + 190 ≤ (Z_arith_Decoder).length) <|
needs ((([.int .u32 32768] : List Value)).length = 1 ∧ 190 + 1 ≤ ((putL Z_arith_Decoder 0 cs_8)).length) <|
needs ((([.slice q_9 q_9n q_9c] : List Value)).length = 1 ∧ 193 + 1 ≤ ((putL (putL Z_arith_Decoder 0 cs_8) 190 ([.int .u32 32768] : List Value))).length) <|
newC h_10 ((putL (putL (putL Z_arith_Decoder 0 cs_8) 190 ([.int .u32 32768] : List Value)) 193 ([.slice q_9 q_9n q_9c] : List Value))) T_arith_Decoder fun r_11 h_12 =>
C F_arith_Decoder_byte #[.pointer (some ⟨r_11, 0, none⟩), .int .i64 0] h_12 (fun v_13 h_14 =>
∃ (r_15 : Int), v_13 = .int .u32 r_15 ∧ (
bindI (shlI .u32 r_15 (16 : Int)) fun z_16 =>
stV h_14 ((⟨r_11, 0, none⟩ : Addr).add 191) (.int .u32 z_16) fun h_17 =>
C F_arith_Decoder_in #[.pointer (some ⟨r_11, 0, none⟩)] h_17 (fun v_18 h_19 =>
ldI h_19 ((⟨r_11, 0, none⟩ : Addr).add 191) .u32 fun x_20 =>
bindI (shlI .u32 x_20 (7 : Int)) fun z_21 =>
stV h_19 ((⟨r_11, 0, none⟩ : Addr).add 191) (.int .u32 z_21) fun h_22 =>
ldI h_22 ((⟨r_11, 0, none⟩ : Addr).add 192) .i64 fun x_23 =>
bindI (IntKind.i64.wrap (x_23 - (7 : Int))) fun z_24 =>
stV h_22 ((⟨r_11, 0, none⟩ : Addr).add 192) (.int .i64 z_24) fun h_25 =>
K (.tuple #[.pointer (some ⟨r_11, 0, none⟩), .int .i64 0]) h_25) (Kp))) (Kp)))) (Kp)

/- burin/arith.made -/
set_option maxRecDepth 100000 in
def arith_made (C : CallP) (contexts : Int) (h : Heap) (K : Value → Heap → Prop) (Kp : List PanicEntry → Heap → Prop) : Prop :=
newC h Z_arith_table T_arith_table fun r_1 h_2 =>
bcase (decide (contexts < (1 : Int))) (
stVs h_2 (⟨r_1, 0, none⟩ : Addr) 0 [.int .u32 0, .int .u8 0, .int .u8 0, .int .u8 0, .int .u32 0, .int .u8 0, .int .u8 0, .int .u8 0, .int .u32 0, .int .u8 0, .int .u8 0, .int .u8 0, .int .u32 0, .int .u8 0, .int .u8 0, .int .u8 0, .int .u32 0, .int .u8 0, .int .u8 0, .int .u8 0, .int .u32 0, .int .u8 0, .int .u8 0, .int .u8 0, .int .u32 0, .int .u8 0, .int .u8 0, .int .u8 0, .int .u32 0, .int .u8 0, .int .u8 0, .int .u8 0, .int .u32 0, .int .u8 0, .int .u8 0, .int .u8 0, .int .u32 0, .int .u8 0, .int .u8 0, .int .u8 0, .int .u32 0, .int .u8 0, .int .u8 0, .int .u8 0, .int .u32 0, .int .u8 0, .int .u8 0, .int .u8 0, .int .u32 0, .int .u8 0, .int .u8 0, .int .u8 0, .int .u32 0, .int .u8 0, .int .u8 0, .int .u8 0, .int .u32 0, .int .u8 0, .int .u8 0, .int .u8 0, .int .u32 0, .int .u8 0, .int .u8 0, .int .u8 0, .int .u32 0, .int .u8 0, .int .u8 0, .int .u8 0, .int .u32 0, .int .u8 0, .int .u8 0, .int .u8 0, .int .u32 0, .int .u8 0, .int .u8 0, .int .u8 0, .int .u32 0, .int .u8 0, .int .u8 0, .int .u8 0, .int .u32 0, .int .u8 0, .int .u8 0, .int .u8 0, .int .u32 0, .int .u8 0, .int .u8 0, .int .u8 0, .int .u32 0, .int .u8 0, .int .u8 0, .int .u8 0, .int .u32 0, .int .u8 0, .int .u8 0, .int .u8 0, .int .u32 0, .int .u8 0, .int .u8 0, .int .u8 0, .int .u32 0, .int .u8 0, .int .u8 0, .int .u8 0, .int .u32 0, .int .u8 0, .int .u8 0, .int .u8 0, .int .u32 0, .int .u8 0, .int .u8 0, .int .u8 0, .int .u32 0, .int .u8 0, .int .u8 0, .int .u8 0, .int .u32 0, .int .u8 0, .int .u8 0, .int .u8 0, .int .u32 0, .int .u8 0, .int .u8 0, .int .u8 0, .int .u32 0, .int .u8 0, .int .u8 0, .int .u8 0, .int .u32 0, .int .u8 0, .int .u8 0, .int .u8 0, .int .u32 0, .int .u8 0, .int .u8 0, .int .u8 0, .int .u32 0, .int .u8 0, .int .u8 0, .int .u8 0, .int .u32 0, .int .u8 0, .int .u8 0, .int .u8 0, .int .u32 0, .int .u8 0, .int .u8 0, .int .u8 0, .int .u32 0, .int .u8 0, .int .u8 0, .int .u8 0, .int .u32 0, .int .u8 0, .int .u8 0, .int .u8 0, .int .u32 0, .int .u8 0, .int .u8 0, .int .u8 0, .int .u32 0, .int .u8 0, .int .u8 0, .int .u8 0, .int .u32 0, .int .u8 0, .int .u8 0, .int .u8 0, .int .u32 0, .int .u8 0, .int .u8 0, .int .u8 0, .int .u32 0, .int .u8 0, .int .u8 0, .int .u8 0, .int .u32 0, .int .u8 0, .int .u8 0, .int .u8 0, .int .u32 0, .int .u8 0, .int .u8 0, .int .u8 0, .int .u32 0, .int .u8 0, .int .u8 0, .int .u8 0, .slice none 0 0, .int .i64 0] fun h_3 =>
ldAll h_3 (⟨r_1, 0, none⟩ : Addr) 190 fun cs_4 =>
K (.tuple #[.agg (cs_4).toArray, .bool false]) h_3) <|
bcase (decide (contexts > (131072 : Int))) (
stVs h_2 (⟨r_1, 0, none⟩ : Addr) 0 [.int .u32 0, .int .u8 0, .int .u8 0, .int .u8 0, .int .u32 0, .int .u8 0, .int .u8 0, .int .u8 0, .int .u32 0, .int .u8 0, .int .u8 0, .int .u8 0, .int .u32 0, .int .u8 0, .int .u8 0, .int .u8 0, .int .u32 0, .int .u8 0, .int .u8 0, .int .u8 0, .int .u32 0, .int .u8 0, .int .u8 0, .int .u8 0, .int .u32 0, .int .u8 0, .int .u8 0, .int .u8 0, .int .u32 0, .int .u8 0, .int .u8 0, .int .u8 0, .int .u32 0, .int .u8 0, .int .u8 0, .int .u8 0, .int .u32 0, .int .u8 0, .int .u8 0, .int .u8 0, .int .u32 0, .int .u8 0, .int .u8 0, .int .u8 0, .int .u32 0, .int .u8 0, .int .u8 0, .int .u8 0, .int .u32 0, .int .u8 0, .int .u8 0, .int .u8 0, .int .u32 0, .int .u8 0, .int .u8 0, .int .u8 0, .int .u32 0, .int .u8 0, .int .u8 0, .int .u8 0, .int .u32 0, .int .u8 0, .int .u8 0, .int .u8 0, .int .u32 0, .int .u8 0, .int .u8 0, .int .u8 0, .int .u32 0, .int .u8 0, .int .u8 0, .int .u8 0, .int .u32 0, .int .u8 0, .int .u8 0, .int .u8 0, .int .u32 0, .int .u8 0, .int .u8 0, .int .u8 0, .int .u32 0, .int .u8 0, .int .u8 0, .int .u8 0, .int .u32 0, .int .u8 0, .int .u8 0, .int .u8 0, .int .u32 0, .int .u8 0, .int .u8 0, .int .u8 0, .int .u32 0, .int .u8 0, .int .u8 0, .int .u8 0, .int .u32 0, .int .u8 0, .int .u8 0, .int .u8 0, .int .u32 0, .int .u8 0, .int .u8 0, .int .u8 0, .int .u32 0, .int .u8 0, .int .u8 0, .int .u8 0, .int .u32 0, .int .u8 0, .int .u8 0, .int .u8 0, .int .u32 0, .int .u8 0, .int .u8 0, .int .u8 0, .int .u32 0, .int .u8 0, .int .u8 0, .int .u8 0, .int .u32 0, .int .u8 0, .int .u8 0, .int .u8 0, .int .u32 0, .int .u8 0, .int .u8 0, .int .u8 0, .int .u32 0, .int .u8 0, .int .u8 0, .int .u8 0, .int .u32 0, .int .u8 0, .int .u8 0, .int .u8 0, .int .u32 0, .int .u8 0, .int .u8 0, .int .u8 0, .int .u32 0, .int .u8 0, .int .u8 0, .int .u8 0, .int .u32 0, .int .u8 0, .int .u8 0, .int .u8 0, .int .u32 0, .int .u8 0, .int .u8 0, .int .u8 0, .int .u32 0, .int .u8 0, .int .u8 0, .int .u8 0, .int .u32 0, .int .u8 0, .int .u8 0, .int .u8 0, .int .u32 0, .int .u8 0, .int .u8 0, .int .u8 0, .int .u32 0, .int .u8 0, .int .u8 0, .int .u8 0, .int .u32 0, .int .u8 0, .int .u8 0, .int .u8 0, .int .u32 0, .int .u8 0, .int .u8 0, .int .u8 0, .int .u32 0, .int .u8 0, .int .u8 0, .int .u8 0, .int .u32 0, .int .u8 0, .int .u8 0, .int .u8 0, .int .u32 0, .int .u8 0, .int .u8 0, .int .u8 0, .slice none 0 0, .int .i64 0] fun h_5 =>
ldAll h_5 (⟨r_1, 0, none⟩ : Addr) 190 fun cs_6 =>
K (.tuple #[.agg (cs_6).toArray, .bool false]) h_5) <|
(
C F_arith_rows #[] h_2 (fun v_7 h_8 =>
∃ (cs_9 : List Value), cs_9.length = 188 ∧ v_7 = .agg (cs_9).toArray ∧ (
hext h_2 h_8 ∧ (
needs (0 ≤ contexts ∧ contexts ≤ contexts ∧ contexts ≤ 9223372036854775807 ∧ ((1 : Nat) : Int) * contexts ≤ 281474976710656) <|
newC h_8 (repZ [.int .u8 0] contexts.toNat) T_uint8 fun r_10 h_11 =>
needs ((cs_9).length = 188 ∧ 0 + 188 ≤ (Z_arith_table).length) <|
needs ((([.slice (some ⟨r_10, 0, none⟩) contexts.toNat contexts.toNat] : List Value)).length = 1 ∧ 188 + 1 ≤ ((putL Z_arith_table 0 cs_9)).length) <|
needs (((putL (putL Z_arith_table 0 cs_9) 188 ([.slice (some ⟨r_10, 0, none⟩) contexts.toNat contexts.toNat] : List Value))).length = 190) <| stVs h_11 (⟨r_1, 0, none⟩ : Addr) 0 ((putL (putL Z_arith_table 0 cs_9) 188 ([.slice (some ⟨r_10, 0, none⟩) contexts.toNat contexts.toNat] : List Value))) fun h_12 =>
ldAll h_12 (⟨r_1, 0, none⟩ : Addr) 190 fun cs_13 =>
K (.tuple #[.agg (cs_13).toArray, .bool true]) h_12))) (Kp)) ∧ (
needs (0 ≤ contexts ∧ contexts ≤ contexts ∧ contexts ≤ 9223372036854775807 ∧ ((1 : Nat) : Int) * contexts ≤ 281474976710656) <|
newC h_2 (repZ [.int .u8 0] contexts.toNat) T_uint8 fun r_14 h_15 =>
C F_arith_rows #[] h_15 (fun v_16 h_17 =>
∃ (cs_18 : List Value), cs_18.length = 188 ∧ v_16 = .agg (cs_18).toArray ∧ (
hext h_15 h_17 ∧ (
needs ((cs_18).length = 188 ∧ 0 + 188 ≤ (Z_arith_table).length) <|
needs ((([.slice (some ⟨r_14, 0, none⟩) contexts.toNat contexts.toNat] : List Value)).length = 1 ∧ 188 + 1 ≤ ((putL Z_arith_table 0 cs_18)).length) <|
needs (((putL (putL Z_arith_table 0 cs_18) 188 ([.slice (some ⟨r_14, 0, none⟩) contexts.toNat contexts.toNat] : List Value))).length = 190) <| stVs h_17 (⟨r_1, 0, none⟩ : Addr) 0 ((putL (putL Z_arith_table 0 cs_18) 188 ([.slice (some ⟨r_14, 0, none⟩) contexts.toNat contexts.toNat] : List Value))) fun h_19 =>
ldAll h_19 (⟨r_1, 0, none⟩ : Addr) 190 fun cs_20 =>
K (.tuple #[.agg (cs_20).toArray, .bool true]) h_19))) (Kp))

/- (*burin/arith.Coder).out -/
set_option maxRecDepth 100000 in
def arith_Coder_out (C : CallP) (a0 : Option Addr) (h : Heap) (K : Value → Heap → Prop) (Kp : List PanicEntry → Heap → Prop) : Prop :=
ptr a0 fun a_1 =>
ptr a0 fun a_2 =>
ldS h (a_1.add 193) fun x_3 x_3n x_3c =>
ldS h (a_2.add 193) fun x_4 x_4n x_4c =>
bindI (IntKind.i64.wrap ((x_4n : Int) - (1 : Int))) fun z_5 =>
needs (0 ≤ z_5 ∧ z_5 < (x_3n : Int)) <|
ptr x_3 fun a_6 =>
∃ K_7 : List Value → Heap → Prop, (
∃ K_10 : List Value → Heap → Prop, (
ldI h (a_6.add (z_5.toNat * 1)) .u8 fun x_13 =>
bcase (x_13 != (255 : Int)) (
ptr a0 fun a_14 =>
ldI h (a_14.add 191) .u32 fun x_15 =>
K_10 [.bool (decide (x_15 ≥ (134217728 : Int)))] h) <|
K_10 [.bool false] h) ∧ ∀ (h_11 : Heap) (u_12 : Nat → Value) (x_16 : Bool), K_10 [.bool x_16] h_11 → (
bcase x_16 (
ldI h_11 (a_6.add (z_5.toNat * 1)) .u8 fun x_17 =>
bindI (IntKind.u8.wrap (x_17 + (1 : Int))) fun z_18 =>
stV h_11 (a_6.add (z_5.toNat * 1)) (.int .u8 z_18) fun h_19 =>
ptr a0 fun a_20 =>
ldI h_19 (a_20.add 191) .u32 fun x_21 =>
bindI (bitI .and .u32 x_21 (134217727 : Int)) fun z_22 =>
ptr a0 fun a_23 =>
stV h_19 (a_23.add 191) (.int .u32 z_22) fun h_24 =>
K_7 [] h_24) <|
K_7 [] h_11)) ∧ ∀ (h_8 : Heap) (u_9 : Nat → Value) , K_7 [] h_8 → (
∃ K_25 : List Value → Heap → Prop, (
ldI h_8 (a_6.add (z_5.toNat * 1)) .u8 fun x_28 =>
bcase (x_28 != (255 : Int)) (
bindI (IntKind.i64.wrap ((20 : Int) - (1 : Int))) fun z_29 =>
K_25 [.int .i64 z_29] h_8) <|
K_25 [.int .i64 20] h_8) ∧ ∀ (h_26 : Heap) (u_27 : Nat → Value) (x_30 : Int), K_25 [.int .i64 x_30] h_26 → (
ptr a0 fun a_31 =>
ptr a0 fun a_32 =>
ldS h_26 (a_31.add 193) fun x_33 x_33n x_33c =>
ldI h_26 (a_32.add 191) .u32 fun x_34 =>
needs (0 ≤ x_30) <|
bindI (shrI .u32 x_34 x_30) fun z_35 =>
bindI (IntKind.u8.wrap z_35) fun z_36 =>
newC h_26 [.int .u8 z_36] T_uint8 fun r_37 h_38 =>
appC h_38 T_uint8 1 1 [.int .u8 0] x_33 (x_33n) (x_33c) (some ⟨r_37, 0, none⟩) (1) fun q_39 q_39n q_39c h_40 =>
ptr a0 fun a_41 =>
stV h_40 (a_41.add 193) (.slice q_39 q_39n q_39c) fun h_42 =>
ptr a0 fun a_43 =>
needs (0 ≤ x_30) <|
bindI (shlI .u32 (1 : Int) x_30) fun z_44 =>
bindI (IntKind.u32.wrap (z_44 - (1 : Int))) fun z_45 =>
ldI h_42 (a_43.add 191) .u32 fun x_46 =>
bindI (bitI .and .u32 x_46 z_45) fun z_47 =>
ptr a0 fun a_48 =>
stV h_42 (a_48.add 191) (.int .u32 z_47) fun h_49 =>
bindI (IntKind.i64.wrap ((27 : Int) - x_30)) fun z_50 =>
ptr a0 fun a_51 =>
stV h_49 (a_51.add 192) (.int .i64 z_50) fun h_52 =>
K (.tuple #[]) h_52))

/- (*burin/arith.Decoder).byte -/
set_option maxRecDepth 100000 in
def arith_Decoder_byte (C : CallP) (d : Option Addr) (i : Int) (h : Heap) (K : Value → Heap → Prop) (Kp : List PanicEntry → Heap → Prop) : Prop :=
ptr d fun a_1 =>
ldS h (a_1.add 193) fun x_2 x_2n x_2c =>
bcase (decide (i < (x_2n : Int))) (
ptr d fun a_3 =>
ldS h (a_3.add 193) fun x_4 x_4n x_4c =>
needs (0 ≤ i ∧ i < (x_4n : Int)) <|
ptr x_4 fun a_5 =>
ldI h (a_5.add (i.toNat * 1)) .u8 fun x_6 =>
bindI (IntKind.u32.wrap x_6) fun z_7 =>
K (.int .u32 z_7) h) <|
K (.int .u32 255) h

/- (*burin/arith.Decoder).in -/
set_option maxRecDepth 100000 in
def arith_Decoder_in (C : CallP) (a0 : Option Addr) (h : Heap) (K : Value → Heap → Prop) (Kp : List PanicEntry → Heap → Prop) : Prop :=
ptr a0 fun a_1 =>
ldI h (a_1.add 194) .i64 fun x_2 =>
C F_arith_Decoder_byte #[.pointer a0, .int .i64 x_2] h (fun v_3 h_4 =>
∃ (r_5 : Int), v_3 = .int .u32 r_5 ∧ (
bcase (r_5 != (255 : Int)) (
ptr a0 fun a_6 =>
ldI h_4 (a_6.add 194) .i64 fun x_7 =>
bindI (IntKind.i64.wrap (x_7 + (1 : Int))) fun z_8 =>
ptr a0 fun a_9 =>
stV h_4 (a_9.add 194) (.int .i64 z_8) fun h_10 =>
ptr a0 fun a_11 =>
ptr a0 fun a_12 =>
ldI h_10 (a_11.add 191) .u32 fun x_13 =>
ldI h_10 (a_12.add 194) .i64 fun x_14 =>
C F_arith_Decoder_byte #[.pointer a0, .int .i64 x_14] h_10 (fun v_15 h_16 =>
∃ (r_17 : Int), v_15 = .int .u32 r_17 ∧ (
hext h_10 h_16 ∧ (
bindI (shlI .u32 r_17 (8 : Int)) fun z_18 =>
bindI (IntKind.u32.wrap (x_13 + z_18)) fun z_19 =>
ptr a0 fun a_20 =>
stV h_16 (a_20.add 191) (.int .u32 z_19) fun h_21 =>
ptr a0 fun a_22 =>
stV h_21 (a_22.add 192) (.int .i64 8) fun h_23 =>
K (.tuple #[]) h_23))) (Kp)) <|
ptr a0 fun a_24 =>
ldI h_4 (a_24.add 194) .i64 fun x_25 =>
bindI (IntKind.i64.wrap (x_25 + (1 : Int))) fun z_26 =>
C F_arith_Decoder_byte #[.pointer a0, .int .i64 z_26] h_4 (fun v_27 h_28 =>
∃ (r_29 : Int), v_27 = .int .u32 r_29 ∧ (
bcase (decide (r_29 > (143 : Int))) (
ptr a0 fun a_30 =>
ldI h_28 (a_30.add 191) .u32 fun x_31 =>
bindI (IntKind.u32.wrap (x_31 + (65280 : Int))) fun z_32 =>
ptr a0 fun a_33 =>
stV h_28 (a_33.add 191) (.int .u32 z_32) fun h_34 =>
ptr a0 fun a_35 =>
stV h_34 (a_35.add 192) (.int .i64 8) fun h_36 =>
K (.tuple #[]) h_36) <|
ptr a0 fun a_37 =>
ldI h_28 (a_37.add 194) .i64 fun x_38 =>
bindI (IntKind.i64.wrap (x_38 + (1 : Int))) fun z_39 =>
ptr a0 fun a_40 =>
stV h_28 (a_40.add 194) (.int .i64 z_39) fun h_41 =>
ptr a0 fun a_42 =>
ptr a0 fun a_43 =>
ldI h_41 (a_42.add 191) .u32 fun x_44 =>
ldI h_41 (a_43.add 194) .i64 fun x_45 =>
C F_arith_Decoder_byte #[.pointer a0, .int .i64 x_45] h_41 (fun v_46 h_47 =>
∃ (r_48 : Int), v_46 = .int .u32 r_48 ∧ (
hext h_41 h_47 ∧ (
bindI (shlI .u32 r_48 (9 : Int)) fun z_49 =>
bindI (IntKind.u32.wrap (x_44 + z_49)) fun z_50 =>
ptr a0 fun a_51 =>
stV h_47 (a_51.add 191) (.int .u32 z_50) fun h_52 =>
ptr a0 fun a_53 =>
stV h_52 (a_53.add 192) (.int .i64 7) fun h_54 =>
K (.tuple #[]) h_54))) (Kp))) (Kp))) (Kp)

/- (*burin/arith.table).Contexts -/
set_option maxRecDepth 100000 in
def arith_table_Contexts (C : CallP) (t : Option Addr) (h : Heap) (K : Value → Heap → Prop) (Kp : List PanicEntry → Heap → Prop) : Prop :=
ptr t fun a_1 =>
ldS h (a_1.add 188) fun x_2 x_2n x_2c =>
K (.int .i64 (x_2n : Int)) h

/- burin/arith.rows -/
set_option maxRecDepth 100000 in
def arith_rows (C : CallP)  (h : Heap) (K : Value → Heap → Prop) (Kp : List PanicEntry → Heap → Prop) : Prop :=
newC h Z_47_arith_row T_47_arith_row fun r_1 h_2 =>
stVs h_2 (⟨r_1, 0, none⟩ : Addr) 0 [.int .u32 22017, .int .u8 1, .int .u8 1, .int .u8 1, .int .u32 13313, .int .u8 2, .int .u8 6, .int .u8 0, .int .u32 6145, .int .u8 3, .int .u8 9, .int .u8 0, .int .u32 2753, .int .u8 4, .int .u8 12, .int .u8 0, .int .u32 1313, .int .u8 5, .int .u8 29, .int .u8 0, .int .u32 545, .int .u8 38, .int .u8 33, .int .u8 0, .int .u32 22017, .int .u8 7, .int .u8 6, .int .u8 1, .int .u32 21505, .int .u8 8, .int .u8 14, .int .u8 0, .int .u32 18433, .int .u8 9, .int .u8 14, .int .u8 0, .int .u32 14337, .int .u8 10, .int .u8 14, .int .u8 0, .int .u32 12289, .int .u8 11, .int .u8 17, .int .u8 0, .int .u32 9217, .int .u8 12, .int .u8 18, .int .u8 0, .int .u32 7169, .int .u8 13, .int .u8 20, .int .u8 0, .int .u32 5633, .int .u8 29, .int .u8 21, .int .u8 0, .int .u32 22017, .int .u8 15, .int .u8 14, .int .u8 1, .int .u32 21505, .int .u8 16, .int .u8 14, .int .u8 0, .int .u32 20737, .int .u8 17, .int .u8 15, .int .u8 0, .int .u32 18433, .int .u8 18, .int .u8 16, .int .u8 0, .int .u32 14337, .int .u8 19, .int .u8 17, .int .u8 0, .int .u32 13313, .int .u8 20, .int .u8 18, .int .u8 0, .int .u32 12289, .int .u8 21, .int .u8 19, .int .u8 0, .int .u32 10241, .int .u8 22, .int .u8 19, .int .u8 0, .int .u32 9217, .int .u8 23, .int .u8 20, .int .u8 0, .int .u32 8705, .int .u8 24, .int .u8 21, .int .u8 0, .int .u32 7169, .int .u8 25, .int .u8 22, .int .u8 0, .int .u32 6145, .int .u8 26, .int .u8 23, .int .u8 0, .int .u32 5633, .int .u8 27, .int .u8 24, .int .u8 0, .int .u32 5121, .int .u8 28, .int .u8 25, .int .u8 0, .int .u32 4609, .int .u8 29, .int .u8 26, .int .u8 0, .int .u32 4353, .int .u8 30, .int .u8 27, .int .u8 0, .int .u32 2753, .int .u8 31, .int .u8 28, .int .u8 0, .int .u32 2497, .int .u8 32, .int .u8 29, .int .u8 0, .int .u32 2209, .int .u8 33, .int .u8 30, .int .u8 0, .int .u32 1313, .int .u8 34, .int .u8 31, .int .u8 0, .int .u32 1089, .int .u8 35, .int .u8 32, .int .u8 0, .int .u32 673, .int .u8 36, .int .u8 33, .int .u8 0, .int .u32 545, .int .u8 37, .int .u8 34, .int .u8 0, .int .u32 321, .int .u8 38, .int .u8 35, .int .u8 0, .int .u32 273, .int .u8 39, .int .u8 36, .int .u8 0, .int .u32 133, .int .u8 40, .int .u8 37, .int .u8 0, .int .u32 73, .int .u8 41, .int .u8 38, .int .u8 0, .int .u32 37, .int .u8 42, .int .u8 39, .int .u8 0, .int .u32 21, .int .u8 43, .int .u8 40, .int .u8 0, .int .u32 9, .int .u8 44, .int .u8 41, .int .u8 0, .int .u32 5, .int .u8 45, .int .u8 42, .int .u8 0, .int .u32 1, .int .u8 45, .int .u8 43, .int .u8 0, .int .u32 22017, .int .u8 46, .int .u8 46, .int .u8 0] fun h_3 =>
ldAll h_3 (⟨r_1, 0, none⟩ : Addr) 188 fun cs_4 =>
K (.agg (cs_4).toArray) h_3

/- (*burin/arith.Coder).Put -/
set_option maxRecDepth 100000 in
def arith_Coder_Put (C : CallP) (a0 : Option Addr) (a1 : Int) (a2 : Int) (h : Heap) (K : Value → Heap → Prop) (Kp : List PanicEntry → Heap → Prop) : Prop :=
∃ K_1 : List Value → Heap → Prop, (
ptr a0 fun a_4 =>
ldB h (a_4.add 194) fun x_5 =>
bcase x_5 (
K (.int .i64 43) h) <|
bcase (a2 != (0 : Int)) (
bcase (a2 != (1 : Int)) (
K (.int .i64 42) h) <|
ptr a0 fun a_6 =>
ldI h ((a_6.add 0).add 189) .i64 fun x_7 =>
bcase (decide (x_7 ≥ (16777216 : Int))) (
K (.int .i64 41) h) <|
K_1 [] h) <|
ptr a0 fun a_8 =>
ldI h ((a_8.add 0).add 189) .i64 fun x_9 =>
bcase (decide (x_9 ≥ (16777216 : Int))) (
K (.int .i64 41) h) <|
K_1 [] h) ∧ ∀ (h_2 : Heap) (u_3 : Nat → Value) , K_1 [] h_2 → (
ptr a0 fun a_10 =>
ldI h_2 ((a_10.add 0).add 189) .i64 fun x_11 =>
bindI (IntKind.i64.wrap (x_11 + (1 : Int))) fun z_12 =>
ptr a0 fun a_13 =>
stV h_2 ((a_13.add 0).add 189) (.int .i64 z_12) fun h_14 =>
ptr a0 fun a_15 =>
C F_arith_table_at #[.pointer (some (a_15.add 0)), .int .i64 a1] h_14 (fun v_16 h_17 =>
∃ (r_18 : Option Addr), ∃ (r_19 : Int) (r_20 : Int) (r_21 : Int) (r_22 : Int), v_16 = .tuple #[.pointer r_18, .agg #[.int .u32 r_19, .int .u8 r_20, .int .u8 r_21, .int .u8 r_22]] ∧ (
newC h_17 [.int .u32 0, .int .u8 0, .int .u8 0, .int .u8 0] T_arith_row fun r_23 h_24 =>
stV h_24 ((⟨r_23, 0, none⟩ : Addr).add 0) (.int .u32 r_19) fun h_25 =>
stV h_25 ((⟨r_23, 0, none⟩ : Addr).add 1) (.int .u8 r_20) fun h_26 =>
stV h_26 ((⟨r_23, 0, none⟩ : Addr).add 2) (.int .u8 r_21) fun h_27 =>
stV h_27 ((⟨r_23, 0, none⟩ : Addr).add 3) (.int .u8 r_22) fun h_28 =>
ptr a0 fun a_29 =>
ldI h_28 (a_29.add 190) .u32 fun x_30 =>
ldI h_28 ((⟨r_23, 0, none⟩ : Addr).add 0) .u32 fun x_31 =>
bindI (IntKind.u32.wrap (x_30 - x_31)) fun z_32 =>
ptr a0 fun a_33 =>
stV h_28 (a_33.add 190) (.int .u32 z_32) fun h_34 =>
ptr r_18 fun a_35 =>
ldI h_34 a_35 .u8 fun x_36 =>
bindI (bitI .and .u8 x_36 (1 : Int)) fun z_37 =>
bindI (IntKind.i64.wrap z_37) fun z_38 =>
bcase (a2 == z_38) (
ptr a0 fun a_39 =>
ldI h_34 (a_39.add 190) .u32 fun x_40 =>
bcase (decide (x_40 ≥ (32768 : Int))) (
ptr a0 fun a_41 =>
ldI h_34 (a_41.add 191) .u32 fun x_42 =>
ldI h_34 ((⟨r_23, 0, none⟩ : Addr).add 0) .u32 fun x_43 =>
bindI (IntKind.u32.wrap (x_42 + x_43)) fun z_44 =>
ptr a0 fun a_45 =>
stV h_34 (a_45.add 191) (.int .u32 z_44) fun h_46 =>
K (.int .i64 0) h_46) <|
ptr a0 fun a_47 =>
ldI h_34 (a_47.add 190) .u32 fun x_48 =>
ldI h_34 ((⟨r_23, 0, none⟩ : Addr).add 0) .u32 fun x_49 =>
bcase (decide (x_48 < x_49)) (
ldI h_34 ((⟨r_23, 0, none⟩ : Addr).add 0) .u32 fun x_50 =>
ptr a0 fun a_51 =>
stV h_34 (a_51.add 190) (.int .u32 x_50) fun h_52 =>
ldI h_52 ((⟨r_23, 0, none⟩ : Addr).add 0) .u32 fun x_53 =>
ldI h_52 ((⟨r_23, 0, none⟩ : Addr).add 1) .u8 fun x_54 =>
ldI h_52 ((⟨r_23, 0, none⟩ : Addr).add 2) .u8 fun x_55 =>
ldI h_52 ((⟨r_23, 0, none⟩ : Addr).add 3) .u8 fun x_56 =>
C F_arith_likely #[.pointer r_18, .agg #[.int .u32 x_53, .int .u8 x_54, .int .u8 x_55, .int .u8 x_56]] h_52 (fun v_57 h_58 =>
C F_arith_Coder_renew #[.pointer a0] h_58 (fun v_59 h_60 =>
K (.int .i64 0) h_60) (Kp)) (Kp)) <|
ptr a0 fun a_61 =>
ldI h_34 (a_61.add 191) .u32 fun x_62 =>
ldI h_34 ((⟨r_23, 0, none⟩ : Addr).add 0) .u32 fun x_63 =>
bindI (IntKind.u32.wrap (x_62 + x_63)) fun z_64 =>
ptr a0 fun a_65 =>
stV h_34 (a_65.add 191) (.int .u32 z_64) fun h_66 =>
ldI h_66 ((⟨r_23, 0, none⟩ : Addr).add 0) .u32 fun x_67 =>
ldI h_66 ((⟨r_23, 0, none⟩ : Addr).add 1) .u8 fun x_68 =>
ldI h_66 ((⟨r_23, 0, none⟩ : Addr).add 2) .u8 fun x_69 =>
ldI h_66 ((⟨r_23, 0, none⟩ : Addr).add 3) .u8 fun x_70 =>
C F_arith_likely #[.pointer r_18, .agg #[.int .u32 x_67, .int .u8 x_68, .int .u8 x_69, .int .u8 x_70]] h_66 (fun v_71 h_72 =>
C F_arith_Coder_renew #[.pointer a0] h_72 (fun v_73 h_74 =>
K (.int .i64 0) h_74) (Kp)) (Kp)) <|
ptr a0 fun a_75 =>
ldI h_34 (a_75.add 190) .u32 fun x_76 =>
ldI h_34 ((⟨r_23, 0, none⟩ : Addr).add 0) .u32 fun x_77 =>
bcase (decide (x_76 < x_77)) (
ptr a0 fun a_78 =>
ldI h_34 (a_78.add 191) .u32 fun x_79 =>
ldI h_34 ((⟨r_23, 0, none⟩ : Addr).add 0) .u32 fun x_80 =>
bindI (IntKind.u32.wrap (x_79 + x_80)) fun z_81 =>
ptr a0 fun a_82 =>
stV h_34 (a_82.add 191) (.int .u32 z_81) fun h_83 =>
ldI h_83 ((⟨r_23, 0, none⟩ : Addr).add 0) .u32 fun x_84 =>
ldI h_83 ((⟨r_23, 0, none⟩ : Addr).add 1) .u8 fun x_85 =>
ldI h_83 ((⟨r_23, 0, none⟩ : Addr).add 2) .u8 fun x_86 =>
ldI h_83 ((⟨r_23, 0, none⟩ : Addr).add 3) .u8 fun x_87 =>
C F_arith_unlikely #[.pointer r_18, .agg #[.int .u32 x_84, .int .u8 x_85, .int .u8 x_86, .int .u8 x_87]] h_83 (fun v_88 h_89 =>
C F_arith_Coder_renew #[.pointer a0] h_89 (fun v_90 h_91 =>
K (.int .i64 0) h_91) (Kp)) (Kp)) <|
ldI h_34 ((⟨r_23, 0, none⟩ : Addr).add 0) .u32 fun x_92 =>
ptr a0 fun a_93 =>
stV h_34 (a_93.add 190) (.int .u32 x_92) fun h_94 =>
ldI h_94 ((⟨r_23, 0, none⟩ : Addr).add 0) .u32 fun x_95 =>
ldI h_94 ((⟨r_23, 0, none⟩ : Addr).add 1) .u8 fun x_96 =>
ldI h_94 ((⟨r_23, 0, none⟩ : Addr).add 2) .u8 fun x_97 =>
ldI h_94 ((⟨r_23, 0, none⟩ : Addr).add 3) .u8 fun x_98 =>
C F_arith_unlikely #[.pointer r_18, .agg #[.int .u32 x_95, .int .u8 x_96, .int .u8 x_97, .int .u8 x_98]] h_94 (fun v_99 h_100 =>
C F_arith_Coder_renew #[.pointer a0] h_100 (fun v_101 h_102 =>
K (.int .i64 0) h_102) (Kp)) (Kp))) (Kp))

/- (*burin/arith.table).at -/
set_option maxRecDepth 100000 in
def arith_table_at (C : CallP) (t : Option Addr) (context : Int) (h : Heap) (K : Value → Heap → Prop) (Kp : List PanicEntry → Heap → Prop) : Prop :=
newC h [.int .u32 0, .int .u8 0, .int .u8 0, .int .u8 0] T_arith_row fun r_1 h_2 =>
ptr t fun a_3 =>
ldS h_2 (a_3.add 188) fun x_4 x_4n x_4c =>
ptr t fun a_5 =>
needs (IntKind.i64 = IntKind.i64 ∧ (x_4n : Int) ≠ 0) <|
bindI (context.tmod (x_4n : Int)) fun z_6 =>
bindI (IntKind.i64.wrap (z_6 + (x_4n : Int))) fun z_7 =>
needs (IntKind.i64 = IntKind.i64 ∧ (x_4n : Int) ≠ 0) <|
bindI (z_7.tmod (x_4n : Int)) fun z_8 =>
ldS h_2 (a_5.add 188) fun x_9 x_9n x_9c =>
needs (0 ≤ z_8 ∧ z_8 < (x_9n : Int)) <|
ptr x_9 fun a_10 =>
ptr t fun a_11 =>
ldI h_2 (a_10.add (z_8.toNat * 1)) .u8 fun x_12 =>
bindI (shrI .u8 x_12 (1 : Int)) fun z_13 =>
needs (0 ≤ z_13 ∧ z_13 < ((47 : Nat) : Int)) <|
ldI h_2 (((a_11.add 0).add (z_13.toNat * 4)).add 0) .u32 fun x_14 =>
ldI h_2 (((a_11.add 0).add (z_13.toNat * 4)).add 1) .u8 fun x_15 =>
ldI h_2 (((a_11.add 0).add (z_13.toNat * 4)).add 2) .u8 fun x_16 =>
ldI h_2 (((a_11.add 0).add (z_13.toNat * 4)).add 3) .u8 fun x_17 =>
stV h_2 ((⟨r_1, 0, none⟩ : Addr).add 0) (.int .u32 x_14) fun h_18 =>
stV h_18 ((⟨r_1, 0, none⟩ : Addr).add 1) (.int .u8 x_15) fun h_19 =>
stV h_19 ((⟨r_1, 0, none⟩ : Addr).add 2) (.int .u8 x_16) fun h_20 =>
stV h_20 ((⟨r_1, 0, none⟩ : Addr).add 3) (.int .u8 x_17) fun h_21 =>
ldI h_21 ((⟨r_1, 0, none⟩ : Addr).add 0) .u32 fun r_22 =>
ldI h_21 ((⟨r_1, 0, none⟩ : Addr).add 1) .u8 fun r_23 =>
ldI h_21 ((⟨r_1, 0, none⟩ : Addr).add 2) .u8 fun r_24 =>
ldI h_21 ((⟨r_1, 0, none⟩ : Addr).add 3) .u8 fun r_25 =>
K (.tuple #[.pointer (some (a_10.add (z_8.toNat * 1))), .agg #[.int .u32 r_22, .int .u8 r_23, .int .u8 r_24, .int .u8 r_25]]) h_21

/- burin/arith.likely -/
set_option maxRecDepth 100000 in
def arith_likely (C : CallP) (s : Option Addr) (r_1 : Int) (r_2 : Int) (r_3 : Int) (r_4 : Int) (h : Heap) (K : Value → Heap → Prop) (Kp : List PanicEntry → Heap → Prop) : Prop :=
newC h [.int .u32 r_1, .int .u8 r_2, .int .u8 r_3, .int .u8 r_4] T_arith_row fun r_5 h_6 =>
ptr s fun a_7 =>
ldI h_6 ((⟨r_5, 0, none⟩ : Addr).add 1) .u8 fun x_8 =>
bindI (shlI .u8 x_8 (1 : Int)) fun z_9 =>
ldI h_6 a_7 .u8 fun x_10 =>
bindI (bitI .and .u8 x_10 (1 : Int)) fun z_11 =>
bindI (bitI .or .u8 z_9 z_11) fun z_12 =>
ptr s fun a_13 =>
stV h_6 a_13 (.int .u8 z_12) fun h_14 =>
K (.tuple #[]) h_14

/- burin/arith.unlikely -/
set_option maxRecDepth 100000 in
def arith_unlikely (C : CallP) (s : Option Addr) (r_1 : Int) (r_2 : Int) (r_3 : Int) (r_4 : Int) (h : Heap) (K : Value → Heap → Prop) (Kp : List PanicEntry → Heap → Prop) : Prop :=
newC h [.int .u32 r_1, .int .u8 r_2, .int .u8 r_3, .int .u8 r_4] T_arith_row fun r_5 h_6 =>
ptr s fun a_7 =>
ldI h_6 ((⟨r_5, 0, none⟩ : Addr).add 2) .u8 fun x_8 =>
bindI (shlI .u8 x_8 (1 : Int)) fun z_9 =>
ldI h_6 a_7 .u8 fun x_10 =>
bindI (bitI .and .u8 x_10 (1 : Int)) fun z_11 =>
bindI (bitI .or .u8 z_9 z_11) fun z_12 =>
ldI h_6 ((⟨r_5, 0, none⟩ : Addr).add 3) .u8 fun x_13 =>
bindI (bitI .xor .u8 z_12 x_13) fun z_14 =>
ptr s fun a_15 =>
stV h_6 a_15 (.int .u8 z_14) fun h_16 =>
K (.tuple #[]) h_16

/- (*burin/arith.Coder).renew -/
set_option maxRecDepth 100000 in
def arith_Coder_renew (C : CallP) (c : Option Addr) (h : Heap) (K : Value → Heap → Prop) (Kp : List PanicEntry → Heap → Prop) : Prop :=
∃ J_1 : Nat → List Value → Heap → Prop, (∃ n_3, J_1 n_3 [] h) ∧ ∀ (n_3 : Nat) (h_4 : Heap) (u_5 : Nat → Value) , J_1 n_3 [] h_4 → (
ptr c fun a_6 =>
ldI h_4 (a_6.add 190) .u32 fun x_7 =>
bindI (shlI .u32 x_7 (1 : Int)) fun z_8 =>
ptr c fun a_9 =>
stV h_4 (a_9.add 190) (.int .u32 z_8) fun h_10 =>
ptr c fun a_11 =>
ldI h_10 (a_11.add 191) .u32 fun x_12 =>
bindI (shlI .u32 x_12 (1 : Int)) fun z_13 =>
ptr c fun a_14 =>
stV h_10 (a_14.add 191) (.int .u32 z_13) fun h_15 =>
ptr c fun a_16 =>
ldI h_15 (a_16.add 192) .i64 fun x_17 =>
bindI (IntKind.i64.wrap (x_17 - (1 : Int))) fun z_18 =>
ptr c fun a_19 =>
stV h_15 (a_19.add 192) (.int .i64 z_18) fun h_20 =>
ptr c fun a_21 =>
ldI h_20 (a_21.add 192) .i64 fun x_22 =>
bcase (x_22 == (0 : Int)) (
C F_arith_Coder_out #[.pointer c] h_20 (fun v_23 h_24 =>
ptr c fun a_25 =>
ldI h_24 (a_25.add 190) .u32 fun x_26 =>
bcase (decide (x_26 ≥ (32768 : Int))) (
K (.tuple #[]) h_24) <|
∃ m_2, m_2 < n_3 ∧ J_1 m_2 [] h_24) (Kp)) <|
ptr c fun a_27 =>
ldI h_20 (a_27.add 190) .u32 fun x_28 =>
bcase (decide (x_28 ≥ (32768 : Int))) (
K (.tuple #[]) h_20) <|
∃ m_2, m_2 < n_3 ∧ J_1 m_2 [] h_20)

/- (*burin/arith.Decoder).Get -/
set_option maxRecDepth 100000 in
def arith_Decoder_Get (C : CallP) (a0 : Option Addr) (a1 : Int) (h : Heap) (K : Value → Heap → Prop) (Kp : List PanicEntry → Heap → Prop) : Prop :=
ptr a0 fun a_1 =>
ldI h ((a_1.add 0).add 189) .i64 fun x_2 =>
bcase (decide (x_2 ≥ (16777216 : Int))) (
K (.tuple #[.int .i64 0, .int .i64 41]) h) <|
ptr a0 fun a_3 =>
ldI h ((a_3.add 0).add 189) .i64 fun x_4 =>
bindI (IntKind.i64.wrap (x_4 + (1 : Int))) fun z_5 =>
ptr a0 fun a_6 =>
stV h ((a_6.add 0).add 189) (.int .i64 z_5) fun h_7 =>
ptr a0 fun a_8 =>
C F_arith_table_at #[.pointer (some (a_8.add 0)), .int .i64 a1] h_7 (fun v_9 h_10 =>
∃ (r_11 : Option Addr), ∃ (r_12 : Int) (r_13 : Int) (r_14 : Int) (r_15 : Int), v_9 = .tuple #[.pointer r_11, .agg #[.int .u32 r_12, .int .u8 r_13, .int .u8 r_14, .int .u8 r_15]] ∧ (
newC h_10 [.int .u32 0, .int .u8 0, .int .u8 0, .int .u8 0] T_arith_row fun r_16 h_17 =>
stV h_17 ((⟨r_16, 0, none⟩ : Addr).add 0) (.int .u32 r_12) fun h_18 =>
stV h_18 ((⟨r_16, 0, none⟩ : Addr).add 1) (.int .u8 r_13) fun h_19 =>
stV h_19 ((⟨r_16, 0, none⟩ : Addr).add 2) (.int .u8 r_14) fun h_20 =>
stV h_20 ((⟨r_16, 0, none⟩ : Addr).add 3) (.int .u8 r_15) fun h_21 =>
ptr r_11 fun a_22 =>
ldI h_21 a_22 .u8 fun x_23 =>
bindI (bitI .and .u8 x_23 (1 : Int)) fun z_24 =>
bindI (IntKind.i64.wrap z_24) fun z_25 =>
ptr a0 fun a_26 =>
ldI h_21 (a_26.add 190) .u32 fun x_27 =>
ldI h_21 ((⟨r_16, 0, none⟩ : Addr).add 0) .u32 fun x_28 =>
bindI (IntKind.u32.wrap (x_27 - x_28)) fun z_29 =>
ptr a0 fun a_30 =>
stV h_21 (a_30.add 190) (.int .u32 z_29) fun h_31 =>
ptr a0 fun a_32 =>
ldI h_31 (a_32.add 191) .u32 fun x_33 =>
bindI (shrI .u32 x_33 (16 : Int)) fun z_34 =>
ldI h_31 ((⟨r_16, 0, none⟩ : Addr).add 0) .u32 fun x_35 =>
∃ K_36 : List Value → Heap → Prop, (
bcase (!(decide (z_34 < x_35))) (
ptr a0 fun a_39 =>
ldI h_31 (a_39.add 191) .u32 fun x_40 =>
ldI h_31 ((⟨r_16, 0, none⟩ : Addr).add 0) .u32 fun x_41 =>
bindI (shlI .u32 x_41 (16 : Int)) fun z_42 =>
bindI (IntKind.u32.wrap (x_40 - z_42)) fun z_43 =>
ptr a0 fun a_44 =>
stV h_31 (a_44.add 191) (.int .u32 z_43) fun h_45 =>
ptr a0 fun a_46 =>
ldI h_45 (a_46.add 190) .u32 fun x_47 =>
bcase (decide (x_47 ≥ (32768 : Int))) (
K (.tuple #[.int .i64 z_25, .int .i64 0]) h_45) <|
K_36 [] h_45) <|
K_36 [] h_31) ∧ ∀ (h_37 : Heap) (u_38 : Nat → Value) , K_36 [] h_37 → (
∃ K_48 : List Value → Heap → Prop, (
ptr a0 fun a_51 =>
ldI h_37 (a_51.add 190) .u32 fun x_52 =>
ldI h_37 ((⟨r_16, 0, none⟩ : Addr).add 0) .u32 fun x_53 =>
bcase ((decide (z_34 < x_35)) == (decide (x_52 < x_53))) (
ldI h_37 ((⟨r_16, 0, none⟩ : Addr).add 0) .u32 fun x_54 =>
ldI h_37 ((⟨r_16, 0, none⟩ : Addr).add 1) .u8 fun x_55 =>
ldI h_37 ((⟨r_16, 0, none⟩ : Addr).add 2) .u8 fun x_56 =>
ldI h_37 ((⟨r_16, 0, none⟩ : Addr).add 3) .u8 fun x_57 =>
C F_arith_likely #[.pointer r_11, .agg #[.int .u32 x_54, .int .u8 x_55, .int .u8 x_56, .int .u8 x_57]] h_37 (fun v_58 h_59 =>
K_48 [.int .i64 z_25] h_59) (Kp)) <|
bindI (bitI .xor .i64 z_25 (1 : Int)) fun z_60 =>
ldI h_37 ((⟨r_16, 0, none⟩ : Addr).add 0) .u32 fun x_61 =>
ldI h_37 ((⟨r_16, 0, none⟩ : Addr).add 1) .u8 fun x_62 =>
ldI h_37 ((⟨r_16, 0, none⟩ : Addr).add 2) .u8 fun x_63 =>
ldI h_37 ((⟨r_16, 0, none⟩ : Addr).add 3) .u8 fun x_64 =>
C F_arith_unlikely #[.pointer r_11, .agg #[.int .u32 x_61, .int .u8 x_62, .int .u8 x_63, .int .u8 x_64]] h_37 (fun v_65 h_66 =>
K_48 [.int .i64 z_60] h_66) (Kp)) ∧ ∀ (h_49 : Heap) (u_50 : Nat → Value) (x_67 : Int), K_48 [.int .i64 x_67] h_49 → (
bcase (decide (z_34 < x_35)) (
ldI h_49 ((⟨r_16, 0, none⟩ : Addr).add 0) .u32 fun x_68 =>
ptr a0 fun a_69 =>
stV h_49 (a_69.add 190) (.int .u32 x_68) fun h_70 =>
C F_arith_Decoder_renew #[.pointer a0] h_70 (fun v_71 h_72 =>
K (.tuple #[.int .i64 x_67, .int .i64 0]) h_72) (Kp)) <|
C F_arith_Decoder_renew #[.pointer a0] h_49 (fun v_73 h_74 =>
K (.tuple #[.int .i64 x_67, .int .i64 0]) h_74) (Kp))))) (Kp)

/- (*burin/arith.Decoder).renew -/
set_option maxRecDepth 100000 in
def arith_Decoder_renew (C : CallP) (d : Option Addr) (h : Heap) (K : Value → Heap → Prop) (Kp : List PanicEntry → Heap → Prop) : Prop :=
∃ J_1 : Nat → List Value → Heap → Prop, (∃ n_3, J_1 n_3 [] h) ∧ ∀ (n_3 : Nat) (h_4 : Heap) (u_5 : Nat → Value) , J_1 n_3 [] h_4 → (
∃ K_6 : List Value → Heap → Prop, (
ptr d fun a_9 =>
ldI h_4 (a_9.add 192) .i64 fun x_10 =>
bcase (x_10 == (0 : Int)) (
C F_arith_Decoder_in #[.pointer d] h_4 (fun v_11 h_12 =>
K_6 [] h_12) (Kp)) <|
K_6 [] h_4) ∧ ∀ (h_7 : Heap) (u_8 : Nat → Value) , K_6 [] h_7 → (
ptr d fun a_13 =>
ldI h_7 (a_13.add 190) .u32 fun x_14 =>
bindI (shlI .u32 x_14 (1 : Int)) fun z_15 =>
ptr d fun a_16 =>
stV h_7 (a_16.add 190) (.int .u32 z_15) fun h_17 =>
ptr d fun a_18 =>
ldI h_17 (a_18.add 191) .u32 fun x_19 =>
bindI (shlI .u32 x_19 (1 : Int)) fun z_20 =>
ptr d fun a_21 =>
stV h_17 (a_21.add 191) (.int .u32 z_20) fun h_22 =>
ptr d fun a_23 =>
ldI h_22 (a_23.add 192) .i64 fun x_24 =>
bindI (IntKind.i64.wrap (x_24 - (1 : Int))) fun z_25 =>
ptr d fun a_26 =>
stV h_22 (a_26.add 192) (.int .i64 z_25) fun h_27 =>
ptr d fun a_28 =>
ldI h_27 (a_28.add 190) .u32 fun x_29 =>
bcase (decide (x_29 ≥ (32768 : Int))) (
K (.tuple #[]) h_27) <|
∃ m_2, m_2 < n_3 ∧ J_1 m_2 [] h_27))

end Go.Den.YtfaclehehhgpcaaGreat

/- Written by gen.py: each condition of the functions of arith is the one of its body; so it is enough for its call. -/
set_option linter.unusedVariables false
set_option linter.unusedSimpArgs false
namespace Go.Den.YtfaclehehhgpcaaGreat
open Go Go.Den

noncomputable def hints_arith_New : Hints := Hints.mk (fun i => none)
  (fun i => none)
  (fun i => none) []
set_option maxRecDepth 100000 in
theorem eq_arith_New (C : CallP) (contexts : Int) (h : Heap) (K : Value → Heap → Prop) (Kp : List PanicEntry → Heap → Prop) :
    fnD Go.Proofs.Tryz.prog C hints_arith_New Go.Proofs.Tryz.f89 [.int .i64 contexts] h K Kp = arith_New C contexts h K Kp := by kernel_rfl

theorem call_arith_New {contexts : Int} {h : Heap} {K : Value → Heap → Prop} {Kp : List PanicEntry → Heap → Prop} (H : arith_New (CallsHP Go.Proofs.Tryz.prog) contexts h K Kp) : CallsHP Go.Proofs.Tryz.prog F_arith_New #[.int .i64 contexts] h K Kp :=
  callsHP_of hints_arith_New (by kernel_rfl) Go.Proofs.Tryz.func89 (by kernel_rfl) (by rw [eq_arith_New]; exact H)

noncomputable def hints_arith_Coder_Flush : Hints := Hints.mk (fun i => bif Nat.beq i 4 then some ([], .take 0 <| .take 1 <| .take 2 <| .take 4 <| .take 5 <| .take 6 <| .take 3 <| .take 7 <| .take 8 <| .take 9 <| .done) else (bif Nat.beq i 10 then some ([11], .take 0 <| .take 1 <| .take 2 <| .take 4 <| .take 5 <| .take 6 <| .take 3 <| .take 7 <| .take 8 <| .take 9 <| .take 10 <| .bar 11 [] <| .done) else (none)))
  (fun i => bif Nat.beq i 9 then some ([(42, .int .i64)], 288225978105200640) else (none))
  (fun i => bif Nat.beq i 8 then some ([], 4398042316800) else (none)) []
set_option maxRecDepth 100000 in
theorem eq_arith_Coder_Flush (C : CallP) (a0 : Option Addr) (h : Heap) (K : Value → Heap → Prop) (Kp : List PanicEntry → Heap → Prop) :
    fnD Go.Proofs.Tryz.prog C hints_arith_Coder_Flush Go.Proofs.Tryz.f92 [.pointer a0] h K Kp = arith_Coder_Flush C a0 h K Kp := by kernel_rfl

theorem call_arith_Coder_Flush {a0 : Option Addr} {h : Heap} {K : Value → Heap → Prop} {Kp : List PanicEntry → Heap → Prop} (H : arith_Coder_Flush (CallsHP Go.Proofs.Tryz.prog) a0 h K Kp) : CallsHP Go.Proofs.Tryz.prog F_arith_Coder_Flush #[.pointer a0] h K Kp :=
  callsHP_of hints_arith_Coder_Flush (by kernel_rfl) Go.Proofs.Tryz.func92 (by kernel_rfl) (by rw [eq_arith_Coder_Flush]; exact H)

noncomputable def hints_arith_NewDecoder : Hints := Hints.mk (fun i => bif Nat.beq i 4 then some ([4], .take 1 <| .take 0 <| .go 2 <| .take 3 <| .bar 4 [] <| .take 5 <| .done) else (none))
  (fun i => none)
  (fun i => none) []
set_option maxRecDepth 100000 in
theorem eq_arith_NewDecoder (C : CallP) (b : Option Addr) (bn : Nat) (bc : Nat) (contexts : Int) (h : Heap) (K : Value → Heap → Prop) (Kp : List PanicEntry → Heap → Prop) :
    fnD Go.Proofs.Tryz.prog C hints_arith_NewDecoder Go.Proofs.Tryz.f110 [.slice b bn bc, .int .i64 contexts] h K Kp = arith_NewDecoder C b bn bc contexts h K Kp := by kernel_rfl

theorem call_arith_NewDecoder {b : Option Addr} {bn : Nat} {bc : Nat} {contexts : Int} {h : Heap} {K : Value → Heap → Prop} {Kp : List PanicEntry → Heap → Prop} (H : arith_NewDecoder (CallsHP Go.Proofs.Tryz.prog) b bn bc contexts h K Kp) : CallsHP Go.Proofs.Tryz.prog F_arith_NewDecoder #[.slice b bn bc, .int .i64 contexts] h K Kp :=
  callsHP_of hints_arith_NewDecoder (by kernel_rfl) Go.Proofs.Tryz.func110 (by kernel_rfl) (by rw [eq_arith_NewDecoder]; exact H)

noncomputable def hints_arith_made : Hints := Hints.mk (fun i => bif Nat.beq i 3 then some ([4], .take 1 <| .alt 0 (.go 2 <| .take 3 <| .bar 4 [] <| .take 5 <| .done) <| .go 2 <| .go 0 <| .take 3 <| .bar 4 [] <| .take 5 <| .done) else (none))
  (fun i => none)
  (fun i => none) []
set_option maxRecDepth 100000 in
theorem eq_arith_made (C : CallP) (contexts : Int) (h : Heap) (K : Value → Heap → Prop) (Kp : List PanicEntry → Heap → Prop) :
    fnD Go.Proofs.Tryz.prog C hints_arith_made Go.Proofs.Tryz.f141 [.int .i64 contexts] h K Kp = arith_made C contexts h K Kp := by kernel_rfl

theorem call_arith_made {contexts : Int} {h : Heap} {K : Value → Heap → Prop} {Kp : List PanicEntry → Heap → Prop} (H : arith_made (CallsHP Go.Proofs.Tryz.prog) contexts h K Kp) : CallsHP Go.Proofs.Tryz.prog F_arith_made #[.int .i64 contexts] h K Kp :=
  callsHP_of hints_arith_made (by kernel_rfl) Go.Proofs.Tryz.func141 (by kernel_rfl) (by rw [eq_arith_made]; exact H)

noncomputable def hints_arith_Coder_out : Hints := Hints.mk (fun i => bif Nat.beq i 0 then some ([], .take 0 <| .take 1 <| .take 2 <| .take 4 <| .take 5 <| .take 6 <| .take 3 <| .take 7 <| .take 8 <| .take 9 <| .take 10 <| .take 11 <| .done) else (bif Nat.beq i 7 then some ([13, 16], .take 0 <| .take 1 <| .take 2 <| .take 3 <| .take 5 <| .take 6 <| .take 7 <| .take 9 <| .take 4 <| .take 8 <| .take 10 <| .take 11 <| .go 12 <| .bar 13 [16] <| .take 14 <| .take 15 <| .bar 16 [] <| .done) else (bif Nat.beq i 8 then some ([10], .take 0 <| .take 1 <| .take 2 <| .take 4 <| .take 5 <| .take 6 <| .take 3 <| .take 7 <| .take 8 <| .take 9 <| .bar 10 [] <| .done) else (none))))
  (fun i => none)
  (fun i => bif Nat.beq i 2 then some ([(25, .bool)], 67076096) else (bif Nat.beq i 4 then some ([], 274877874176) else (bif Nat.beq i 7 then some ([(3, .int .i64)], 34909494181896) else (none)))) []
set_option maxRecDepth 100000 in
theorem eq_arith_Coder_out (C : CallP) (a0 : Option Addr) (h : Heap) (K : Value → Heap → Prop) (Kp : List PanicEntry → Heap → Prop) :
    fnD Go.Proofs.Tryz.prog C hints_arith_Coder_out Go.Proofs.Tryz.f145 [.pointer a0] h K Kp = arith_Coder_out C a0 h K Kp := by kernel_rfl

theorem call_arith_Coder_out {a0 : Option Addr} {h : Heap} {K : Value → Heap → Prop} {Kp : List PanicEntry → Heap → Prop} (H : arith_Coder_out (CallsHP Go.Proofs.Tryz.prog) a0 h K Kp) : CallsHP Go.Proofs.Tryz.prog F_arith_Coder_out #[.pointer a0] h K Kp :=
  callsHP_of hints_arith_Coder_out (by kernel_rfl) Go.Proofs.Tryz.func145 (by kernel_rfl) (by rw [eq_arith_Coder_out]; exact H)

noncomputable def hints_arith_Decoder_byte : Hints := Hints.mk (fun i => none)
  (fun i => none)
  (fun i => none) []
set_option maxRecDepth 100000 in
theorem eq_arith_Decoder_byte (C : CallP) (d : Option Addr) (i : Int) (h : Heap) (K : Value → Heap → Prop) (Kp : List PanicEntry → Heap → Prop) :
    fnD Go.Proofs.Tryz.prog C hints_arith_Decoder_byte Go.Proofs.Tryz.f162 [.pointer d, .int .i64 i] h K Kp = arith_Decoder_byte C d i h K Kp := by kernel_rfl

theorem call_arith_Decoder_byte {d : Option Addr} {i : Int} {h : Heap} {K : Value → Heap → Prop} {Kp : List PanicEntry → Heap → Prop} (H : arith_Decoder_byte (CallsHP Go.Proofs.Tryz.prog) d i h K Kp) : CallsHP Go.Proofs.Tryz.prog F_arith_Decoder_byte #[.pointer d, .int .i64 i] h K Kp :=
  callsHP_of hints_arith_Decoder_byte (by kernel_rfl) Go.Proofs.Tryz.func162 (by kernel_rfl) (by rw [eq_arith_Decoder_byte]; exact H)

noncomputable def hints_arith_Decoder_in : Hints := Hints.mk (fun i => bif Nat.beq i 1 then some ([14], .take 0 <| .take 1 <| .take 2 <| .take 4 <| .take 5 <| .take 6 <| .take 7 <| .take 3 <| .take 8 <| .go 9 <| .take 10 <| .take 11 <| .take 12 <| .take 13 <| .bar 14 [] <| .done) else (bif Nat.beq i 5 then some ([14], .take 0 <| .take 1 <| .take 2 <| .take 4 <| .take 5 <| .take 6 <| .take 7 <| .take 3 <| .take 8 <| .go 9 <| .take 10 <| .take 11 <| .take 12 <| .take 13 <| .bar 14 [] <| .done) else (none)))
  (fun i => none)
  (fun i => none) []
set_option maxRecDepth 100000 in
theorem eq_arith_Decoder_in (C : CallP) (a0 : Option Addr) (h : Heap) (K : Value → Heap → Prop) (Kp : List PanicEntry → Heap → Prop) :
    fnD Go.Proofs.Tryz.prog C hints_arith_Decoder_in Go.Proofs.Tryz.f163 [.pointer a0] h K Kp = arith_Decoder_in C a0 h K Kp := by kernel_rfl

theorem call_arith_Decoder_in {a0 : Option Addr} {h : Heap} {K : Value → Heap → Prop} {Kp : List PanicEntry → Heap → Prop} (H : arith_Decoder_in (CallsHP Go.Proofs.Tryz.prog) a0 h K Kp) : CallsHP Go.Proofs.Tryz.prog F_arith_Decoder_in #[.pointer a0] h K Kp :=
  callsHP_of hints_arith_Decoder_in (by kernel_rfl) Go.Proofs.Tryz.func163 (by kernel_rfl) (by rw [eq_arith_Decoder_in]; exact H)

noncomputable def hints_arith_table_Contexts : Hints := Hints.mk (fun i => none)
  (fun i => none)
  (fun i => none) []
set_option maxRecDepth 100000 in
theorem eq_arith_table_Contexts (C : CallP) (t : Option Addr) (h : Heap) (K : Value → Heap → Prop) (Kp : List PanicEntry → Heap → Prop) :
    fnD Go.Proofs.Tryz.prog C hints_arith_table_Contexts Go.Proofs.Tryz.f170 [.pointer t] h K Kp = arith_table_Contexts C t h K Kp := by kernel_rfl

theorem call_arith_table_Contexts {t : Option Addr} {h : Heap} {K : Value → Heap → Prop} {Kp : List PanicEntry → Heap → Prop} (H : arith_table_Contexts (CallsHP Go.Proofs.Tryz.prog) t h K Kp) : CallsHP Go.Proofs.Tryz.prog F_arith_table_Contexts #[.pointer t] h K Kp :=
  callsHP_of hints_arith_table_Contexts (by kernel_rfl) Go.Proofs.Tryz.func170 (by kernel_rfl) (by rw [eq_arith_table_Contexts]; exact H)

noncomputable def hints_arith_rows : Hints := Hints.mk (fun i => none)
  (fun i => none)
  (fun i => none) []
set_option maxRecDepth 100000 in
theorem eq_arith_rows (C : CallP)  (h : Heap) (K : Value → Heap → Prop) (Kp : List PanicEntry → Heap → Prop) :
    fnD Go.Proofs.Tryz.prog C hints_arith_rows Go.Proofs.Tryz.f182 [] h K Kp = arith_rows C  h K Kp := by kernel_rfl

theorem call_arith_rows  {h : Heap} {K : Value → Heap → Prop} {Kp : List PanicEntry → Heap → Prop} (H : arith_rows (CallsHP Go.Proofs.Tryz.prog)  h K Kp) : CallsHP Go.Proofs.Tryz.prog F_arith_rows #[] h K Kp :=
  callsHP_of hints_arith_rows (by kernel_rfl) Go.Proofs.Tryz.func182 (by kernel_rfl) (by rw [eq_arith_rows]; exact H)

noncomputable def hints_arith_Coder_Put : Hints := Hints.mk (fun i => bif Nat.beq i 9 then some ([9], .take 0 <| .take 1 <| .take 2 <| .take 4 <| .take 3 <| .take 5 <| .take 6 <| .take 7 <| .take 8 <| .bar 9 [] <| .done) else (bif Nat.beq i 12 then some ([9], .take 0 <| .take 1 <| .take 2 <| .take 4 <| .take 3 <| .take 5 <| .take 6 <| .take 7 <| .take 8 <| .bar 9 [] <| .done) else (bif Nat.beq i 14 then some ([], .take 0 <| .take 1 <| .take 2 <| .take 4 <| .take 3 <| .take 5 <| .take 6 <| .done) else (bif Nat.beq i 16 then some ([9], .take 0 <| .take 1 <| .take 2 <| .take 4 <| .take 3 <| .take 5 <| .take 6 <| .take 7 <| .take 8 <| .bar 9 [] <| .done) else (bif Nat.beq i 18 then some ([], .take 0 <| .take 1 <| .take 2 <| .take 4 <| .take 3 <| .take 5 <| .take 6 <| .done) else (bif Nat.beq i 19 then some ([9], .take 0 <| .take 1 <| .take 2 <| .take 4 <| .take 3 <| .take 5 <| .take 6 <| .take 7 <| .take 8 <| .bar 9 [] <| .done) else (none)))))))
  (fun i => none)
  (fun i => bif Nat.beq i 7 then some ([], 268435008) else (none)) []
set_option maxRecDepth 100000 in
theorem eq_arith_Coder_Put (C : CallP) (a0 : Option Addr) (a1 : Int) (a2 : Int) (h : Heap) (K : Value → Heap → Prop) (Kp : List PanicEntry → Heap → Prop) :
    fnD Go.Proofs.Tryz.prog C hints_arith_Coder_Put Go.Proofs.Tryz.f187 [.pointer a0, .int .i64 a1, .int .i64 a2] h K Kp = arith_Coder_Put C a0 a1 a2 h K Kp := by kernel_rfl

theorem call_arith_Coder_Put {a0 : Option Addr} {a1 : Int} {a2 : Int} {h : Heap} {K : Value → Heap → Prop} {Kp : List PanicEntry → Heap → Prop} (H : arith_Coder_Put (CallsHP Go.Proofs.Tryz.prog) a0 a1 a2 h K Kp) : CallsHP Go.Proofs.Tryz.prog F_arith_Coder_Put #[.pointer a0, .int .i64 a1, .int .i64 a2] h K Kp :=
  callsHP_of hints_arith_Coder_Put (by kernel_rfl) Go.Proofs.Tryz.func187 (by kernel_rfl) (by rw [eq_arith_Coder_Put]; exact H)

noncomputable def hints_arith_table_at : Hints := Hints.mk (fun i => bif Nat.beq i 2 then some ([], .take 0 <| .take 1 <| .take 2 <| .take 4 <| .take 5 <| .take 6 <| .take 7 <| .take 8 <| .take 9 <| .take 10 <| .take 3 <| .take 11 <| .take 12 <| .done) else (bif Nat.beq i 3 then some ([11], .take 0 <| .take 1 <| .take 2 <| .take 3 <| .take 6 <| .take 7 <| .take 10 <| .take 4 <| .take 5 <| .take 8 <| .take 9 <| .bar 11 [] <| .done) else (none)))
  (fun i => none)
  (fun i => none) []
set_option maxRecDepth 100000 in
theorem eq_arith_table_at (C : CallP) (t : Option Addr) (context : Int) (h : Heap) (K : Value → Heap → Prop) (Kp : List PanicEntry → Heap → Prop) :
    fnD Go.Proofs.Tryz.prog C hints_arith_table_at Go.Proofs.Tryz.f210 [.pointer t, .int .i64 context] h K Kp = arith_table_at C t context h K Kp := by kernel_rfl

theorem call_arith_table_at {t : Option Addr} {context : Int} {h : Heap} {K : Value → Heap → Prop} {Kp : List PanicEntry → Heap → Prop} (H : arith_table_at (CallsHP Go.Proofs.Tryz.prog) t context h K Kp) : CallsHP Go.Proofs.Tryz.prog F_arith_table_at #[.pointer t, .int .i64 context] h K Kp :=
  callsHP_of hints_arith_table_at (by kernel_rfl) Go.Proofs.Tryz.func210 (by kernel_rfl) (by rw [eq_arith_table_at]; exact H)

noncomputable def hints_arith_likely : Hints := Hints.mk (fun i => bif Nat.beq i 1 then some ([10], .take 0 <| .take 1 <| .take 4 <| .take 5 <| .take 2 <| .take 3 <| .take 6 <| .take 7 <| .take 8 <| .take 9 <| .bar 10 [] <| .done) else (none))
  (fun i => none)
  (fun i => none) []
set_option maxRecDepth 100000 in
theorem eq_arith_likely (C : CallP) (s : Option Addr) (r_1 : Int) (r_2 : Int) (r_3 : Int) (r_4 : Int) (h : Heap) (K : Value → Heap → Prop) (Kp : List PanicEntry → Heap → Prop) :
    fnD Go.Proofs.Tryz.prog C hints_arith_likely Go.Proofs.Tryz.f211 [.pointer s, .agg #[.int .u32 r_1, .int .u8 r_2, .int .u8 r_3, .int .u8 r_4]] h K Kp = arith_likely C s r_1 r_2 r_3 r_4 h K Kp := by kernel_rfl

theorem call_arith_likely {s : Option Addr} {r_1 : Int} {r_2 : Int} {r_3 : Int} {r_4 : Int} {h : Heap} {K : Value → Heap → Prop} {Kp : List PanicEntry → Heap → Prop} (H : arith_likely (CallsHP Go.Proofs.Tryz.prog) s r_1 r_2 r_3 r_4 h K Kp) : CallsHP Go.Proofs.Tryz.prog F_arith_likely #[.pointer s, .agg #[.int .u32 r_1, .int .u8 r_2, .int .u8 r_3, .int .u8 r_4]] h K Kp :=
  callsHP_of hints_arith_likely (by kernel_rfl) Go.Proofs.Tryz.func211 (by kernel_rfl) (by rw [eq_arith_likely]; exact H)

noncomputable def hints_arith_unlikely : Hints := Hints.mk (fun i => bif Nat.beq i 1 then some ([13], .take 0 <| .take 1 <| .take 4 <| .take 5 <| .take 9 <| .take 2 <| .take 3 <| .take 6 <| .take 7 <| .take 8 <| .take 10 <| .take 11 <| .take 12 <| .bar 13 [] <| .done) else (none))
  (fun i => none)
  (fun i => none) []
set_option maxRecDepth 100000 in
theorem eq_arith_unlikely (C : CallP) (s : Option Addr) (r_1 : Int) (r_2 : Int) (r_3 : Int) (r_4 : Int) (h : Heap) (K : Value → Heap → Prop) (Kp : List PanicEntry → Heap → Prop) :
    fnD Go.Proofs.Tryz.prog C hints_arith_unlikely Go.Proofs.Tryz.f212 [.pointer s, .agg #[.int .u32 r_1, .int .u8 r_2, .int .u8 r_3, .int .u8 r_4]] h K Kp = arith_unlikely C s r_1 r_2 r_3 r_4 h K Kp := by kernel_rfl

theorem call_arith_unlikely {s : Option Addr} {r_1 : Int} {r_2 : Int} {r_3 : Int} {r_4 : Int} {h : Heap} {K : Value → Heap → Prop} {Kp : List PanicEntry → Heap → Prop} (H : arith_unlikely (CallsHP Go.Proofs.Tryz.prog) s r_1 r_2 r_3 r_4 h K Kp) : CallsHP Go.Proofs.Tryz.prog F_arith_unlikely #[.pointer s, .agg #[.int .u32 r_1, .int .u8 r_2, .int .u8 r_3, .int .u8 r_4]] h K Kp :=
  callsHP_of hints_arith_unlikely (by kernel_rfl) Go.Proofs.Tryz.func212 (by kernel_rfl) (by rw [eq_arith_unlikely]; exact H)

noncomputable def hints_arith_Coder_renew : Hints := Hints.mk (fun i => none)
  (fun i => bif Nat.beq i 0 then some ([], 34359738364) else (none))
  (fun i => none) []
set_option maxRecDepth 100000 in
theorem eq_arith_Coder_renew (C : CallP) (c : Option Addr) (h : Heap) (K : Value → Heap → Prop) (Kp : List PanicEntry → Heap → Prop) :
    fnD Go.Proofs.Tryz.prog C hints_arith_Coder_renew Go.Proofs.Tryz.f213 [.pointer c] h K Kp = arith_Coder_renew C c h K Kp := by kernel_rfl

theorem call_arith_Coder_renew {c : Option Addr} {h : Heap} {K : Value → Heap → Prop} {Kp : List PanicEntry → Heap → Prop} (H : arith_Coder_renew (CallsHP Go.Proofs.Tryz.prog) c h K Kp) : CallsHP Go.Proofs.Tryz.prog F_arith_Coder_renew #[.pointer c] h K Kp :=
  callsHP_of hints_arith_Coder_renew (by kernel_rfl) Go.Proofs.Tryz.func213 (by kernel_rfl) (by rw [eq_arith_Coder_renew]; exact H)

noncomputable def hints_arith_Decoder_Get : Hints := Hints.mk (fun i => bif Nat.beq i 6 then some ([9], .take 0 <| .take 1 <| .take 2 <| .take 4 <| .take 3 <| .take 5 <| .take 6 <| .take 7 <| .take 8 <| .bar 9 [] <| .done) else (bif Nat.beq i 7 then some ([], .take 0 <| .take 1 <| .take 2 <| .take 5 <| .take 3 <| .take 4 <| .take 6 <| .take 7 <| .take 8 <| .done) else (bif Nat.beq i 9 then some ([10], .take 0 <| .take 1 <| .take 2 <| .take 4 <| .take 3 <| .take 5 <| .take 6 <| .take 7 <| .take 8 <| .take 9 <| .bar 10 [] <| .done) else (bif Nat.beq i 12 then some ([], .take 0 <| .take 1 <| .take 2 <| .take 3 <| .take 5 <| .take 4 <| .take 6 <| .take 7 <| .take 8 <| .done) else (none)))))
  (fun i => none)
  (fun i => bif Nat.beq i 12 then some ([], 9444696936942271463472) else (bif Nat.beq i 16 then some ([(8, .int .i64)], 1237930594552414535608697088) else (none))) []
set_option maxRecDepth 100000 in
theorem eq_arith_Decoder_Get (C : CallP) (a0 : Option Addr) (a1 : Int) (h : Heap) (K : Value → Heap → Prop) (Kp : List PanicEntry → Heap → Prop) :
    fnD Go.Proofs.Tryz.prog C hints_arith_Decoder_Get Go.Proofs.Tryz.f215 [.pointer a0, .int .i64 a1] h K Kp = arith_Decoder_Get C a0 a1 h K Kp := by kernel_rfl

theorem call_arith_Decoder_Get {a0 : Option Addr} {a1 : Int} {h : Heap} {K : Value → Heap → Prop} {Kp : List PanicEntry → Heap → Prop} (H : arith_Decoder_Get (CallsHP Go.Proofs.Tryz.prog) a0 a1 h K Kp) : CallsHP Go.Proofs.Tryz.prog F_arith_Decoder_Get #[.pointer a0, .int .i64 a1] h K Kp :=
  callsHP_of hints_arith_Decoder_Get (by kernel_rfl) Go.Proofs.Tryz.func215 (by kernel_rfl) (by rw [eq_arith_Decoder_Get]; exact H)

noncomputable def hints_arith_Decoder_renew : Hints := Hints.mk (fun i => none)
  (fun i => bif Nat.beq i 0 then some ([], 34359738364) else (none))
  (fun i => bif Nat.beq i 2 then some ([], 508) else (none)) []
set_option maxRecDepth 100000 in
theorem eq_arith_Decoder_renew (C : CallP) (d : Option Addr) (h : Heap) (K : Value → Heap → Prop) (Kp : List PanicEntry → Heap → Prop) :
    fnD Go.Proofs.Tryz.prog C hints_arith_Decoder_renew Go.Proofs.Tryz.f220 [.pointer d] h K Kp = arith_Decoder_renew C d h K Kp := by kernel_rfl

theorem call_arith_Decoder_renew {d : Option Addr} {h : Heap} {K : Value → Heap → Prop} {Kp : List PanicEntry → Heap → Prop} (H : arith_Decoder_renew (CallsHP Go.Proofs.Tryz.prog) d h K Kp) : CallsHP Go.Proofs.Tryz.prog F_arith_Decoder_renew #[.pointer d] h K Kp :=
  callsHP_of hints_arith_Decoder_renew (by kernel_rfl) Go.Proofs.Tryz.func220 (by kernel_rfl) (by rw [eq_arith_Decoder_renew]; exact H)

end Go.Den.YtfaclehehhgpcaaGreat

/- ArB: how a coder and a decoder lie in memory; what their functions do with them: New, Put, Flush and what these call. -/
set_option linter.unusedVariables false
set_option linter.unusedSimpArgs false
namespace Go.Ar
open Go Go.Den Go.Den.YtfaclehehhgpcaaGreat

/-! ### lists of cells -/
def u8s (l : List Nat) : List Value := l.map fun x : Nat => .int .u8 (x : Int)
theorem u8s_length (l : List Nat) : (u8s l).length = l.length := by simp [u8s]
theorem u8s_get {l : List Nat} {i x : Nat} (h : l[i]? = some x) : (u8s l)[i]? = some (.int .u8 (x : Int)) := by
  unfold u8s; rw [List.getElem?_map, h]; rfl
theorem u8s_set (l : List Nat) (i x : Nat) : u8s (l.set i x) = (u8s l).set i (.int .u8 (x : Int)) := by simp [u8s, List.map_set]
theorem u8s_cells (l : List Nat) : ∀ v ∈ u8s l, v.oneCell' = true := fun v hv => by
  obtain ⟨x, _, rfl⟩ := List.mem_map.1 hv; rfl
theorem get_app {R T : List Value} {i : Nat} {v : Value} (h : R[i]? = some v) : (R ++ T)[i]? = some v := by
  rw [List.getElem?_append_left (List.getElem?_eq_some_iff.1 h).1]; exact h
theorem set_app {R T : List Value} {i : Nat} {v : Value} (h : i < R.length) : (R ++ T).set i v = R.set i v ++ T := List.set_append_left _ _ h

def rowC (r : Nat) : List Value := [.int .u32 (qOf r : Nat), .int .u8 (mOf r : Nat), .int .u8 (lOf r : Nat), .int .u8 (cOf r : Nat)]
def rowsN : Nat → List Value
  | 0 => []
  | n + 1 => rowsN n ++ rowC n
theorem rowsN_length : ∀ n, (rowsN n).length = 4 * n
  | 0 => rfl
  | n + 1 => by rw [rowsN, List.length_append, rowsN_length n]; show 4 * n + 4 = _; omega
theorem rowsN_get : ∀ {n r j : Nat} {v : Value}, r < n → (rowC r)[j]? = some v → (rowsN n)[4 * r + j]? = some v
  | 0, r, j, v, h, _ => by omega
  | n + 1, r, j, v, h, hv => by
    rw [rowsN]
    have hj : j < 4 := (List.getElem?_eq_some_iff.1 hv).1
    rcases Nat.lt_or_ge r n with h1 | h1
    · exact get_app (rowsN_get h1 hv)
    · have : r = n := by omega
      subst this
      exact app_get (rowsN_length r) j hv
def rowsV : List Value := rowsN 47
theorem hR : rowsV.length = 188 := rowsN_length 47

/-! ### a coder in memory -/
def crest (q : Nat) (nst n a c : Nat) (t : Int) (r : Nat) (bl bc : Nat) (done : Bool) : List Value :=
  [.slice (some ⟨q, 0, none⟩) nst nst, .int .i64 (n : Nat), .int .u32 (a : Nat), .int .u32 (c : Nat), .int .i64 t, .slice (some ⟨r, 0, none⟩) bl bc, .bool done]
def codE (p q r : Nat) (s : Cod) (rest : List Value) : Ent :=
  ⟨p, true, T_arith_Coder, rowsV ++ crest q s.st.length s.n s.a s.c (s.t : Nat) r (s.bs.length + 1) (s.bs.length + 1 + rest.length) s.done⟩
def codL (p q r : Nat) (s : Cod) (rest : List Value) : List Ent :=
  [codE p q r s rest, ⟨q, true, T_uint8, u8s s.st⟩, ⟨r, true, T_uint8, u8s (s.bs ++ [s.l]) ++ rest⟩]

abbrev CP : CallP := CallsHP Go.Proofs.Tryz.prog
abbrev at0 (p : Nat) : Option Addr := some ⟨p, 0, none⟩

theorem last_get (bs : List Nat) (l : Nat) (rest : List Value) : (u8s (bs ++ [l]) ++ rest)[bs.length]? = some (.int .u8 (l : Int)) := get_app (u8s_get (by simp))
theorem last_set (bs : List Nat) (l l' : Nat) (rest : List Value) : (u8s (bs ++ [l]) ++ rest).set bs.length (.int .u8 (l' : Int)) = u8s (bs ++ [l']) ++ rest := by
  rw [set_app (by rw [u8s_length]; simp), ← u8s_set]
  simp

theorem out_ok {h : Heap} {p q r : Nat} {s : Cod} {rest : List Value} {F : List Nat} {h0 : Heap} (H : Hp h0 F h (codL p q r s rest)) (hl : s.l < 256) (hc : s.c < 4294967296) (hb : s.bs.length < 1000000000)
    {K : Value → Heap → Prop} {Kp : List PanicEntry → Heap → Prop} (hk : ∀ r' rest' h', Hp h0 F h' (codL p q r' (outM s) rest') → K (.tuple #[]) h') :
    CP F_arith_Coder_out #[.pointer (at0 p)] h K Kp := by
  refine call_arith_Coder_out ?_
  unfold arith_Coder_out
  try simp only [ptr_some_eq, add_mk, Nat.zero_add, Nat.add_zero]
  refine ldS_of (H.cell 0 rfl (app_get hR 5 rfl)) ?_
  refine ldS_of (H.cell 0 rfl (app_get hR 5 rfl)) ?_
  refine bindI_of (((s.bs.length : Nat) : Int)) (by exact i64_at _ _ (by omega) (by omega) (by omega)) ?_
  refine needs_of (by constructor <;> omega) ?_
  try simp only [ptr_some_eq, add_mk, Nat.zero_add, Nat.add_zero]
  simp only [Int.toNat_natCast, Nat.mul_one]
  refine ⟨fun vs h' => vs = [] ∧ Hp h0 F h' (codL p q r (if s.l ≠ 255 ∧ 134217728 ≤ s.c then { s with l := s.l + 1, c := s.c % 134217728 } else s) rest), ?_, ?_⟩
  · refine ⟨fun vs h' => vs = [.bool (decide (s.l ≠ 255 ∧ 134217728 ≤ s.c))] ∧ h' = h, ?_, ?_⟩
    · refine ldI_of (H.cell 2 rfl (last_get _ _ _)) ?_
      refine bcase_of (fun h1 => ?_) fun h1 => ?_
      · refine ldI_of (H.cell 0 rfl (app_get hR 3 rfl)) ?_
        refine ⟨?_, rfl⟩
        have h1 : s.l ≠ 255 := by simp at h1; omega
        congr 2
        simp [h1]
        omega
      · refine ⟨?_, rfl⟩
        have h1 : s.l = 255 := by simp at h1; omega
        simp [h1]
    · rintro h' u x ⟨hx, rfl⟩
      injection hx with hx
      injection hx with hx
      subst hx
      refine bcase_of (fun h1 => ?_) fun h1 => ?_
      · have h1 : s.l ≠ 255 ∧ 134217728 ≤ s.c := of_decide_eq_true h1
        refine ldI_of (H.cell 2 rfl (last_get _ _ _)) ?_
        refine bindI_of (((s.l + 1 : Nat) : Int)) (by rw [← u8_in (s.l + 1) (by omega)]; rfl) ?_
        refine stV_hp H 2 rfl (by simp [u8s_length]; omega) rfl fun h hsz H => ?_
        rw [last_set] at H
        refine ldI_of (H.cell 0 rfl (app_get hR 3 rfl)) ?_
        refine bindI_of (((s.c % 134217728 : Nat) : Int)) (by exact (and32 _ 134217727 (by omega) (by omega)).trans (by congr 1; exact Nat.and_two_pow_sub_one_eq_mod s.c 27)) ?_
        refine stV_hr H 0 rfl hR 3 (Nat.le_of_ble_eq_true rfl) rfl fun h hsz H => ?_
        refine ⟨rfl, ?_⟩
        rw [if_pos h1]
        exact H
      · have h1 : ¬ (s.l ≠ 255 ∧ 134217728 ≤ s.c) := of_decide_eq_false h1
        refine ⟨rfl, ?_⟩
        rw [if_neg h1]
        exact H
  · rintro h' u ⟨_, H'⟩
    have e : outM s = outTail (if s.l ≠ 255 ∧ 134217728 ≤ s.c then { s with l := s.l + 1, c := s.c % 134217728 } else s) (if s.l ≠ 255 ∧ 134217728 ≤ s.c then { s with l := s.l + 1, c := s.c % 134217728 } else s).l (if s.l ≠ 255 ∧ 134217728 ≤ s.c then { s with l := s.l + 1, c := s.c % 134217728 } else s).c := by
      unfold outM; split <;> rfl
    have hs' : (if s.l ≠ 255 ∧ 134217728 ≤ s.c then { s with l := s.l + 1, c := s.c % 134217728 } else s).l < 256 ∧ (if s.l ≠ 255 ∧ 134217728 ≤ s.c then { s with l := s.l + 1, c := s.c % 134217728 } else s).c < 4294967296 ∧ (if s.l ≠ 255 ∧ 134217728 ≤ s.c then { s with l := s.l + 1, c := s.c % 134217728 } else s).bs = s.bs := by
      split
      · exact ⟨by show s.l + 1 < 256; omega, by show s.c % 134217728 < _; omega, rfl⟩
      · exact ⟨hl, hc, rfl⟩
    generalize (if s.l ≠ 255 ∧ 134217728 ≤ s.c then { s with l := s.l + 1, c := s.c % 134217728 } else s) = s' at e hs' H'
    clear H
    obtain ⟨hl', hc', hb'⟩ := hs'
    rw [e] at hk
    rw [← hb'] at hb ⊢
    have H := H'
    clear H'
    refine ⟨fun vs h'' => vs = [.int .i64 ((if s'.l = 255 then 20 else 19 : Nat) : Int)] ∧ h'' = h', ?_, ?_⟩
    · refine ldI_of (H.cell 2 rfl (last_get _ _ _)) ?_
      refine bcase_of (fun h1 => ?_) fun h1 => ?_
      · refine bindI_of ((19 : Int)) (by decide) ?_
        have h1 : s'.l ≠ 255 := by simp at h1; omega
        exact ⟨by rw [if_neg h1]; rfl, rfl⟩
      · have h1 : s'.l = 255 := by simp at h1; omega
        exact ⟨by rw [if_pos h1]; rfl, rfl⟩
    · rintro h'' u x ⟨hx, rfl⟩
      injection hx with hx
      injection hx with _ hx
      have hn : ∃ i : Nat, (i = 20 ∧ s'.l = 255 ∨ i = 19 ∧ s'.l ≠ 255) ∧ x = ((i : Nat) : Int) := by
        by_cases h1 : s'.l = 255
        · rw [if_pos h1] at hx; exact ⟨20, .inl ⟨rfl, h1⟩, hx⟩
        · rw [if_neg h1] at hx; exact ⟨19, .inr ⟨rfl, h1⟩, hx⟩
      clear hx
      obtain ⟨i, hi, rfl⟩ := hn
      have hi20 : i ≤ 20 := by omega
      have hi0 : 19 ≤ i := by omega
      refine ldS_of (H.cell 0 rfl (app_get hR 5 rfl)) ?_
      refine ldI_of (H.cell 0 rfl (app_get hR 3 rfl)) ?_
      refine needs_of (by omega) ?_
      refine bindI_of (((s'.c / 2 ^ i : Nat) : Int)) (by exact shr_of (by show i ≤ 32; omega)) ?_
      refine bindI_of (((s'.c / 2 ^ i % 256 : Nat) : Int)) (by rw [IntKind.wrap_u8]; omega) ?_
      refine newC_hp H fun b h H => ?_
      refine appC_own H 2 rfl (xs := u8s (s'.bs ++ [s'.l])) (by rw [u8s_length]; simp) (by rw [List.length_append, u8s_length]; simp) (rdO_hp (o := 0) (n := 1 * 1) H 3 rfl (Nat.le_refl _)) rfl (fun v hv => by rw [List.mem_singleton.1 hv]; rfl) (by omega) fun r' rest' h H => ?_
      refine stV_hr H 0 rfl hR 5 (Nat.le_of_ble_eq_true rfl) rfl fun h hsz H => ?_
      refine needs_of (by omega) ?_
      have hp : (2 : Nat) ^ i < 4294967296 := by rcases hi with ⟨rfl, _⟩ | ⟨rfl, _⟩ <;> decide
      have hp0 : 0 < (2 : Nat) ^ i := Nat.two_pow_pos i
      refine bindI_of (((2 ^ i : Nat) : Int)) (by exact shl_of (x := 1) (by show i ≤ 32; omega) (by rw [Nat.one_mul]; exact u32_in _ hp)) ?_
      refine bindI_of (((2 ^ i - 1 : Nat) : Int)) (by exact u32_at _ _ (by omega) (by omega)) ?_
      refine ldI_of (H.cell 0 rfl (app_get hR 3 rfl)) ?_
      refine bindI_of (((s'.c % 2 ^ i : Nat) : Int)) (by exact (and32 _ _ hc' (by omega)).trans (by rw [Nat.and_two_pow_sub_one_eq_mod])) ?_
      refine stV_hr H 0 rfl hR 3 (Nat.le_of_ble_eq_true rfl) rfl fun h hsz H => ?_
      refine bindI_of (((27 - i : Nat) : Int)) (by exact i64_at _ _ (by omega) (by omega) (by omega)) ?_
      refine stV_hr H 0 rfl hR 4 (Nat.le_of_ble_eq_true rfl) rfl fun h hsz H => ?_
      refine hk r' rest' _ ?_
      have H2 := H.take 3
      have e2 : outTail s' s'.l s'.c = { s' with bs := s'.bs ++ [s'.l], l := s'.c / 2 ^ i % 256, c := s'.c % 2 ^ i, t := 27 - i } := by
        unfold outTail
        rcases hi with ⟨rfl, h1⟩ | ⟨rfl, h1⟩
        · rw [if_pos h1]
        · rw [if_neg h1]
      rw [e2]
      refine H2.as ?_
      simp [codL, codE, crest, u8s]
      omega
/-! ### renew -/
theorem shiftM_eq (s : Cod) : shiftM s = if s.t - 1 = 0 then outM { s with a := 2 * s.a, c := 2 * s.c, t := s.t - 1 } else { s with a := 2 * s.a, c := 2 * s.c, t := s.t - 1 } := rfl
theorem renewM_succ (n : Nat) (s : Cod) : renewM (n + 1) s = if 0x8000 ≤ (shiftM s).a then shiftM s else renewM n (shiftM s) := rfl

theorem renew_ok {h : Heap} {p q r : Nat} {s : Cod} {rest : List Value} {F : List Nat} {h0 : Heap} (H : Hp h0 F h (codL p q r s rest)) (hs : Mid s) (ha : 1 ≤ s.a) (ha' : s.a < 0x8000) (hb : s.bs.length < 999999983)
    {K : Value → Heap → Prop} {Kp : List PanicEntry → Heap → Prop} (hk : ∀ r' rest' h', Hp h0 F h' (codL p q r' (renewM 17 s) rest') → K (.tuple #[]) h') :
    CP F_arith_Coder_renew #[.pointer (at0 p)] h K Kp := by
  refine call_arith_Coder_renew ?_
  unfold arith_Coder_renew
  refine ⟨fun n vs h' => ∃ (s' : Cod) (r' : Nat) (rest' : List Value), Hp h0 F h' (codL p q r' s' rest') ∧ Mid s' ∧ s'.a < 0x8000 ∧ 0x8000 ≤ s'.a * 2 ^ n ∧ renewM n s' = renewM 17 s ∧ s'.bs.length + n < 1000000000,
    ⟨17, s, r, rest, H, hs, ha', by have : (2 : Nat) ^ 17 = 131072 := rfl; omega, rfl, by omega⟩, ?_⟩
  clear H
  rintro n h u ⟨s', r', rest', H, hm, hlt, hge, he, hbn⟩
  obtain ⟨n, rfl⟩ : ∃ m, n = m + 1 := by
    cases n with
    | zero => simp at hge; omega
    | succ m => exact ⟨m, rfl⟩
  have ht1 := hm.t1
  have ht2 := hm.t12
  have hca := hm.ca
  have hcp := pow_le ht1
  obtain ⟨g1, g2, g3, g4, g5, g6⟩ := shiftM_mid hm hlt
  have hnext : 0x8000 ≤ (shiftM s').a * 2 ^ n := by
    rw [g2]
    rw [Nat.pow_succ] at hge
    have : s'.a * (2 ^ n * 2) = 2 * s'.a * 2 ^ n := by rw [Nat.mul_comm (2 ^ n) 2, ← Nat.mul_assoc, Nat.mul_comm s'.a 2]
    omega
  rw [renewM_succ] at he
  try simp only [ptr_some_eq, add_mk, Nat.zero_add, Nat.add_zero]
  refine ldI_of (H.cell 0 rfl (app_get hR 2 rfl)) ?_
  refine bindI_of (((2 * s'.a : Nat) : Int)) (by exact shl_of (i := 1) (by decide) ((u32_in _ (by omega)).trans (by omega))) ?_
  refine stV_hr H 0 rfl hR 2 (Nat.le_of_ble_eq_true rfl) rfl fun h hsz H => ?_
  refine ldI_of (H.cell 0 rfl (app_get hR 3 rfl)) ?_
  refine bindI_of (((2 * s'.c : Nat) : Int)) (by exact shl_of (i := 1) (by decide) ((u32_in _ (by omega)).trans (by omega))) ?_
  refine stV_hr H 0 rfl hR 3 (Nat.le_of_ble_eq_true rfl) rfl fun h hsz H => ?_
  refine ldI_of (H.cell 0 rfl (app_get hR 4 rfl)) ?_
  refine bindI_of (((s'.t - 1 : Nat) : Int)) (by exact i64_at _ _ (by omega) (by omega) (by omega)) ?_
  refine stV_hr H 0 rfl hR 4 (Nat.le_of_ble_eq_true rfl) rfl fun h hsz H => ?_
  refine ldI_of (H.cell 0 rfl (app_get hR 4 rfl)) ?_
  refine bcase_of (fun h1 => ?_) fun h1 => ?_
  · have h1 : s'.t - 1 = 0 := by simp at h1; omega
    rw [shiftM_eq, if_pos h1] at g1 g2 g3 g4 g5 g6 hnext he
    have H2 : Hp h0 F _ (codL p q r' { s' with a := 2 * s'.a, c := 2 * s'.c, t := s'.t - 1 } rest') := H
    refine out_ok H2 hm.l (by show 2 * s'.c < _; omega) (by show s'.bs.length < _; omega) fun r2 rest2 h2 H => ?_
    refine ldI_of (H.cell 0 rfl (app_get hR 2 rfl)) ?_
    refine bcase_of (fun h3 => ?_) fun h3 => ?_
    · have h3 : 0x8000 ≤ (outM { s' with a := 2 * s'.a, c := 2 * s'.c, t := s'.t - 1 }).a := by simp at h3; omega
      rw [if_pos h3] at he
      exact hk r2 rest2 _ (he ▸ H)
    · have h3 : ¬ 0x8000 ≤ (outM { s' with a := 2 * s'.a, c := 2 * s'.c, t := s'.t - 1 }).a := by simp at h3; omega
      rw [if_neg h3] at he
      exact ⟨n, Nat.lt_succ_self n, _, r2, rest2, H, g1, by omega, hnext, he, by omega⟩
  · have h1 : ¬ s'.t - 1 = 0 := by simp at h1; omega
    rw [shiftM_eq, if_neg h1] at g1 g2 g3 g4 g5 g6 hnext he
    have H2 : Hp h0 F _ (codL p q r' { s' with a := 2 * s'.a, c := 2 * s'.c, t := s'.t - 1 } rest') := H
    refine ldI_of (H.cell 0 rfl (app_get hR 2 rfl)) ?_
    refine bcase_of (fun h3 => ?_) fun h3 => ?_
    · have h3 : 0x8000 ≤ 2 * s'.a := by simp at h3; omega
      rw [if_pos h3] at he
      exact hk r' rest' _ (he ▸ H2)
    · have h3 : ¬ 0x8000 ≤ 2 * s'.a := by simp at h3; omega
      rw [if_neg h3] at he
      exact ⟨n, Nat.lt_succ_self n, _, r', rest', H2, g1, by omega, hnext, he, by show s'.bs.length + n < _; omega⟩

/-! ### a context's state -/
theorem likely_ok {h : Heap} {q i x : Nat} {st : List Nat} {F : List Nat} {h0 : Heap} {L : List Ent} (H : Hp h0 F h L) (k : Nat) (hq : L[k]? = some ⟨q, true, T_uint8, u8s st⟩) (hi : st[i]? = some x) (hx : x < 94) {a b c d : Int}
    (hb : b = (mOf (x / 2) : Nat)) {K : Value → Heap → Prop} {Kp : List PanicEntry → Heap → Prop} (hk : ∀ h', Hp h0 F h' (L.set k ⟨q, true, T_uint8, u8s (st.set i (upM x))⟩) → K (.tuple #[]) h') :
    CP F_arith_likely #[.pointer (some ⟨q, i, none⟩), .agg #[.int .u32 a, .int .u8 b, .int .u8 c, .int .u8 d]] h K Kp := by
  refine call_arith_likely ?_
  unfold arith_likely
  have hm := mOf_lt (r := x / 2) (by omega)
  have hkl : k < L.length := (List.getElem?_eq_some_iff.1 hq).1
  have hil : i < st.length := (List.getElem?_eq_some_iff.1 hi).1
  subst hb
  refine newC_hp H fun b h H => ?_
  have hq2 : (L ++ [(⟨b, true, T_arith_row, [.int .u32 a, .int .u8 (mOf (x / 2) : Nat), .int .u8 c, .int .u8 d]⟩ : Ent)])[k]? = some ⟨q, true, T_uint8, u8s st⟩ := by rw [List.getElem?_append_left hkl]; exact hq
  try simp only [ptr_some_eq, add_mk, Nat.zero_add, Nat.add_zero]
  refine ldI_of (H.cell L.length List.getElem?_concat_length rfl) ?_
  refine bindI_of (((2 * mOf (x / 2) : Nat) : Int)) (by exact shl_of (i := 1) (by decide) ((u8_in _ (by omega)).trans (by omega))) ?_
  refine ldI_of (H.cell k hq2 (u8s_get hi)) ?_
  refine bindI_of (((x % 2 : Nat) : Int)) (by exact (and8 _ 1 (by omega) (by omega)).trans (by rw [Nat.and_one_is_mod])) ?_
  refine bindI_of (((upM x : Nat) : Int)) (by exact (or8 _ _ (by omega) (by omega)).trans (by congr 1; exact (Nat.two_pow_add_eq_or_of_lt (i := 1) (by omega) _).symm)) ?_
  refine stV_hp H k hq2 (by rw [u8s_length]; exact hil) rfl fun h hsz H => ?_
  refine hk _ ?_
  have H2 := H.take L.length
  refine H2.as ?_
  rw [← u8s_set, List.set_append_left _ _ hkl, List.take_left' (by simp)]

theorem unlikely_ok {h : Heap} {q i x : Nat} {st : List Nat} {F : List Nat} {h0 : Heap} {L : List Ent} (H : Hp h0 F h L) (k : Nat) (hq : L[k]? = some ⟨q, true, T_uint8, u8s st⟩) (hi : st[i]? = some x) (hx : x < 94) {a b c d : Int}
    (hc : c = (lOf (x / 2) : Nat)) (hd : d = (cOf (x / 2) : Nat)) {K : Value → Heap → Prop} {Kp : List PanicEntry → Heap → Prop} (hk : ∀ h', Hp h0 F h' (L.set k ⟨q, true, T_uint8, u8s (st.set i (upL x))⟩) → K (.tuple #[]) h') :
    CP F_arith_unlikely #[.pointer (some ⟨q, i, none⟩), .agg #[.int .u32 a, .int .u8 b, .int .u8 c, .int .u8 d]] h K Kp := by
  refine call_arith_unlikely ?_
  unfold arith_unlikely
  have hm := lOf_lt (r := x / 2) (by omega)
  have hm2 := cOf_le (r := x / 2) (by omega)
  have hkl : k < L.length := (List.getElem?_eq_some_iff.1 hq).1
  have hil : i < st.length := (List.getElem?_eq_some_iff.1 hi).1
  subst hc hd
  refine newC_hp H fun b' h H => ?_
  have hq2 : (L ++ [(⟨b', true, T_arith_row, [.int .u32 a, .int .u8 b, .int .u8 (lOf (x / 2) : Nat), .int .u8 (cOf (x / 2) : Nat)]⟩ : Ent)])[k]? = some ⟨q, true, T_uint8, u8s st⟩ := by rw [List.getElem?_append_left hkl]; exact hq
  try simp only [ptr_some_eq, add_mk, Nat.zero_add, Nat.add_zero]
  refine ldI_of (H.cell L.length List.getElem?_concat_length rfl) ?_
  refine bindI_of (((2 * lOf (x / 2) : Nat) : Int)) (by exact shl_of (i := 1) (by decide) ((u8_in _ (by omega)).trans (by omega))) ?_
  refine ldI_of (H.cell k hq2 (u8s_get hi)) ?_
  refine bindI_of (((x % 2 : Nat) : Int)) (by exact (and8 _ 1 (by omega) (by omega)).trans (by rw [Nat.and_one_is_mod])) ?_
  refine bindI_of (((2 * lOf (x / 2) + x % 2 : Nat) : Int)) (by exact (or8 _ _ (by omega) (by omega)).trans (by congr 1; exact (Nat.two_pow_add_eq_or_of_lt (i := 1) (by omega) _).symm)) ?_
  refine ldI_of (H.cell L.length List.getElem?_concat_length rfl) ?_
  have hxor : (2 * lOf (x / 2) + x % 2) ^^^ cOf (x / 2) = upL x := by
    have e0 : x % 2 < 2 := Nat.mod_lt _ (by omega)
    unfold upL
    generalize lOf (x / 2) = l at hm ⊢
    generalize cOf (x / 2) = c at hm2 ⊢
    generalize x % 2 = y at e0 ⊢
    have : ∀ l ∈ List.range 47, ∀ y ∈ List.range 2, ∀ c ∈ List.range 2, (2 * l + y) ^^^ c = 2 * l + (y + c) % 2 := by decide
    exact this l (List.mem_range.2 hm) y (List.mem_range.2 e0) c (List.mem_range.2 (by omega))
  refine bindI_of (((upL x : Nat) : Int)) (by exact (xor8 _ _ (by omega) (by omega)).trans (by rw [hxor])) ?_
  refine stV_hp H k hq2 (by rw [u8s_length]; exact hil) rfl fun h hsz H => ?_
  refine hk _ ?_
  have H2 := H.take L.length
  refine H2.as ?_
  rw [← u8s_set, List.set_append_left _ _ hkl, List.take_left' (by simp)]

/-! ### the context's place -/
def idx (ctx : Int) (n : Nat) : Nat := (ctx % (n : Int)).toNat
theorem idx_lt (ctx : Int) {n : Nat} (hn : 1 ≤ n) : idx ctx n < n := by
  unfold idx
  have h1 := Int.emod_nonneg ctx (b := (n : Int)) (by omega)
  have h2 := Int.emod_lt_of_pos ctx (b := (n : Int)) (by omega)
  omega
theorem tmod_abs (ctx : Int) {n : Nat} (hn : 1 ≤ n) : -(n : Int) < ctx.tmod n ∧ ctx.tmod n < n := by
  constructor
  · have h1 := Int.lt_tmod_of_pos ctx (b := (n : Int)) (by omega)
    exact h1
  · exact Int.tmod_lt_of_pos ctx (by omega)
theorem idx_eq (ctx : Int) {n : Nat} (hn : 1 ≤ n) : (ctx.tmod n + n).tmod n = ((idx ctx n : Nat) : Int) := by
  have h1 := Int.emod_nonneg ctx (b := (n : Int)) (by omega)
  have h3 := tmod_abs ctx hn
  have e1 : ((idx ctx n : Nat) : Int) = ctx % n := by unfold idx; omega
  rw [e1, Int.tmod_eq_emod_of_nonneg (by omega), Int.add_emod_right, Int.tmod_eq_emod]
  split
  · rw [show ((0 : Nat) : Int) = 0 from rfl, Int.sub_zero, Int.emod_emod_of_dvd _ (Int.dvd_refl _)]
  · have : ((n : Int).natAbs : Int) = n := by omega
    rw [this, Int.sub_emod_right, Int.emod_emod_of_dvd _ (Int.dvd_refl _)]

theorem at_ok {h : Heap} {p q : Nat} {st : List Nat} {F : List Nat} {h0 : Heap} {L : List Ent} (H : Hp h0 F h L) (kp kq : Nat) {w : Bool} {t : TypeId} {T : List Value} (hp : L[kp]? = some ⟨p, w, t, rowsV ++ (.slice (some ⟨q, 0, none⟩) st.length st.length :: T)⟩)
    (hq : L[kq]? = some ⟨q, true, T_uint8, u8s st⟩) (hn : 1 ≤ st.length) (hn2 : st.length ≤ 131072) (hst : ∀ x ∈ st, x < 94) {ctx : Int} {K : Value → Heap → Prop} {Kp : List PanicEntry → Heap → Prop}
    (hk : ∀ h' x, st[idx ctx st.length]? = some x → x < 94 → Hp h0 F h' L → K (.tuple #[.pointer (some ⟨q, idx ctx st.length, none⟩), .agg #[.int .u32 (qOf (x / 2) : Nat), .int .u8 (mOf (x / 2) : Nat), .int .u8 (lOf (x / 2) : Nat), .int .u8 (cOf (x / 2) : Nat)]]) h') :
    CP F_arith_table_at #[.pointer (at0 p), .int .i64 ctx] h K Kp := by
  refine call_arith_table_at ?_
  unfold arith_table_at
  have hi := idx_lt ctx hn
  have habs := tmod_abs ctx hn
  obtain ⟨x, hx⟩ : ∃ x, st[idx ctx st.length]? = some x := ⟨_, List.getElem?_eq_getElem hi⟩
  have hx94 : x < 94 := hst x (List.mem_of_getElem? hx)
  have hkp : kp < L.length := (List.getElem?_eq_some_iff.1 hp).1
  have hkq : kq < L.length := (List.getElem?_eq_some_iff.1 hq).1
  refine newC_hp H fun b h H => ?_
  have hp2 : ∀ e, (L ++ [e])[kp]? = some ⟨p, w, t, rowsV ++ (.slice (some ⟨q, 0, none⟩) st.length st.length :: T)⟩ := fun e => by rw [List.getElem?_append_left hkp]; exact hp
  have hq2 : ∀ e, (L ++ [e])[kq]? = some ⟨q, true, T_uint8, u8s st⟩ := fun e => by rw [List.getElem?_append_left hkq]; exact hq
  try simp only [ptr_some_eq, add_mk, Nat.zero_add, Nat.add_zero]
  refine ldS_of (H.cell kp (hp2 _) (app_get hR 0 rfl)) ?_
  refine needs_of (by exact ⟨trivial, by omega⟩) ?_
  refine bindI_gen fun z6 e6 => ?_
  subst e6
  refine bindI_of (ctx.tmod st.length + st.length) (i64_in _ (by omega) (by omega)) ?_
  refine needs_of (by exact ⟨trivial, by omega⟩) ?_
  refine bindI_of _ (idx_eq ctx hn) ?_
  refine ldS_of (H.cell kp (hp2 _) (app_get hR 0 rfl)) ?_
  refine needs_of (by omega) ?_
  simp only [Int.toNat_natCast, Nat.mul_one]
  try simp only [ptr_some_eq, add_mk, Nat.zero_add, Nat.add_zero]
  refine ldI_of (H.cell kq (hq2 _) (u8s_get hx)) ?_
  refine bindI_of (((x / 2 : Nat) : Int)) (by exact shr_of (i := 1) (by decide)) ?_
  refine needs_of (by omega) ?_
  simp only [Int.toNat_natCast]
  have hr : x / 2 < 47 := by omega
  have hrow : ∀ j v, (rowC (x / 2))[j]? = some v → (rowsV ++ (.slice (some ⟨q, 0, none⟩) st.length st.length :: T))[x / 2 * 4 + j]? = some v := fun j v hv => get_app (by rw [Nat.mul_comm]; exact rowsN_get hr hv)
  refine ldI_of (H.cell kp (hp2 _) (hrow 0 _ rfl)) ?_
  refine ldI_of (H.cell kp (hp2 _) (hrow 1 _ rfl)) ?_
  refine ldI_of (H.cell kp (hp2 _) (hrow 2 _ rfl)) ?_
  refine ldI_of (H.cell kp (hp2 _) (hrow 3 _ rfl)) ?_
  refine stV_hp H L.length List.getElem?_concat_length (by simp) rfl fun h hsz H => ?_
  simp only [List.set_append_right _ _ (Nat.le_refl _), Nat.sub_self, List.set_cons_zero, List.set_cons_succ] at H
  refine stV_hp H L.length List.getElem?_concat_length (by simp) rfl fun h hsz H => ?_
  simp only [List.set_append_right _ _ (Nat.le_refl _), Nat.sub_self, List.set_cons_zero, List.set_cons_succ] at H
  refine stV_hp H L.length List.getElem?_concat_length (by simp) rfl fun h hsz H => ?_
  simp only [List.set_append_right _ _ (Nat.le_refl _), Nat.sub_self, List.set_cons_zero, List.set_cons_succ] at H
  refine stV_hp H L.length List.getElem?_concat_length (by simp) rfl fun h hsz H => ?_
  simp only [List.set_append_right _ _ (Nat.le_refl _), Nat.sub_self, List.set_cons_zero, List.set_cons_succ] at H
  refine ldI_of (H.cell L.length List.getElem?_concat_length rfl) ?_
  refine ldI_of (H.cell L.length List.getElem?_concat_length rfl) ?_
  refine ldI_of (H.cell L.length List.getElem?_concat_length rfl) ?_
  refine ldI_of (H.cell L.length List.getElem?_concat_length rfl) ?_
  exact hk _ x hx hx94 ((H.take L.length).as (List.take_left' rfl))

/-! ### Put -/
theorem getD_of {st : List Nat} {k x : Nat} (h : st[k]? = some x) : st.getD k 0 = x := by rw [List.getD_eq_getElem?_getD, h]; rfl

theorem putM_at (s : Cod) (k bit x : Nat) (hx : s.st[k]? = some x) : putM s k bit =
  if bit = x % 2 then
    if 0x8000 ≤ s.a - qOf (x / 2) then { s with a := s.a - qOf (x / 2), c := s.c + qOf (x / 2), n := s.n + 1 }
    else if s.a - qOf (x / 2) < qOf (x / 2) then renewM 17 { s with a := qOf (x / 2), n := s.n + 1, st := s.st.set k (upM x) }
    else renewM 17 { s with a := s.a - qOf (x / 2), c := s.c + qOf (x / 2), n := s.n + 1, st := s.st.set k (upM x) }
  else
    if s.a - qOf (x / 2) < qOf (x / 2) then renewM 17 { s with a := s.a - qOf (x / 2), c := s.c + qOf (x / 2), n := s.n + 1, st := s.st.set k (upL x) }
    else renewM 17 { s with a := qOf (x / 2), n := s.n + 1, st := s.st.set k (upL x) } := by
  rw [← getD_of hx]; rfl
theorem put_ok {h : Heap} {p q r : Nat} {s : Cod} {rest : List Value} {F : List Nat} {h0 : Heap} (H : Hp h0 F h (codL p q r s rest)) (hs : Wf s) (hd : s.done = false) (hn : s.n < 16777216) (hl : 1 ≤ s.st.length) (hl2 : s.st.length ≤ 131072)
    {ctx : Int} {bit : Nat} (hbit : bit ≤ 1) {K : Value → Heap → Prop} {Kp : List PanicEntry → Heap → Prop} (hk : ∀ r' rest' h', Hp h0 F h' (codL p q r' (putM s (idx ctx s.st.length) bit) rest') → K (.int .i64 0) h') :
    CP F_arith_Coder_Put #[.pointer (at0 p), .int .i64 ctx, .int .i64 (bit : Nat)] h K Kp := by
  refine call_arith_Coder_Put ?_
  unfold arith_Coder_Put
  refine ⟨fun vs h' => h' = h, ?_, ?_⟩
  · try simp only [ptr_some_eq, add_mk, Nat.zero_add, Nat.add_zero]
    refine ldB_of (H.cell 0 rfl (app_get hR 6 (congrArg (fun b => some (Value.bool b)) hd))) ?_
    refine bcase_false (by rfl) ?_
    refine bcase_of (fun h1 => ?_) fun h1 => ?_
    · refine bcase_of (fun h2 => ?_) fun h2 => ?_
      · simp at h1 h2; omega
      · refine ldI_of (H.cell 0 rfl (app_get hR 1 rfl)) ?_
        refine bcase_false (by simp; omega) ?_
        trivial
    · refine ldI_of (H.cell 0 rfl (app_get hR 1 rfl)) ?_
      refine bcase_false (by simp; omega) ?_
      trivial
  · rintro h' u rfl
    try simp only [ptr_some_eq, add_mk, Nat.zero_add, Nat.add_zero]
    refine ldI_of (H.cell 0 rfl (app_get hR 1 rfl)) ?_
    refine bindI_of (((s.n + 1 : Nat) : Int)) (by exact i64_at _ _ (by omega) (by omega) (by omega)) ?_
    refine stV_hr H 0 rfl hR 1 (Nat.le_of_ble_eq_true rfl) rfl fun h hsz H => ?_
    refine at_ok H 0 1 rfl rfl hl hl2 hs.st fun h x hx hx94 H => ?_
    refine ⟨_, _, _, _, _, rfl, ?_⟩
    refine newC_hp H fun b h H => ?_
    try simp only [ptr_some_eq, add_mk, Nat.zero_add, Nat.add_zero]
    refine stV_hp H 3 rfl (by first | exact Nat.le_of_ble_eq_true rfl | simp) rfl fun h hsz H => ?_
    refine stV_hp H 3 rfl (by first | exact Nat.le_of_ble_eq_true rfl | simp) rfl fun h hsz H => ?_
    refine stV_hp H 3 rfl (by first | exact Nat.le_of_ble_eq_true rfl | simp) rfl fun h hsz H => ?_
    refine stV_hp H 3 rfl (by first | exact Nat.le_of_ble_eq_true rfl | simp) rfl fun h hsz H => ?_
    refine ldI_of (H.cell 0 rfl (app_get hR 2 rfl)) ?_
    refine ldI_of (H.cell 3 rfl rfl) ?_
    have hr : x / 2 < 47 := by omega
    have hq1 := qOf_pos hr
    have hq2 := qOf_le hr
    have hlo := hs.lo
    have hhi := hs.hi
    have hca := hs.ca
    have hcp := pow_le hs.t1
    have hlen := hs.len
    have hM := set_lt hs.st (k := idx ctx s.st.length) (upM_lt hx94)
    have hL := set_lt hs.st (k := idx ctx s.st.length) (upL_lt hx94)
    rw [putM_at s _ bit x hx] at hk
    refine bindI_of (((s.a - qOf (x / 2) : Nat) : Int)) (by exact u32_at _ _ (by omega) (by omega)) ?_
    refine stV_hr H 0 rfl hR 2 (Nat.le_of_ble_eq_true rfl) rfl fun h hsz H => ?_
    refine ldI_of (H.cell 1 rfl (u8s_get hx)) ?_
    refine bindI_of (((x % 2 : Nat) : Int)) (by exact (and8 _ 1 (by omega) (by omega)).trans (by rw [Nat.and_one_is_mod])) ?_
    refine bindI_of (((x % 2 : Nat) : Int)) (by exact i64_in _ (by omega) (by omega)) ?_
    refine bcase_of (fun h1 => ?_) fun h1 => ?_
    · have h1 : bit = x % 2 := by simp at h1; omega
      rw [if_pos h1] at hk
      refine ldI_of (H.cell 0 rfl (app_get hR 2 rfl)) ?_
      refine bcase_of (fun h2 => ?_) fun h2 => ?_
      · have h2 : 0x8000 ≤ s.a - qOf (x / 2) := by simp at h2; omega
        rw [if_pos h2] at hk
        refine ldI_of (H.cell 0 rfl (app_get hR 3 rfl)) ?_
        refine ldI_of (H.cell 3 rfl rfl) ?_
        refine bindI_of (((s.c + qOf (x / 2) : Nat) : Int)) (by exact u32_at _ _ (by omega) (by omega)) ?_
        refine stV_hr H 0 rfl hR 3 (Nat.le_of_ble_eq_true rfl) rfl fun h hsz H => ?_
        exact hk r rest _ (H.take 3)
      · have h2 : ¬ 0x8000 ≤ s.a - qOf (x / 2) := by simp at h2; omega
        rw [if_neg h2] at hk
        refine ldI_of (H.cell 0 rfl (app_get hR 2 rfl)) ?_
        refine ldI_of (H.cell 3 rfl rfl) ?_
        refine bcase_of (fun h3 => ?_) fun h3 => ?_
        · have h3 : s.a - qOf (x / 2) < qOf (x / 2) := by simp at h3; omega
          rw [if_pos h3] at hk
          refine ldI_of (H.cell 3 rfl rfl) ?_
          refine stV_hr H 0 rfl hR 2 (Nat.le_of_ble_eq_true rfl) rfl fun h hsz H => ?_
          refine ldI_of (H.cell 3 rfl rfl) ?_
          refine ldI_of (H.cell 3 rfl rfl) ?_
          refine ldI_of (H.cell 3 rfl rfl) ?_
          refine ldI_of (H.cell 3 rfl rfl) ?_
          refine likely_ok H 1 rfl hx hx94 rfl fun h H => ?_
          have H2 : Hp h0 F h (codL p q r { s with a := qOf (x / 2), n := s.n + 1, st := s.st.set (idx ctx s.st.length) (upM x) } rest) := (H.take 3).as (by simp [codL, codE, crest])
          exact renew_ok H2 ⟨hs.t1, hs.t12, by show s.c + qOf _ < 2 ^ (28 - s.t); omega, hs.l, hs.bs, hM⟩ hq1 (by show qOf _ < _; omega) (by show s.bs.length < _; omega) hk
        · have h3 : ¬ s.a - qOf (x / 2) < qOf (x / 2) := by simp at h3; omega
          rw [if_neg h3] at hk
          refine ldI_of (H.cell 0 rfl (app_get hR 3 rfl)) ?_
          refine ldI_of (H.cell 3 rfl rfl) ?_
          refine bindI_of (((s.c + qOf (x / 2) : Nat) : Int)) (by exact u32_at _ _ (by omega) (by omega)) ?_
          refine stV_hr H 0 rfl hR 3 (Nat.le_of_ble_eq_true rfl) rfl fun h hsz H => ?_
          refine ldI_of (H.cell 3 rfl rfl) ?_
          refine ldI_of (H.cell 3 rfl rfl) ?_
          refine ldI_of (H.cell 3 rfl rfl) ?_
          refine ldI_of (H.cell 3 rfl rfl) ?_
          refine likely_ok H 1 rfl hx hx94 rfl fun h H => ?_
          have H2 : Hp h0 F h (codL p q r { s with a := s.a - qOf (x / 2), c := s.c + qOf (x / 2), n := s.n + 1, st := s.st.set (idx ctx s.st.length) (upM x) } rest) := (H.take 3).as (by simp [codL, codE, crest])
          exact renew_ok H2 ⟨hs.t1, hs.t12, by show s.c + qOf _ + (s.a - qOf _) < 2 ^ (28 - s.t); omega, hs.l, hs.bs, hM⟩ (by show 1 ≤ s.a - qOf _; omega) (by show s.a - qOf _ < _; omega) (by show s.bs.length < _; omega) hk
    · have h1 : ¬ bit = x % 2 := by simp at h1; omega
      rw [if_neg h1] at hk
      refine ldI_of (H.cell 0 rfl (app_get hR 2 rfl)) ?_
      refine ldI_of (H.cell 3 rfl rfl) ?_
      refine bcase_of (fun h3 => ?_) fun h3 => ?_
      · have h3 : s.a - qOf (x / 2) < qOf (x / 2) := by simp at h3; omega
        rw [if_pos h3] at hk
        refine ldI_of (H.cell 0 rfl (app_get hR 3 rfl)) ?_
        refine ldI_of (H.cell 3 rfl rfl) ?_
        refine bindI_of (((s.c + qOf (x / 2) : Nat) : Int)) (by exact u32_at _ _ (by omega) (by omega)) ?_
        refine stV_hr H 0 rfl hR 3 (Nat.le_of_ble_eq_true rfl) rfl fun h hsz H => ?_
        refine ldI_of (H.cell 3 rfl rfl) ?_
        refine ldI_of (H.cell 3 rfl rfl) ?_
        refine ldI_of (H.cell 3 rfl rfl) ?_
        refine ldI_of (H.cell 3 rfl rfl) ?_
        refine unlikely_ok H 1 rfl hx hx94 rfl rfl fun h H => ?_
        have H2 : Hp h0 F h (codL p q r { s with a := s.a - qOf (x / 2), c := s.c + qOf (x / 2), n := s.n + 1, st := s.st.set (idx ctx s.st.length) (upL x) } rest) := (H.take 3).as (by simp [codL, codE, crest])
        exact renew_ok H2 ⟨hs.t1, hs.t12, by show s.c + qOf _ + (s.a - qOf _) < 2 ^ (28 - s.t); omega, hs.l, hs.bs, hL⟩ (by show 1 ≤ s.a - qOf _; omega) (by show s.a - qOf _ < _; omega) (by show s.bs.length < _; omega) hk
      · have h3 : ¬ s.a - qOf (x / 2) < qOf (x / 2) := by simp at h3; omega
        rw [if_neg h3] at hk
        refine ldI_of (H.cell 3 rfl rfl) ?_
        refine stV_hr H 0 rfl hR 2 (Nat.le_of_ble_eq_true rfl) rfl fun h hsz H => ?_
        refine ldI_of (H.cell 3 rfl rfl) ?_
        refine ldI_of (H.cell 3 rfl rfl) ?_
        refine ldI_of (H.cell 3 rfl rfl) ?_
        refine ldI_of (H.cell 3 rfl rfl) ?_
        refine unlikely_ok H 1 rfl hx hx94 rfl rfl fun h H => ?_
        have H2 : Hp h0 F h (codL p q r { s with a := qOf (x / 2), n := s.n + 1, st := s.st.set (idx ctx s.st.length) (upL x) } rest) := (H.take 3).as (by simp [codL, codE, crest])
        exact renew_ok H2 ⟨hs.t1, hs.t12, by show s.c + qOf _ < 2 ^ (28 - s.t); omega, hs.l, hs.bs, hL⟩ hq1 (by show qOf _ < _; omega) (by show s.bs.length < _; omega) hk

end Go.Ar

/- ArC: New, Flush and States of a coder: what they do in memory. -/
set_option linter.unusedVariables false
set_option linter.unusedSimpArgs false
namespace Go.Ar
open Go Go.Den Go.Den.YtfaclehehhgpcaaGreat

set_option maxRecDepth 100000 in
theorem rows_ok {h : Heap} {K : Value → Heap → Prop} {Kp : List PanicEntry → Heap → Prop} (hk : ∀ h', hext h h' → K (.agg rowsV.toArray) h') : CP F_arith_rows #[] h K Kp := by
  refine call_arith_rows ?_
  unfold arith_rows
  have H := Hp.nil h []
  refine newC_hp H fun r h H => ?_
  refine stVs_all H 0 rfl (by kernel_rfl) (List.all_eq_true.1 (by kernel_rfl)) fun h' hsz H' => ?_
  refine ldAll_hp H' 0 rfl (by kernel_rfl) ?_
  have key : ∀ X, X = rowsV → K (.agg X.toArray) h' := fun X e => e ▸ hk _ H'.hext
  refine key _ ?_
  kernel_rfl

def tabV (q n : Nat) : List Value := rowsV ++ [.slice (some ⟨q, 0, none⟩) n n, .int .i64 0]
theorem tab_eq (q n : Nat) : putL (putL Z_arith_table 0 rowsV) 188 [.slice (some ⟨q, 0, none⟩) n n] = tabV q n := by kernel_rfl
theorem tab_length (q n : Nat) : (tabV q n).length = 190 := by kernel_rfl
theorem rows_cells : ∀ n, (rowsN n).all Value.oneCell' = true
  | 0 => rfl
  | n + 1 => by rw [rowsN, List.all_append, rows_cells n]; rfl
theorem tab_cells (q n : Nat) : ∀ v ∈ tabV q n, v.oneCell' = true := List.all_eq_true.1 (by unfold tabV; rw [List.all_append]; unfold rowsV; rw [rows_cells]; rfl)
theorem u8s_zero (n : Nat) : repZ [.int .u8 0] n = u8s (List.replicate n 0) := by rw [repZ_one]; simp [u8s]

set_option maxRecDepth 100000 in
theorem made_ok {h : Heap} {n : Nat} (h1 : 1 ≤ n) (h2 : n ≤ 131072) {K : Value → Heap → Prop} {Kp : List PanicEntry → Heap → Prop}
    (hk : ∀ q h', Hp h [] h' [⟨q, true, T_uint8, u8s (List.replicate n 0)⟩] → K (.tuple #[.agg (tabV q n).toArray, .bool true]) h') : CP F_arith_made #[.int .i64 (n : Nat)] h K Kp := by
  refine call_arith_made ?_
  unfold arith_made
  have H := Hp.nil h []
  refine newC_hp H fun r h H => ?_
  refine bcase_false (by simp; omega) ?_
  refine bcase_false (by simp; omega) ?_
  refine ⟨rows_ok fun h2 e => ?_, ?_⟩
  · refine ⟨rowsV, hR, rfl, e, ?_⟩
    have H := H.ext e
    refine needs_of (by simp; omega) ?_
    simp only [Int.toNat_natCast, u8s_zero]
    refine newC_hp H fun q h H => ?_
    refine needs_of ⟨hR, by decide⟩ ?_
    refine needs_of (by exact ⟨rfl, by rw [putL_length]; decide⟩) ?_
    refine needs_of (by rw [tab_eq]; exact tab_length q n) ?_
    rw [tab_eq]
    refine stVs_all H 0 rfl (tab_length q n) (tab_cells q n) fun h' hsz H => ?_
    refine ldAll_hp H 0 rfl (tab_length q n) ?_
    exact hk q _ (H.pick [1] (by decide) rfl)
  · refine needs_of (by simp; omega) ?_
    simp only [Int.toNat_natCast, u8s_zero]
    refine newC_hp H fun q h H => ?_
    refine rows_ok fun h2 e => ?_
    refine ⟨rowsV, hR, rfl, e, ?_⟩
    have H := H.ext e
    refine needs_of ⟨hR, by decide⟩ ?_
    refine needs_of (by exact ⟨rfl, by rw [putL_length]; decide⟩) ?_
    refine needs_of (by rw [tab_eq]; exact tab_length q n) ?_
    rw [tab_eq]
    refine stVs_all H 0 rfl (tab_length q n) (tab_cells q n) fun h' hsz H => ?_
    refine ldAll_hp H 0 rfl (tab_length q n) ?_
    exact hk q _ (H.pick [1] (by decide) rfl)

theorem new_eq (q r n : Nat) : putL (putL (putL (putL Z_arith_Coder 0 (tabV q n)) 190 ([.int .u32 32768] : List Value)) 192 ([.int .i64 12] : List Value)) 193 ([.slice (some ⟨r, 0, none⟩) 1 1] : List Value) = rowsV ++ crest q n 0 0x8000 0 12 r 1 1 false := by kernel_rfl

set_option maxRecDepth 100000 in
theorem new_ok {h : Heap} {n : Nat} (h1 : 1 ≤ n) (h2 : n ≤ 131072) {K : Value → Heap → Prop} {Kp : List PanicEntry → Heap → Prop}
    (hk : ∀ p q r h', Hp h [] h' (codL p q r (newC n) []) → K (.tuple #[.pointer (at0 p), .int .i64 0]) h') : CP F_arith_New #[.int .i64 (n : Nat)] h K Kp := by
  refine call_arith_New ?_
  unfold arith_New
  refine made_ok h1 h2 fun q h' H => ?_
  refine ⟨tabV q n, tab_length q n, true, rfl, ?_⟩
  refine newC_hp H fun t h H => ?_
  refine needs_of (tab_length q n) ?_
  refine stVs_all H 1 rfl (tab_length q n) (tab_cells q n) fun h' hsz H => ?_
  refine bcase_false (by rfl) ?_
  refine ldAll_hp H 1 rfl (tab_length q n) ?_
  refine newC_hp H fun r h H => ?_
  refine needs_of ⟨tab_length q n, by decide⟩ ?_
  refine needs_of (by exact ⟨rfl, by simp only [putL_length]; decide⟩) ?_
  refine needs_of (by exact ⟨rfl, by simp only [putL_length]; decide⟩) ?_
  refine needs_of (by exact ⟨rfl, by simp only [putL_length]; decide⟩) ?_
  rw [new_eq]
  refine newC_hp H fun p h H => ?_
  refine hk p q r _ ?_
  have H2 := H.pick [3, 0, 2] (by decide) (L' := codL p q r (newC n) []) (by simp [codL, codE, newC, u8s])
  exact H2

/-! ### Flush -/
theorem flushC_or (c : Nat) : c ||| 65535 = c / 65536 * 65536 + 65535 := by
  have h1 : c % 65536 ||| 65535 = 65535 := by
    apply Nat.eq_of_testBit_eq
    intro i
    rw [Nat.testBit_or, show 65535 = 2 ^ 16 - 1 from rfl, Nat.testBit_two_pow_sub_one]
    by_cases hi : i < 16
    · simp [hi]
    · have : (c % 65536).testBit i = false := Nat.testBit_lt_two_pow (Nat.lt_of_lt_of_le (Nat.mod_lt c (by decide : 65536 > 0)) (by
        have : 2 ^ 16 ≤ 2 ^ i := Nat.pow_le_pow_right (by omega) (by omega)
        simpa using this))
      simp [hi, this]
  have h2 := Nat.two_pow_add_eq_or_of_lt (i := 16) (b := c % 65536) (by omega) (c / 65536)
  have h3 := Nat.two_pow_add_eq_or_of_lt (i := 16) (b := 65535) (by omega) (c / 65536)
  calc c ||| 65535 = (2 ^ 16 * (c / 65536) + c % 65536) ||| 65535 := by congr 1; omega
    _ = (2 ^ 16 * (c / 65536)) ||| (c % 65536 ||| 65535) := by rw [h2, Nat.or_assoc]
    _ = _ := by rw [h1, ← h3]; omega

def flushI : Nat → Cod → Cod
  | 0, s => s
  | n + 1, s => flushS (flushI n s)
/-- What Flush's rounds start with. -/
structure Fl (s : Cod) (k : Nat) : Prop where
  c : s.c * 2 ^ s.t < 4294967296
  t : s.t ≤ 12
  l : s.l < 256
  n : s.bs.length ≤ 900000000 + k
theorem flushS_fl {s : Cod} {k : Nat} (h : Fl s k) : Fl (flushS s) (k + 1) ∧ (flushS s).bs.length = s.bs.length + 1 := by
  have hm : ∀ (s : Cod) (l c : Nat), l < 256 → c < 4294967296 → s.bs.length ≤ 900000000 + k → Fl (outTail s l c) (k + 1) ∧ (outTail s l c).bs.length = s.bs.length + 1 := fun s l c hl hc hn => by
    unfold outTail
    split
    · exact ⟨⟨by show c % 1048576 * 2 ^ 7 < _; omega, by show 7 ≤ 12; omega, by show c / 1048576 % 256 < 256; omega, by simp; omega⟩, by simp⟩
    · exact ⟨⟨by show c % 524288 * 2 ^ 8 < _; omega, by show 8 ≤ 12; omega, by show c / 524288 % 256 < 256; omega, by simp; omega⟩, by simp⟩
  unfold flushS outM
  split
  · rename_i h1
    have h1 : s.l ≠ 255 ∧ _ := h1
    exact hm { s with c := s.c * 2 ^ s.t } _ _ (by show s.l + 1 < 256; have := h.l; omega) (by show s.c * 2 ^ s.t % 134217728 < _; have := h.c; omega) h.n
  · exact hm { s with c := s.c * 2 ^ s.t } _ _ h.l h.c h.n

theorem flush_ok {h : Heap} {p q r : Nat} {s : Cod} {rest : List Value} {F : List Nat} {h0 : Heap} (H : Hp h0 F h (codL p q r s rest)) (hs : Wf s) (hd : s.done = false)
    {K : Value → Heap → Prop} {Kp : List PanicEntry → Heap → Prop} (hk : ∀ r' rest' o orest h', Hp h0 F h' (codL p q r' (flushM s) rest' ++ [⟨o, true, T_uint8, u8s (bytesM (flushM s)) ++ orest⟩]) →
      K (.tuple #[.slice (at0 o) (bytesM (flushM s)).length ((bytesM (flushM s)).length + orest.length), .int .i64 0]) h') :
    CP F_arith_Coder_Flush #[.pointer (at0 p)] h K Kp := by
  refine call_arith_Coder_Flush ?_
  unfold arith_Coder_Flush
  have hca := hs.ca
  have hcp := pow_le hs.t1
  have hlen := hs.len
  have hn := hs.n
  have hcl : flushC s < 2 ^ (28 - s.t) + 65536 := by
    unfold flushC
    simp only []
    split <;> omega
  have hfl : Fl { s with c := flushC s, done := true } 0 := by
    refine ⟨?_, hs.t12, hs.l, by show s.bs.length ≤ _; omega⟩
    show flushC s * 2 ^ s.t < 4294967296
    have h1 : (2 : Nat) ^ s.t ≤ 2 ^ 12 := Nat.pow_le_pow_right (by omega) hs.t12
    have h2 : flushC s * 2 ^ s.t < (2 ^ (28 - s.t) + 65536) * 2 ^ s.t := Nat.mul_lt_mul_of_pos_right hcl (Nat.two_pow_pos _)
    have h3 : 2 ^ (28 - s.t) * 2 ^ s.t = 2 ^ 28 := by rw [← Nat.pow_add]; congr 1; have := hs.t12; omega
    rw [Nat.add_mul, h3] at h2
    omega
  try simp only [ptr_some_eq, add_mk, Nat.zero_add, Nat.add_zero]
  refine ldB_of (H.cell 0 rfl (app_get hR 6 (congrArg (fun b => some (Value.bool b)) hd))) ?_
  refine bcase_false (by rfl) ?_
  refine stV_hr H 0 rfl hR 6 (Nat.le_of_ble_eq_true rfl) rfl fun h hsz H => ?_
  refine ldI_of (H.cell 0 rfl (app_get hR 3 rfl)) ?_
  refine ldI_of (H.cell 0 rfl (app_get hR 2 rfl)) ?_
  refine bindI_of (((s.c + s.a : Nat) : Int)) (by exact u32_at _ _ (by omega) (by omega)) ?_
  refine ⟨fun vs h' => Hp h0 F h' (codL p q r { s with c := flushC s, done := true } rest), ?_, ?_⟩
  · refine ldI_of (H.cell 0 rfl (app_get hR 3 rfl)) ?_
    refine bindI_of (((s.c / 65536 * 65536 + 65535 : Nat) : Int)) (by exact (or32 _ 65535 (by omega) (by omega)).trans (by rw [flushC_or])) ?_
    refine stV_hr H 0 rfl hR 3 (Nat.le_of_ble_eq_true rfl) rfl fun h hsz H => ?_
    refine ldI_of (H.cell 0 rfl (app_get hR 3 rfl)) ?_
    refine bcase_of (fun h1 => ?_) fun h1 => ?_
    · have h1 : s.c + s.a ≤ s.c / 65536 * 65536 + 65535 := by simp at h1; omega
      refine ldI_of (H.cell 0 rfl (app_get hR 3 rfl)) ?_
      refine bindI_of (((s.c / 65536 * 65536 + 65535 - 0x8000 : Nat) : Int)) (by exact u32_at _ _ (by omega) (by omega)) ?_
      refine stV_hr H 0 rfl hR 3 (Nat.le_of_ble_eq_true rfl) rfl fun h hsz H => ?_
      have e : flushC s = s.c / 65536 * 65536 + 65535 - 0x8000 := by unfold flushC; simp only []; rw [if_pos h1]
      rw [e]
      exact H
    · have h1 : ¬ s.c + s.a ≤ s.c / 65536 * 65536 + 65535 := by simp at h1; omega
      have e : flushC s = s.c / 65536 * 65536 + 65535 := by unfold flushC; simp only []; rw [if_neg h1]
      rw [e]
      exact H
  · intro h u H
    generalize hS : ({ s with c := flushC s, done := true } : Cod) = S at H hfl
    have hfm : flushM s = flushI 2 S := by rw [← hS]; rfl
    rw [hfm] at hk
    refine ⟨fun n vs h' => ∃ r' rest', n ≤ 2 ∧ vs = [.int .i64 ((2 - n : Nat) : Int)] ∧ Hp h0 F h' (codL p q r' (flushI (2 - n) S) rest') ∧ Fl (flushI (2 - n) S) (2 - n) ∧ (flushI (2 - n) S).bs.length = S.bs.length + (2 - n), ⟨2, r, rest, Nat.le_refl _, rfl, H, by simpa [flushI] using hfl, rfl⟩, ?_⟩
    clear H
    rintro n h u x ⟨r', rest', hn2, hx, H, hf, hbl⟩
    injection hx with hx
    injection hx with _ hx
    subst hx
    try simp only [ptr_some_eq, add_mk, Nat.zero_add, Nat.add_zero]
    refine bcase_of (fun h1 => ?_) fun h1 => ?_
    · have h1 : 1 ≤ n := by simp at h1; omega
      obtain ⟨m, rfl⟩ : ∃ m, n = m + 1 := ⟨n - 1, by omega⟩
      have hm1 : 2 - m = (2 - (m + 1)) + 1 := by omega
      generalize 2 - (m + 1) = k at hm1 H hf hbl
      obtain ⟨hf2, hbl2⟩ := flushS_fl hf
      have hft := hf.t
      have hfc := hf.c
      have hfn := hf.n
      have hc0 : (flushI k S).c < 4294967296 := Nat.lt_of_le_of_lt (Nat.le_mul_of_pos_right _ (Nat.two_pow_pos _)) hfc
      refine ldI_of (H.cell 0 rfl (app_get hR 3 rfl)) ?_
      refine ldI_of (H.cell 0 rfl (app_get hR 4 rfl)) ?_
      refine needs_of (by omega) ?_
      refine bindI_of ((((flushI k S).c * 2 ^ (flushI k S).t : Nat) : Int)) (by exact shl_of (by show (flushI k S).t ≤ 32; omega) (u32_in _ hfc)) ?_
      refine stV_hr H 0 rfl hR 3 (Nat.le_of_ble_eq_true rfl) rfl fun h hsz H => ?_
      have H2 : Hp h0 F _ (codL p q r' { flushI k S with c := (flushI k S).c * 2 ^ (flushI k S).t } rest') := H
      refine out_ok H2 hf.l hfc (by show (flushI k S).bs.length < _; omega) fun r2 rest2 h2 H => ?_
      refine bindI_of (((k + 1 : Nat) : Int)) (by exact i64_at _ _ (by omega) (by omega) (by omega)) ?_
      refine ⟨m, Nat.lt_succ_self m, r2, rest2, by omega, by rw [hm1], ?_, ?_, ?_⟩
      · rw [hm1]; exact H
      · rw [hm1]; exact hf2
      · rw [hm1]; show (flushS (flushI k S)).bs.length = _; omega
    · have h1 : n = 0 := by simp at h1; omega
      subst h1
      have hbl : (flushI 2 S).bs.length = S.bs.length + 2 := hbl
      have H : Hp h0 F h (codL p q r' (flushI 2 S) rest') := H
      have hfn : (flushI 2 S).bs.length ≤ 900000000 + 2 := hf.n
      generalize hE : flushI 2 S = E at H hbl hk
      have hEn : E.bs.length < 900000005 := by rw [← hE]; omega
      have hEl : E.l < 256 := by rw [← hE]; exact hf.l
      refine ldS_of (H.cell 0 rfl (app_get hR 5 rfl)) ?_
      refine needs_of (by omega) ?_
      have hsub : ((E.bs.length + 1 - (1 : Int).toNat : Nat) : Int) = (E.bs.length : Nat) := by simp
      rw [hsub]
      refine bindI_of (((E.bs.length - 1 : Nat) : Int)) (by exact i64_at _ _ (by omega) (by omega) (by omega)) ?_
      refine needs_of (by omega) ?_
      have e1 : subA (some ⟨r', 0, none⟩) (E.bs.length + 1 + rest'.length) (1 : Int).toNat 1 = some ⟨r', 1, none⟩ := by
        unfold subA
        rw [if_neg (by simp; omega)]
        rfl
      rw [e1]
      try simp only [ptr_some_eq, add_mk, Nat.zero_add, Nat.add_zero]
      simp only [Int.toNat_natCast, Nat.mul_one]
      have e2 : 1 + (E.bs.length - 1) = E.bs.length := by omega
      rw [e2]
      refine ldI_of (H.cell 2 rfl (last_get _ _ _)) ?_
      have hb : bytesM E = if E.l = 255 then ((E.bs ++ [E.l]).drop 1).dropLast else (E.bs ++ [E.l]).drop 1 := rfl
      refine bcase_of (fun h1 => ?_) fun h1 => ?_
      · have h1 : E.l = 255 := by simp at h1; omega
        rw [if_pos h1] at hb
        refine bindI_of (((E.bs.length - 1 : Nat) : Int)) (by exact i64_at _ _ (by omega) (by omega) (by omega)) ?_
        refine needs_of (by simp; omega) ?_
        have e3 : subA (some ⟨r', 1, none⟩) (E.bs.length + 1 + rest'.length - (1 : Int).toNat) 0 1 = some ⟨r', 1, none⟩ := by
          unfold subA
          split <;> rfl
        rw [e3]
        simp only [Int.toNat_natCast, Nat.sub_zero]
        have hlen : ((u8s (E.bs ++ [E.l]) ++ rest').drop 1).take ((E.bs.length - 1) * 1) = u8s (bytesM E) := by
          rw [hb, Nat.mul_one, List.drop_append_of_le_length (by rw [u8s_length]; simp), List.take_append_of_le_length (by rw [List.length_drop, u8s_length]; simp)]
          unfold u8s
          rw [← List.map_drop, ← List.map_take, List.dropLast_eq_take]
          congr 2
          simp
        have hl2 : (bytesM E).length = E.bs.length - 1 := by rw [hb]; simp
        have hr := rdO_hp H 2 (o := 1) (n := (E.bs.length - 1) * 1) rfl (by simp [u8s_length]; omega)
        rw [hlen] at hr
        refine appC_new H hr (by rw [u8s_length, hl2]) (by omega) (by omega) fun o orest h' _ H => ?_
        have := hk r' rest' o orest _ H
        rw [hl2] at this
        exact this
      · have h1 : ¬ E.l = 255 := by simp at h1; omega
        rw [if_neg h1] at hb
        have hlen : ((u8s (E.bs ++ [E.l]) ++ rest').drop 1).take (E.bs.length * 1) = u8s (bytesM E) := by
          rw [hb, Nat.mul_one, List.drop_append_of_le_length (by rw [u8s_length]; simp), List.take_append_of_le_length (by rw [List.length_drop, u8s_length]; simp)]
          unfold u8s
          rw [← List.map_drop, ← List.map_take, List.take_of_length_le (by simp)]
        have hl2 : (bytesM E).length = E.bs.length := by rw [hb]; simp
        have hr := rdO_hp H 2 (o := 1) (n := E.bs.length * 1) rfl (by simp [u8s_length]; omega)
        rw [hlen] at hr
        have e4 : E.bs.length + 1 - (1 : Int).toNat = E.bs.length := by simp
        rw [e4]
        refine appC_new H hr (by rw [u8s_length, hl2]) (by omega) (by omega) fun o orest h' _ H => ?_
        have := hk r' rest' o orest _ H
        rw [hl2] at this
        exact this

/-! ### States -/
end Go.Ar

/- ArD: a decoder in memory; what its functions do with it. -/
set_option linter.unusedVariables false
set_option linter.unusedSimpArgs false
namespace Go.Ar
open Go Go.Den Go.Den.YtfaclehehhgpcaaGreat

/-- The row of a decoder's bytes: where there are none, any row of its own. -/
def BOk (e : Ent) (bp : Option Addr) (b : List Nat) : Prop := e.w = true ∧ (b = [] ∨ ∃ rest, bp = some ⟨e.b, 0, none⟩ ∧ e.cs = u8s b ++ rest)
def drest (q nst n a c : Nat) (t : Int) (bp : Option Addr) (bl bc : Nat) (i : Nat) : List Value :=
  [.slice (some ⟨q, 0, none⟩) nst nst, .int .i64 (n : Nat), .int .u32 (a : Nat), .int .u32 (c : Nat), .int .i64 t, .slice bp bl bc, .int .i64 (i : Nat)]
def decE (p q : Nat) (bp : Option Addr) (bc : Nat) (s : Dec) : Ent :=
  ⟨p, true, T_arith_Decoder, rowsV ++ drest q s.st.length s.n s.a s.c (s.t : Nat) bp s.b.length bc s.i⟩
def decL (p q : Nat) (e : Ent) (bp : Option Addr) (bc : Nat) (s : Dec) : List Ent := [decE p q bp bc s, ⟨q, true, T_uint8, u8s s.st⟩, e]

theorem byte_ok {h : Heap} {p q : Nat} {e : Ent} {bp : Option Addr} {bc : Nat} {s : Dec} {F : List Nat} {h0 : Heap} (H : Hp h0 F h (decL p q e bp bc s)) (hb : BOk e bp s.b) (hb8 : ∀ x ∈ s.b, x < 256) {i : Nat}
    {K : Value → Heap → Prop} {Kp : List PanicEntry → Heap → Prop} (hk : K (.int .u32 (byteD s i : Nat)) h) : CP F_arith_Decoder_byte #[.pointer (at0 p), .int .i64 (i : Nat)] h K Kp := by
  refine call_arith_Decoder_byte ?_
  unfold arith_Decoder_byte
  try simp only [ptr_some_eq, add_mk, Nat.zero_add, Nat.add_zero]
  refine ldS_of (H.cell 0 rfl (app_get hR 5 rfl)) ?_
  refine bcase_of (fun h1 => ?_) fun h1 => ?_
  · have h1 : i < s.b.length := by simp at h1; omega
    obtain ⟨_, hb | ⟨rest, hbp, he⟩⟩ := hb
    · rw [hb] at h1; simp at h1
    · have hg : s.b[i]? = some (byteD s i) := by
        unfold byteD
        rw [List.getD_eq_getElem?_getD, List.getElem?_eq_getElem h1]; rfl
      have hlt := byteD_lt hb8 (s := s) i
      refine ldS_of (H.cell 0 rfl (app_get hR 5 rfl)) ?_
      refine needs_of (by omega) ?_
      rw [hbp]
      simp only [Int.toNat_natCast, Nat.mul_one]
      try simp only [ptr_some_eq, add_mk, Nat.zero_add, Nat.add_zero]
      refine ldI_of (H.cell 2 rfl (i := i) (by rw [he]; exact get_app (u8s_get hg))) ?_
      refine bindI_of (((byteD s i : Nat) : Int)) (by exact u32_in _ (by omega)) ?_
      exact hk
  · have h1 : s.b.length ≤ i := by simp at h1; omega
    have hg : byteD s i = 255 := by
      unfold byteD
      rw [List.getD_eq_getElem?_getD, List.getElem?_eq_none h1]; rfl
    rw [hg] at hk
    exact hk

theorem inD_eq (s : Dec) : inD s =
  if byteD s s.i ≠ 255 then { s with i := s.i + 1, c := (s.c + byteD s (s.i + 1) * 256) % M32, t := 8 }
  else if byteD s (s.i + 1) > 143 then { s with c := (s.c + 65280) % M32, t := 8 }
  else { s with i := s.i + 1, c := (s.c + byteD s (s.i + 1) * 512) % M32, t := 7 } := rfl
theorem in_ok {h : Heap} {p q : Nat} {e : Ent} {bp : Option Addr} {bc : Nat} {s : Dec} {F : List Nat} {h0 : Heap} (H : Hp h0 F h (decL p q e bp bc s)) (hb : BOk e bp s.b) (hs : MidD s) (hbl : s.b.length < 140737488351300)
    {K : Value → Heap → Prop} {Kp : List PanicEntry → Heap → Prop} (hk : ∀ h', Hp h0 F h' (decL p q e bp bc (inD s)) → K (.tuple #[]) h') : CP F_arith_Decoder_in #[.pointer (at0 p)] h K Kp := by
  refine call_arith_Decoder_in ?_
  unfold arith_Decoder_in
  have hi := hs.i
  have hc := hs.c
  have hM : M32 = 4294967296 := rfl
  have hb1 := byteD_lt hs.b (s := s) (s.i + 1)
  have hb0 := byteD_lt hs.b (s := s) s.i
  try simp only [ptr_some_eq, add_mk, Nat.zero_add, Nat.add_zero]
  refine ldI_of (H.cell 0 rfl (app_get hR 6 rfl)) ?_
  refine byte_ok H hb hs.b ?_
  refine ⟨_, rfl, ?_⟩
  rw [inD_eq] at hk
  refine bcase_of (fun h1 => ?_) fun h1 => ?_
  · have h1 : byteD s s.i ≠ 255 := by simp at h1; omega
    rw [if_pos h1] at hk
    refine ldI_of (H.cell 0 rfl (app_get hR 6 rfl)) ?_
    refine bindI_of (((s.i + 1 : Nat) : Int)) (by exact i64_at _ _ (by omega) (by omega) (by omega)) ?_
    refine stV_hr H 0 rfl hR 6 (Nat.le_of_ble_eq_true rfl) rfl fun h hsz H => ?_
    refine ldI_of (H.cell 0 rfl (app_get hR 3 rfl)) ?_
    refine ldI_of (H.cell 0 rfl (app_get hR 6 rfl)) ?_
    have H2 : Hp h0 F h (decL p q e bp bc { s with i := s.i + 1 }) := H
    refine byte_ok H2 hb hs.b ?_
    refine ⟨_, rfl, hext.refl _, ?_⟩
    have hb2 : byteD { s with i := s.i + 1 } (s.i + 1) = byteD s (s.i + 1) := rfl
    rw [hb2]
    refine bindI_of (((byteD s (s.i + 1) * 256 : Nat) : Int)) (by exact shl_of (i := 8) (by decide) (u32_in _ (by omega))) ?_
    refine bindI_of ((((s.c + byteD s (s.i + 1) * 256) % M32 : Nat) : Int)) (by rw [IntKind.wrap_u32, hM]; omega) ?_
    refine stV_hr H 0 rfl hR 3 (Nat.le_of_ble_eq_true rfl) rfl fun h hsz H => ?_
    refine stV_hr H 0 rfl hR 4 (Nat.le_of_ble_eq_true rfl) rfl fun h hsz H => ?_
    exact hk _ H
  · have h1 : ¬ byteD s s.i ≠ 255 := by simp at h1; omega
    rw [if_neg h1] at hk
    refine ldI_of (H.cell 0 rfl (app_get hR 6 rfl)) ?_
    refine bindI_of (((s.i + 1 : Nat) : Int)) (by exact i64_at _ _ (by omega) (by omega) (by omega)) ?_
    refine byte_ok H hb hs.b ?_
    refine ⟨_, rfl, ?_⟩
    refine bcase_of (fun h2 => ?_) fun h2 => ?_
    · have h2 : byteD s (s.i + 1) > 143 := by simp at h2; omega
      rw [if_pos h2] at hk
      refine ldI_of (H.cell 0 rfl (app_get hR 3 rfl)) ?_
      refine bindI_of ((((s.c + 65280) % M32 : Nat) : Int)) (by rw [IntKind.wrap_u32, hM]; omega) ?_
      refine stV_hr H 0 rfl hR 3 (Nat.le_of_ble_eq_true rfl) rfl fun h hsz H => ?_
      refine stV_hr H 0 rfl hR 4 (Nat.le_of_ble_eq_true rfl) rfl fun h hsz H => ?_
      exact hk _ H
    · have h2 : ¬ byteD s (s.i + 1) > 143 := by simp at h2; omega
      rw [if_neg h2] at hk
      refine ldI_of (H.cell 0 rfl (app_get hR 6 rfl)) ?_
      refine bindI_of (((s.i + 1 : Nat) : Int)) (by exact i64_at _ _ (by omega) (by omega) (by omega)) ?_
      refine stV_hr H 0 rfl hR 6 (Nat.le_of_ble_eq_true rfl) rfl fun h hsz H => ?_
      refine ldI_of (H.cell 0 rfl (app_get hR 3 rfl)) ?_
      refine ldI_of (H.cell 0 rfl (app_get hR 6 rfl)) ?_
      have H2 : Hp h0 F h (decL p q e bp bc { s with i := s.i + 1 }) := H
      refine byte_ok H2 hb hs.b ?_
      refine ⟨_, rfl, hext.refl _, ?_⟩
      have hb2 : byteD { s with i := s.i + 1 } (s.i + 1) = byteD s (s.i + 1) := rfl
      rw [hb2]
      refine bindI_of (((byteD s (s.i + 1) * 512 : Nat) : Int)) (by exact shl_of (i := 9) (by decide) (u32_in _ (by omega))) ?_
      refine bindI_of ((((s.c + byteD s (s.i + 1) * 512) % M32 : Nat) : Int)) (by rw [IntKind.wrap_u32, hM]; omega) ?_
      refine stV_hr H 0 rfl hR 3 (Nat.le_of_ble_eq_true rfl) rfl fun h hsz H => ?_
      refine stV_hr H 0 rfl hR 4 (Nat.le_of_ble_eq_true rfl) rfl fun h hsz H => ?_
      exact hk _ H

theorem shiftD_eq (s : Dec) : shiftD s = { (if s.t = 0 then inD s else s) with a := 2 * (if s.t = 0 then inD s else s).a, c := 2 * (if s.t = 0 then inD s else s).c % M32, t := (if s.t = 0 then inD s else s).t - 1 } := rfl
theorem renewD_succ (n : Nat) (s : Dec) : renewD (n + 1) s = if 0x8000 ≤ (shiftD s).a then shiftD s else renewD n (shiftD s) := rfl

theorem renewD_ok {h : Heap} {p q : Nat} {e : Ent} {bp : Option Addr} {bc : Nat} {s : Dec} {F : List Nat} {h0 : Heap} (H : Hp h0 F h (decL p q e bp bc s)) (hb : BOk e bp s.b) (hs : MidD s) (hbl : s.b.length < 140737488351300) (ha : 1 ≤ s.a) (ha' : s.a < 0x8000)
    {K : Value → Heap → Prop} {Kp : List PanicEntry → Heap → Prop} (hk : ∀ h', Hp h0 F h' (decL p q e bp bc (renewD 17 s)) → K (.tuple #[]) h') : CP F_arith_Decoder_renew #[.pointer (at0 p)] h K Kp := by
  refine call_arith_Decoder_renew ?_
  unfold arith_Decoder_renew
  refine ⟨fun n vs h' => ∃ s' : Dec, Hp h0 F h' (decL p q e bp bc s') ∧ MidD s' ∧ s'.a < 0x8000 ∧ 0x8000 ≤ s'.a * 2 ^ n ∧ renewD n s' = renewD 17 s ∧ s'.b = s.b,
    ⟨17, s, H, hs, ha', by have : (2 : Nat) ^ 17 = 131072 := rfl; omega, rfl, rfl⟩, ?_⟩
  clear H
  rintro n h u ⟨s', H, hm, hlt, hge, he, hbe⟩
  obtain ⟨n, rfl⟩ : ∃ m, n = m + 1 := by
    cases n with
    | zero => simp at hge; omega
    | succ m => exact ⟨m, rfl⟩
  obtain ⟨g1, g2, g3, g4, g5⟩ := shiftD_mid hm
  have hnext : 0x8000 ≤ (shiftD s').a * 2 ^ n := by
    rw [g2]
    rw [Nat.pow_succ] at hge
    have : s'.a * (2 ^ n * 2) = 2 * s'.a * 2 ^ n := by rw [Nat.mul_comm (2 ^ n) 2, ← Nat.mul_assoc, Nat.mul_comm s'.a 2]
    omega
  rw [renewD_succ] at he
  rw [← hbe] at hb hbl
  refine ⟨fun vs h' => Hp h0 F h' (decL p q e bp bc (if s'.t = 0 then inD s' else s')), ?_, ?_⟩
  · try simp only [ptr_some_eq, add_mk, Nat.zero_add, Nat.add_zero]
    refine ldI_of (H.cell 0 rfl (app_get hR 4 rfl)) ?_
    refine bcase_of (fun h1 => ?_) fun h1 => ?_
    · have h1 : s'.t = 0 := by simp at h1; omega
      refine in_ok H hb hm hbl fun h' H => ?_
      rw [if_pos h1]
      exact H
    · have h1 : ¬ s'.t = 0 := by simp at h1; omega
      rw [if_neg h1]
      exact H
  · intro h u H
    rw [shiftD_eq] at g1 g2 g5 hnext he
    have hS : MidD (if s'.t = 0 then inD s' else s') ∧ (if s'.t = 0 then inD s' else s').a = s'.a ∧ 1 ≤ (if s'.t = 0 then inD s' else s').t := by
      split
      · obtain ⟨i1, i2, _, _, _, i6⟩ := inD_mid hm
        exact ⟨i1, i2, i6⟩
      · exact ⟨hm, rfl, by omega⟩
    generalize (if s'.t = 0 then inD s' else s') = S at H g1 g2 g5 hnext he hS
    obtain ⟨hS1, hS2, hS3⟩ := hS
    have hSc := hS1.c
    have hSt := hS1.t8
    have hM : M32 = 4294967296 := rfl
    try simp only [ptr_some_eq, add_mk, Nat.zero_add, Nat.add_zero]
    refine ldI_of (H.cell 0 rfl (app_get hR 2 rfl)) ?_
    refine bindI_of (((2 * S.a : Nat) : Int)) (by exact shl_of (i := 1) (by decide) ((u32_in _ (by omega)).trans (by omega))) ?_
    refine stV_hr H 0 rfl hR 2 (Nat.le_of_ble_eq_true rfl) rfl fun h hsz H => ?_
    refine ldI_of (H.cell 0 rfl (app_get hR 3 rfl)) ?_
    refine bindI_of (((2 * S.c % M32 : Nat) : Int)) (by exact shl_of (i := 1) (by decide) (by rw [IntKind.wrap_u32, hM]; omega)) ?_
    refine stV_hr H 0 rfl hR 3 (Nat.le_of_ble_eq_true rfl) rfl fun h hsz H => ?_
    refine ldI_of (H.cell 0 rfl (app_get hR 4 rfl)) ?_
    refine bindI_of (((S.t - 1 : Nat) : Int)) (by exact i64_at _ _ (by omega) (by omega) (by omega)) ?_
    refine stV_hr H 0 rfl hR 4 (Nat.le_of_ble_eq_true rfl) rfl fun h hsz H => ?_
    refine ldI_of (H.cell 0 rfl (app_get hR 2 rfl)) ?_
    have H2 : Hp h0 F h (decL p q e bp bc { S with a := 2 * S.a, c := 2 * S.c % M32, t := S.t - 1 }) := H
    refine bcase_of (fun h3 => ?_) fun h3 => ?_
    · have h3 : 0x8000 ≤ 2 * S.a := by simp at h3; omega
      rw [if_pos h3] at he
      exact hk _ (he ▸ H2)
    · have h3 : ¬ 0x8000 ≤ 2 * S.a := by simp at h3; omega
      rw [if_neg h3] at he
      exact ⟨n, Nat.lt_succ_self n, _, H2, g1, by show 2 * S.a < _; omega, hnext, he, g5.trans hbe⟩

/-! ### NewDecoder -/
theorem dec_eq (q n : Nat) (bp : Option Addr) (bl bc : Nat) : putL (putL (putL Z_arith_Decoder 0 (tabV q n)) 190 ([.int .u32 32768] : List Value)) 193 ([.slice bp bl bc] : List Value) = rowsV ++ drest q n 0 0x8000 0 0 bp bl bc 0 := by kernel_rfl

/-- What NewDecoder has behind its first lines. -/
def dec0 (b : List Nat) (n : Nat) : Dec := { a := 0x8000, c := 0, t := 0, n := 0, st := List.replicate n 0, b := b, i := 0 }

theorem appC_nil {h0 h : Heap} {F : List Nat} {L : List Ent} (H : Hp h0 F h L) {t : TypeId} {by_ : Nat} {z : Value} {src : Option Addr} {new : List Value} (hr : rdO h src (0 * 1) new) {K : Option Addr → Nat → Nat → Heap → Prop} (hk : K none 0 0 h) :
    appC h t 1 by_ [z] none 0 0 src 0 K := ⟨new, hr, by rw [if_pos (Nat.le_refl _)]; exact hk⟩

set_option maxRecDepth 100000 in
theorem newDecoder_ok {hB : Heap} {n : Nat} (h1 : 1 ≤ n) (h2 : n ≤ 131072) {b : List Nat} (hb : ∀ x ∈ b, x < 256) (hbl : b.length < 140737488351300) {src : Option Addr} {bc0 : Nat} (hr : rdO hB src (b.length * 1) (u8s b)) {K : Value → Heap → Prop} {Kp : List PanicEntry → Heap → Prop}
    (hk : ∀ p q e bp bc h', BOk e bp b → Hp hB [] h' (decL p q e bp bc (newD b n)) → K (.tuple #[.pointer (at0 p), .int .i64 0]) h') : CP F_arith_NewDecoder #[.slice src b.length bc0, .int .i64 (n : Nat)] hB K Kp := by
  refine call_arith_NewDecoder ?_
  unfold arith_NewDecoder
  refine made_ok h1 h2 fun q h' H => ?_
  refine ⟨tabV q n, tab_length q n, true, rfl, ?_⟩
  refine newC_hp H fun t h H => ?_
  refine needs_of (tab_length q n) ?_
  refine stVs_all H 1 rfl (tab_length q n) (tab_cells q n) fun h' hsz H => ?_
  refine bcase_false (by rfl) ?_
  refine ldAll_hp H 1 rfl (tab_length q n) ?_
  have goal : ∀ (bp : Option Addr) (bc : Nat) (e : Ent) (h2 : Heap), BOk e bp b → Hp hB [] h2 [⟨q, true, T_uint8, u8s (List.replicate n 0)⟩, e] →
      needs ((tabV q n).length = 190 ∧ 0 + 190 ≤ (Z_arith_Decoder).length) (
      needs ((([.int .u32 32768] : List Value)).length = 1 ∧ 190 + 1 ≤ ((putL Z_arith_Decoder 0 (tabV q n))).length) <|
      needs ((([.slice bp b.length bc] : List Value)).length = 1 ∧ 193 + 1 ≤ ((putL (putL Z_arith_Decoder 0 (tabV q n)) 190 ([.int .u32 32768] : List Value))).length) <|
      Go.Den.newC h2 ((putL (putL (putL Z_arith_Decoder 0 (tabV q n)) 190 ([.int .u32 32768] : List Value)) 193 ([.slice bp b.length bc] : List Value))) T_arith_Decoder fun r_11 h_12 =>
      CP F_arith_Decoder_byte #[.pointer (some ⟨r_11, 0, none⟩), .int .i64 0] h_12 (fun v_13 h_14 =>
      ∃ (r_15 : Int), v_13 = .int .u32 r_15 ∧ (
      bindI (shlI .u32 r_15 (16 : Int)) fun z_16 =>
      stV h_14 ((⟨r_11, 0, none⟩ : Addr).add 191) (.int .u32 z_16) fun h_17 =>
      CP F_arith_Decoder_in #[.pointer (some ⟨r_11, 0, none⟩)] h_17 (fun v_18 h_19 =>
      ldI h_19 ((⟨r_11, 0, none⟩ : Addr).add 191) .u32 fun x_20 =>
      bindI (shlI .u32 x_20 (7 : Int)) fun z_21 =>
      stV h_19 ((⟨r_11, 0, none⟩ : Addr).add 191) (.int .u32 z_21) fun h_22 =>
      ldI h_22 ((⟨r_11, 0, none⟩ : Addr).add 192) .i64 fun x_23 =>
      bindI (IntKind.i64.wrap (x_23 - (7 : Int))) fun z_24 =>
      stV h_22 ((⟨r_11, 0, none⟩ : Addr).add 192) (.int .i64 z_24) fun h_25 =>
      K (.tuple #[.pointer (some ⟨r_11, 0, none⟩), .int .i64 0]) h_25) (Kp))) (Kp)) := by
    intro bp bc e h2 hbo H
    refine needs_of ⟨tab_length q n, by decide⟩ ?_
    refine needs_of ⟨rfl, by simp only [putL_length]; decide⟩ ?_
    refine needs_of ⟨rfl, by simp only [putL_length]; decide⟩ ?_
    rw [dec_eq]
    refine newC_hp H fun p h H => ?_
    have H2 := H.pick [2, 0, 1] (by decide) (L' := decL p q e bp bc (dec0 b n)) (by simp [decL, decE, dec0])
    have H := H2
    clear H2
    have hb0 := byteD_lt (s := dec0 b n) hb 0
    refine byte_ok (i := 0) H hbo hb ?_
    refine ⟨_, rfl, ?_⟩
    refine bindI_of (((byteD (dec0 b n) 0 * 65536 : Nat) : Int)) (by exact shl_of (i := 16) (by decide) (u32_in _ (by omega))) ?_
    try simp only [ptr_some_eq, add_mk, Nat.zero_add, Nat.add_zero]
    refine stV_hr H 0 rfl hR 3 (Nat.le_of_ble_eq_true rfl) rfl fun h hsz H => ?_
    have H2 : Hp _ [] h (decL p q e bp bc { dec0 b n with c := byteD (dec0 b n) 0 * 65536 }) := H
    have hm : MidD { dec0 b n with c := byteD (dec0 b n) 0 * 65536 } := ⟨Nat.zero_le _, by show byteD (dec0 b n) 0 * 65536 < 4294967296; omega, hb, fun x hx => by simp only [dec0, List.mem_replicate] at hx; omega, Nat.zero_le _⟩
    obtain ⟨i1, i2, i3, i4, i5, i6⟩ := inD_mid hm
    refine in_ok H2 hbo hm hbl fun h H => ?_
    have hn : newD b n = { inD { dec0 b n with c := byteD (dec0 b n) 0 * 65536 } with c := (inD { dec0 b n with c := byteD (dec0 b n) 0 * 65536 }).c * 128 % M32, t := (inD { dec0 b n with c := byteD (dec0 b n) 0 * 65536 }).t - 7 } := rfl
    have ht7 : 7 ≤ (inD { dec0 b n with c := byteD (dec0 b n) 0 * 65536 }).t := by
      unfold inD
      split
      · show 7 ≤ 8; omega
      · split
        · show 7 ≤ 8; omega
        · show 7 ≤ 7; omega
    generalize inD { dec0 b n with c := byteD (dec0 b n) 0 * 65536 } = S at H hn i1 ht7
    have hSc := i1.c
    have hSt := i1.t8
    have hM : M32 = 4294967296 := rfl
    refine ldI_of (H.cell 0 rfl (app_get hR 3 rfl)) ?_
    refine bindI_of (((S.c * 128 % M32 : Nat) : Int)) (by exact shl_of (i := 7) (by decide) (by rw [IntKind.wrap_u32, hM]; omega)) ?_
    refine stV_hr H 0 rfl hR 3 (Nat.le_of_ble_eq_true rfl) rfl fun h hsz H => ?_
    refine ldI_of (H.cell 0 rfl (app_get hR 4 rfl)) ?_
    refine bindI_of (((S.t - 7 : Nat) : Int)) (by exact i64_at _ _ (by omega) (by omega) (by omega)) ?_
    refine stV_hr H 0 rfl hR 4 (Nat.le_of_ble_eq_true rfl) rfl fun h hsz H => ?_
    refine hk p q e bp bc _ hbo ?_
    rw [hn]
    exact H
  have hr2 := H.rdO hr
  rcases Nat.eq_zero_or_pos b.length with hz | hpos
  · have hbn : b = [] := List.length_eq_zero_iff.1 hz
    rw [hz] at hr2 goal ⊢
    refine appC_nil H hr2 ⟨hext.refl _, ?_⟩
    exact goal none 0 ⟨t, true, T_arith_table, tabV q n⟩ _ ⟨rfl, .inl hbn⟩ H
  · refine appC_new H hr2 (u8s_length b) hpos (by omega) fun o rest h' he H' => ⟨he, ?_⟩
    · exact goal (some ⟨o, 0, none⟩) _ ⟨o, true, T_uint8, u8s b ++ rest⟩ _ ⟨rfl, .inr ⟨rest, rfl, rfl⟩⟩ (H'.pick [0, 2] (by decide) rfl)

/-! ### Get -/
theorem getD_at (s : Dec) (k x : Nat) (hx : s.st[k]? = some x) : getD s k =
  if s.c / 65536 < qOf (x / 2) then
    if s.a - qOf (x / 2) < qOf (x / 2) then (renewD 17 { s with a := qOf (x / 2), n := s.n + 1, st := s.st.set k (upM x) }, x % 2)
    else (renewD 17 { s with a := qOf (x / 2), n := s.n + 1, st := s.st.set k (upL x) }, 1 - x % 2)
  else
    if 0x8000 ≤ s.a - qOf (x / 2) then ({ s with a := s.a - qOf (x / 2), c := s.c - qOf (x / 2) * 65536, n := s.n + 1 }, x % 2)
    else if s.a - qOf (x / 2) < qOf (x / 2) then (renewD 17 { s with a := s.a - qOf (x / 2), c := s.c - qOf (x / 2) * 65536, n := s.n + 1, st := s.st.set k (upL x) }, 1 - x % 2)
    else (renewD 17 { s with a := s.a - qOf (x / 2), c := s.c - qOf (x / 2) * 65536, n := s.n + 1, st := s.st.set k (upM x) }, x % 2) := by
  rw [← getD_of hx]; rfl
theorem xor_one {y : Nat} (hy : y < 2) : y ^^^ 1 = 1 - y := by
  have : ∀ y ∈ List.range 2, y ^^^ 1 = 1 - y := by decide
  exact this y (List.mem_range.2 hy)

theorem get_ok {h : Heap} {p q : Nat} {e : Ent} {bp : Option Addr} {bc : Nat} {s : Dec} {F : List Nat} {h0 : Heap} (H : Hp h0 F h (decL p q e bp bc s)) (hb : BOk e bp s.b) (hs : WfD s) (hbl : s.b.length < 140737488351300) (hn : s.n < 16777216) (hl : 1 ≤ s.st.length) (hl2 : s.st.length ≤ 131072)
    {ctx : Int} {K : Value → Heap → Prop} {Kp : List PanicEntry → Heap → Prop} (hk : ∀ h', Hp h0 F h' (decL p q e bp bc (getD s (idx ctx s.st.length)).1) → K (.tuple #[.int .i64 ((getD s (idx ctx s.st.length)).2 : Nat), .int .i64 0]) h') :
    CP F_arith_Decoder_Get #[.pointer (at0 p), .int .i64 ctx] h K Kp := by
  refine call_arith_Decoder_Get ?_
  unfold arith_Decoder_Get
  try simp only [ptr_some_eq, add_mk, Nat.zero_add, Nat.add_zero]
  refine ldI_of (H.cell 0 rfl (app_get hR 1 rfl)) ?_
  refine bcase_false (by simp; omega) ?_
  refine ldI_of (H.cell 0 rfl (app_get hR 1 rfl)) ?_
  refine bindI_of (((s.n + 1 : Nat) : Int)) (by exact i64_at _ _ (by omega) (by omega) (by omega)) ?_
  refine stV_hr H 0 rfl hR 1 (Nat.le_of_ble_eq_true rfl) rfl fun h hsz H => ?_
  refine at_ok H 0 1 rfl rfl hl hl2 hs.st fun h x hx hx94 H => ?_
  refine ⟨_, _, _, _, _, rfl, ?_⟩
  refine newC_hp H fun w h H => ?_
  try simp only [ptr_some_eq, add_mk, Nat.zero_add, Nat.add_zero]
  refine stV_hp H 3 rfl (by first | exact Nat.le_of_ble_eq_true rfl | simp) rfl fun h hsz H => ?_
  refine stV_hp H 3 rfl (by first | exact Nat.le_of_ble_eq_true rfl | simp) rfl fun h hsz H => ?_
  refine stV_hp H 3 rfl (by first | exact Nat.le_of_ble_eq_true rfl | simp) rfl fun h hsz H => ?_
  refine stV_hp H 3 rfl (by first | exact Nat.le_of_ble_eq_true rfl | simp) rfl fun h hsz H => ?_
  refine ldI_of (H.cell 1 rfl (u8s_get hx)) ?_
  refine bindI_of (((x % 2 : Nat) : Int)) (by exact (and8 _ 1 (by omega) (by omega)).trans (by rw [Nat.and_one_is_mod])) ?_
  refine bindI_of (((x % 2 : Nat) : Int)) (by exact i64_in _ (by omega) (by omega)) ?_
  refine ldI_of (H.cell 0 rfl (app_get hR 2 rfl)) ?_
  refine ldI_of (H.cell 3 rfl rfl) ?_
  have hr : x / 2 < 47 := by omega
  have hq1 := qOf_pos hr
  have hq2 := qOf_le hr
  have hlo := hs.lo
  have hhi := hs.hi
  have hc := hs.c
  have hM32 : M32 = 4294967296 := rfl
  have hM := set_lt hs.st (k := idx ctx s.st.length) (upM_lt hx94)
  have hL := set_lt hs.st (k := idx ctx s.st.length) (upL_lt hx94)
  have hil : idx ctx s.st.length < s.st.length := idx_lt ctx hl
  rw [getD_at s _ x hx] at hk
  generalize idx ctx s.st.length = k at hk hM hL hx hil H ⊢
  refine bindI_of (((s.a - qOf (x / 2) : Nat) : Int)) (by exact u32_at _ _ (by omega) (by omega)) ?_
  refine stV_hr H 0 rfl hR 2 (Nat.le_of_ble_eq_true rfl) rfl fun h hsz H => ?_
  refine ldI_of (H.cell 0 rfl (app_get hR 3 rfl)) ?_
  refine bindI_of (((s.c / 65536 : Nat) : Int)) (by exact shr_of (i := 16) (by decide)) ?_
  refine ldI_of (H.cell 3 rfl rfl) ?_
  have hcmp : decide (((s.c / 65536 : Nat) : Int) < ((qOf (x / 2) : Nat) : Int)) = decide (s.c / 65536 < qOf (x / 2)) := by
    by_cases h1 : s.c / 65536 < qOf (x / 2)
    · rw [decide_eq_true h1]; exact decide_eq_true (by omega)
    · rw [decide_eq_false h1]; exact decide_eq_false (by omega)
  rw [hcmp]
  have H2 : Hp h0 F h (decL p q e bp bc { s with a := s.a - qOf (x / 2), n := s.n + 1 } ++ [⟨w, true, T_arith_row, [.int .u32 (qOf (x / 2) : Nat), .int .u8 (mOf (x / 2) : Nat), .int .u8 (lOf (x / 2) : Nat), .int .u8 (cOf (x / 2) : Nat)]⟩]) := H
  have H := H2
  clear H2
  refine ⟨fun vs h' => (s.c / 65536 < qOf (x / 2) ∧ h' = h) ∨ (¬ s.c / 65536 < qOf (x / 2) ∧ ¬ 0x8000 ≤ s.a - qOf (x / 2) ∧ Hp h0 F h' (decL p q e bp bc { s with a := s.a - qOf (x / 2), c := s.c - qOf (x / 2) * 65536, n := s.n + 1 } ++ [⟨w, true, T_arith_row, [.int .u32 (qOf (x / 2) : Nat), .int .u8 (mOf (x / 2) : Nat), .int .u8 (lOf (x / 2) : Nat), .int .u8 (cOf (x / 2) : Nat)]⟩])), ?_, ?_⟩
  · refine bcase_of (fun h1 => ?_) fun h1 => ?_
    · have h1 : ¬ s.c / 65536 < qOf (x / 2) := by simpa using h1
      refine ldI_of (H.cell 0 rfl (app_get hR 3 rfl)) ?_
      refine ldI_of (H.cell 3 rfl rfl) ?_
      refine bindI_of (((qOf (x / 2) * 65536 : Nat) : Int)) (by exact shl_of (i := 16) (by decide) (u32_in _ (by omega))) ?_
      refine bindI_of (((s.c - qOf (x / 2) * 65536 : Nat) : Int)) (by exact u32_at _ _ (by show (s.c : Int) - ((qOf (x / 2) * 65536 : Nat) : Int) = _; omega) (by omega)) ?_
      refine stV_hr H 0 rfl hR 3 (Nat.le_of_ble_eq_true rfl) rfl fun h hsz H => ?_
      refine ldI_of (H.cell 0 rfl (app_get hR 2 rfl)) ?_
      refine bcase_of (fun h2 => ?_) fun h2 => ?_
      · have h2 : 0x8000 ≤ s.a - qOf (x / 2) := by simp at h2; omega
        rw [if_neg h1, if_pos h2] at hk
        exact hk _ (H.take 3)
      · have h2 : ¬ 0x8000 ≤ s.a - qOf (x / 2) := by simp at h2; omega
        exact .inr ⟨h1, h2, H⟩
    · have h1 : s.c / 65536 < qOf (x / 2) := by simpa using h1
      exact .inl ⟨h1, rfl⟩
  · rintro h' u (⟨h1, rfl⟩ | ⟨h1, h2, H'⟩)
    · rw [decide_eq_true h1]
      rw [if_pos h1] at hk
      refine ⟨fun vs h'' => (s.a - qOf (x / 2) < qOf (x / 2) ∧ vs = [.int .i64 ((x % 2 : Nat) : Int)] ∧ Hp h0 F h'' (decL p q e bp bc { s with a := s.a - qOf (x / 2), n := s.n + 1, st := s.st.set k (upM x) } ++ [⟨w, true, T_arith_row, [.int .u32 (qOf (x / 2) : Nat), .int .u8 (mOf (x / 2) : Nat), .int .u8 (lOf (x / 2) : Nat), .int .u8 (cOf (x / 2) : Nat)]⟩])) ∨
        (¬ s.a - qOf (x / 2) < qOf (x / 2) ∧ vs = [.int .i64 ((1 - x % 2 : Nat) : Int)] ∧ Hp h0 F h'' (decL p q e bp bc { s with a := s.a - qOf (x / 2), n := s.n + 1, st := s.st.set k (upL x) } ++ [⟨w, true, T_arith_row, [.int .u32 (qOf (x / 2) : Nat), .int .u8 (mOf (x / 2) : Nat), .int .u8 (lOf (x / 2) : Nat), .int .u8 (cOf (x / 2) : Nat)]⟩])), ?_, ?_⟩
      · refine ldI_of (H.cell 0 rfl (app_get hR 2 rfl)) ?_
        refine ldI_of (H.cell 3 rfl rfl) ?_
        refine bcase_of (fun h3 => ?_) fun h3 => ?_
        · have h3 : s.a - qOf (x / 2) < qOf (x / 2) := by simp at h3; omega
          refine ldI_of (H.cell 3 rfl rfl) ?_
          refine ldI_of (H.cell 3 rfl rfl) ?_
          refine ldI_of (H.cell 3 rfl rfl) ?_
          refine ldI_of (H.cell 3 rfl rfl) ?_
          refine likely_ok H 1 rfl hx hx94 rfl fun h H => ?_
          exact .inl ⟨h3, rfl, H.as (by simp [decL, decE, drest])⟩
        · have h3 : ¬ s.a - qOf (x / 2) < qOf (x / 2) := by simp at h3; omega
          refine bindI_of (((1 - x % 2 : Nat) : Int)) (by exact (xor63 _ 1 (by omega) (by omega)).trans (by rw [xor_one (by omega)])) ?_
          refine ldI_of (H.cell 3 rfl rfl) ?_
          refine ldI_of (H.cell 3 rfl rfl) ?_
          refine ldI_of (H.cell 3 rfl rfl) ?_
          refine ldI_of (H.cell 3 rfl rfl) ?_
          refine unlikely_ok H 1 rfl hx hx94 rfl rfl fun h H => ?_
          exact .inr ⟨h3, rfl, H.as (by simp [decL, decE, drest])⟩
      · rintro h'' u y (⟨h3, hy, H⟩ | ⟨h3, hy, H⟩)
        · injection hy with hy
          injection hy with _ hy
          subst hy
          rw [if_pos h3] at hk
          refine bcase_true (by rfl) ?_
          refine ldI_of (H.cell 3 rfl rfl) ?_
          refine stV_hr H 0 rfl hR 2 (Nat.le_of_ble_eq_true rfl) rfl fun h hsz H => ?_
          exact renewD_ok (s := { s with a := qOf (x / 2), n := s.n + 1, st := s.st.set k (upM x) }) (H.take 3) hb ⟨hs.t8, hc, hs.b, hM, hs.i⟩ hbl hq1 (by show qOf _ < _; omega) hk
        · injection hy with hy
          injection hy with _ hy
          subst hy
          rw [if_neg h3] at hk
          refine bcase_true (by rfl) ?_
          refine ldI_of (H.cell 3 rfl rfl) ?_
          refine stV_hr H 0 rfl hR 2 (Nat.le_of_ble_eq_true rfl) rfl fun h hsz H => ?_
          exact renewD_ok (s := { s with a := qOf (x / 2), n := s.n + 1, st := s.st.set k (upL x) }) (H.take 3) hb ⟨hs.t8, hc, hs.b, hL, hs.i⟩ hbl hq1 (by show qOf _ < _; omega) hk
    · have H := H'
      clear H'
      rw [decide_eq_false h1]
      rw [if_neg h1, if_neg h2] at hk
      have hc' : s.c - qOf (x / 2) * 65536 < M32 := by omega
      refine ⟨fun vs h'' => (s.a - qOf (x / 2) < qOf (x / 2) ∧ vs = [.int .i64 ((1 - x % 2 : Nat) : Int)] ∧ Hp h0 F h'' (decL p q e bp bc { s with a := s.a - qOf (x / 2), c := s.c - qOf (x / 2) * 65536, n := s.n + 1, st := s.st.set k (upL x) } ++ [⟨w, true, T_arith_row, [.int .u32 (qOf (x / 2) : Nat), .int .u8 (mOf (x / 2) : Nat), .int .u8 (lOf (x / 2) : Nat), .int .u8 (cOf (x / 2) : Nat)]⟩])) ∨
        (¬ s.a - qOf (x / 2) < qOf (x / 2) ∧ vs = [.int .i64 ((x % 2 : Nat) : Int)] ∧ Hp h0 F h'' (decL p q e bp bc { s with a := s.a - qOf (x / 2), c := s.c - qOf (x / 2) * 65536, n := s.n + 1, st := s.st.set k (upM x) } ++ [⟨w, true, T_arith_row, [.int .u32 (qOf (x / 2) : Nat), .int .u8 (mOf (x / 2) : Nat), .int .u8 (lOf (x / 2) : Nat), .int .u8 (cOf (x / 2) : Nat)]⟩])), ?_, ?_⟩
      · refine ldI_of (H.cell 0 rfl (app_get hR 2 rfl)) ?_
        refine ldI_of (H.cell 3 rfl rfl) ?_
        refine bcase_of (fun h3 => ?_) fun h3 => ?_
        · have h3 : ¬ s.a - qOf (x / 2) < qOf (x / 2) := by simp at h3; omega
          refine ldI_of (H.cell 3 rfl rfl) ?_
          refine ldI_of (H.cell 3 rfl rfl) ?_
          refine ldI_of (H.cell 3 rfl rfl) ?_
          refine ldI_of (H.cell 3 rfl rfl) ?_
          refine likely_ok H 1 rfl hx hx94 rfl fun h H => ?_
          exact .inr ⟨h3, rfl, H.as (by simp [decL, decE, drest])⟩
        · have h3 : s.a - qOf (x / 2) < qOf (x / 2) := by simp at h3; omega
          refine bindI_of (((1 - x % 2 : Nat) : Int)) (by exact (xor63 _ 1 (by omega) (by omega)).trans (by rw [xor_one (by omega)])) ?_
          refine ldI_of (H.cell 3 rfl rfl) ?_
          refine ldI_of (H.cell 3 rfl rfl) ?_
          refine ldI_of (H.cell 3 rfl rfl) ?_
          refine ldI_of (H.cell 3 rfl rfl) ?_
          refine unlikely_ok H 1 rfl hx hx94 rfl rfl fun h H => ?_
          exact .inl ⟨h3, rfl, H.as (by simp [decL, decE, drest])⟩
      · rintro h'' u y (⟨h3, hy, H⟩ | ⟨h3, hy, H⟩)
        · injection hy with hy
          injection hy with _ hy
          subst hy
          rw [if_pos h3] at hk
          refine bcase_false (by rfl) ?_
          exact renewD_ok (s := { s with a := s.a - qOf (x / 2), c := s.c - qOf (x / 2) * 65536, n := s.n + 1, st := s.st.set k (upL x) }) (H.take 3) hb ⟨hs.t8, hc', hs.b, hL, hs.i⟩ hbl (by show 1 ≤ s.a - _; omega) (by show s.a - _ < _; omega) hk
        · injection hy with hy
          injection hy with _ hy
          subst hy
          rw [if_neg h3] at hk
          refine bcase_false (by rfl) ?_
          exact renewD_ok (s := { s with a := s.a - qOf (x / 2), c := s.c - qOf (x / 2) * 65536, n := s.n + 1, st := s.st.set k (upM x) }) (H.take 3) hb ⟨hs.t8, hc', hs.b, hM, hs.i⟩ hbl (by show 1 ≤ s.a - _; omega) (by show s.a - _ < _; omega) hk

end Go.Ar

/- ArK: the closed runs: what 'wakes' and 'ArithKnown' run, reckoned out. No program in sight. -/
set_option linter.unusedVariables false
set_option linter.unusedSimpArgs false
namespace Go.Ar

/-- A coder behind the first n decisions. -/
def codN (k b : Nat → Nat) (m : Nat) : Nat → Cod
  | 0 => newC m
  | n + 1 => putM (codN k b m n) (k n) (b n)
def decN (k : Nat → Nat) (bytes : List Nat) (m : Nat) : Nat → Dec
  | 0 => newD bytes m
  | n + 1 => (getD (decN k bytes m n) (k n)).1

end Go.Ar

/- Written by gen.py: the conditions of the functions of burinkit. -/
set_option linter.unusedVariables false
set_option linter.unusedSimpArgs false
namespace Go.Den.YtfaclehehhgpcaaGreat
open Go Go.Den

/- burin/burinkit.LendBitmap -/
/- burin/burinkit.BackBitmap -/
/- burin/burinkit.Lend -/
/- burin/burinkit.Back -/
/- burin/burinkit.OverBitmaps -/
/- burin/burinkit.Within -/
set_option maxRecDepth 100000 in
def burinkit_Within (C : CallP) (i : Int) (n : Int) (h : Heap) (K : Value → Heap → Prop) (Kp : List PanicEntry → Heap → Prop) : Prop :=
needs (IntKind.i64 = IntKind.i64 ∧ n ≠ 0) <|
bindI (i.tmod n) fun z_1 =>
bcase (decide (z_1 < (0 : Int))) (
bindI (IntKind.i64.wrap (z_1 + n)) fun z_2 =>
K (.int .i64 z_2) h) <|
K (.int .i64 z_1) h

end Go.Den.YtfaclehehhgpcaaGreat

/- Written by gen.py: each condition of the functions of burinkit is the one of its body; so it is enough for its call. -/
set_option linter.unusedVariables false
set_option linter.unusedSimpArgs false
namespace Go.Den.YtfaclehehhgpcaaGreat
open Go Go.Den

noncomputable def hints_burinkit_Within : Hints := Hints.mk (fun i => none)
  (fun i => none)
  (fun i => none) []
set_option maxRecDepth 100000 in
theorem eq_burinkit_Within (C : CallP) (i : Int) (n : Int) (h : Heap) (K : Value → Heap → Prop) (Kp : List PanicEntry → Heap → Prop) :
    fnD Go.Proofs.Tryz.prog C hints_burinkit_Within Go.Proofs.Tryz.f46 [.int .i64 i, .int .i64 n] h K Kp = burinkit_Within C i n h K Kp := by kernel_rfl

theorem call_burinkit_Within {i : Int} {n : Int} {h : Heap} {K : Value → Heap → Prop} {Kp : List PanicEntry → Heap → Prop} (H : burinkit_Within (CallsHP Go.Proofs.Tryz.prog) i n h K Kp) : CallsHP Go.Proofs.Tryz.prog F_burinkit_Within #[.int .i64 i, .int .i64 n] h K Kp :=
  callsHP_of hints_burinkit_Within (by kernel_rfl) Go.Proofs.Tryz.func46 (by kernel_rfl) (by rw [eq_burinkit_Within]; exact H)

end Go.Den.YtfaclehehhgpcaaGreat

/- ArE: runs of a coder and of a decoder; 'Eq', 'Within', 'known' and 'wakes'. -/
set_option linter.unusedVariables false
set_option linter.unusedSimpArgs false
namespace Go.Ar
open Go Go.Den Go.Den.YtfaclehehhgpcaaGreat

/-! ### what stays true of a run -/
structure CodOk (m n : Nat) (s : Cod) : Prop where
  wf : Wf s
  n : s.n = n
  len : s.st.length = m
  done : s.done = false
theorem newC_ok (m : Nat) : CodOk m 0 (newC m) := ⟨newC_wf m, rfl, by simp [newC], rfl⟩
theorem putM_ok {m n : Nat} {s : Cod} (h : CodOk m n s) (k b : Nat) (hn : n < 16777216) : CodOk m (n + 1) (putM s k b) := by
  obtain ⟨h1, h2, h3⟩ := putM_n s k b
  exact ⟨putM_wf h.wf k b (by rw [h.n]; exact hn), by rw [h1, h.n], by rw [h2, h.len], by rw [h3, h.done]⟩
theorem renewD_st : ∀ (k : Nat) (s : Dec), (renewD k s).st = s.st ∧ (renewD k s).n = s.n ∧ (renewD k s).b = s.b := by
  have hi : ∀ s : Dec, (inD s).st = s.st ∧ (inD s).n = s.n ∧ (inD s).b = s.b := fun s => by
    unfold inD
    split
    · exact ⟨rfl, rfl, rfl⟩
    · split <;> exact ⟨rfl, rfl, rfl⟩
  have hs : ∀ s : Dec, (shiftD s).st = s.st ∧ (shiftD s).n = s.n ∧ (shiftD s).b = s.b := fun s => by
    rw [shiftD_eq]
    split
    · exact hi s
    · exact ⟨rfl, rfl, rfl⟩
  intro k
  induction k with
  | zero => intro s; exact ⟨rfl, rfl, rfl⟩
  | succ k ih =>
    intro s
    obtain ⟨h1, h2, h3⟩ := hs s
    rw [renewD_succ]
    split
    · exact ⟨h1, h2, h3⟩
    · obtain ⟨g1, g2, g3⟩ := ih (shiftD s)
      exact ⟨g1.trans h1, g2.trans h2, g3.trans h3⟩
theorem getD_n (s : Dec) (k : Nat) : (getD s k).1.n = s.n + 1 ∧ (getD s k).1.st.length = s.st.length ∧ (getD s k).1.b = s.b := by
  have hr : ∀ S : Dec, S.n = s.n + 1 → S.st.length = s.st.length → S.b = s.b → (renewD 17 S).n = s.n + 1 ∧ (renewD 17 S).st.length = s.st.length ∧ (renewD 17 S).b = s.b := fun S e1 e2 e3 => by
    obtain ⟨h1, h2, h3⟩ := renewD_st 17 S
    exact ⟨h2.trans e1, by rw [h1, e2], h3.trans e3⟩
  unfold getD
  simp only []
  split
  · split
    · exact hr _ rfl (List.length_set ..) rfl
    · exact hr _ rfl (List.length_set ..) rfl
  · split
    · exact ⟨rfl, rfl, rfl⟩
    · split
      · exact hr _ rfl (List.length_set ..) rfl
      · exact hr _ rfl (List.length_set ..) rfl
theorem getD_bit {s : Dec} (k : Nat) : (getD s k).2 ≤ 1 := by
  have : s.st.getD k 0 % 2 < 2 := Nat.mod_lt _ (by omega)
  unfold getD
  simp only []
  split
  · split
    · show s.st.getD k 0 % 2 ≤ 1; omega
    · show 1 - s.st.getD k 0 % 2 ≤ 1; omega
  · split
    · show s.st.getD k 0 % 2 ≤ 1; omega
    · split
      · show 1 - s.st.getD k 0 % 2 ≤ 1; omega
      · show s.st.getD k 0 % 2 ≤ 1; omega
theorem newD_wf {b : List Nat} (hb : ∀ x ∈ b, x < 256) (n : Nat) : WfD (newD b n) ∧ (newD b n).n = 0 ∧ (newD b n).st.length = n ∧ (newD b n).b = b := by
  have hm : MidD { dec0 b n with c := byteD (dec0 b n) 0 * 65536 } := ⟨Nat.zero_le _, by
    show byteD (dec0 b n) 0 * 65536 < 4294967296
    have := byteD_lt (s := dec0 b n) hb 0
    omega, hb, fun x hx => by simp only [dec0, List.mem_replicate] at hx; omega, Nat.zero_le _⟩
  obtain ⟨i1, i2, i3, i4, i5, i6⟩ := inD_mid hm
  have hn : newD b n = { inD { dec0 b n with c := byteD (dec0 b n) 0 * 65536 } with c := (inD { dec0 b n with c := byteD (dec0 b n) 0 * 65536 }).c * 128 % M32, t := (inD { dec0 b n with c := byteD (dec0 b n) 0 * 65536 }).t - 7 } := rfl
  generalize inD { dec0 b n with c := byteD (dec0 b n) 0 * 65536 } = S at hn i1 i2 i3 i4 i5
  rw [hn]
  have e2 : S.a = 0x8000 := i2
  have e3 : S.n = 0 := i3
  have e4 : S.st = List.replicate n 0 := i4
  have e5 : S.b = b := i5
  refine ⟨⟨⟨by show S.t - 7 ≤ 8; have := i1.t8; omega, Nat.mod_lt _ (by decide), i1.b, i1.st, i1.i⟩, by show S.n ≤ _; omega, by show _ ≤ S.a; omega, by show S.a < _; omega⟩, e3, ?_, e5⟩
  show S.st.length = n
  rw [e4]
  simp
structure DecOk (bytes : List Nat) (m n : Nat) (s : Dec) : Prop where
  wf : WfD s
  n : s.n = n
  len : s.st.length = m
  b : s.b = bytes
theorem newD_ok {b : List Nat} (hb : ∀ x ∈ b, x < 256) (m : Nat) : DecOk b m 0 (newD b m) := by
  obtain ⟨h1, h2, h3, h4⟩ := newD_wf hb m
  exact ⟨h1, h2, h3, h4⟩
theorem getD_ok {b : List Nat} {m n : Nat} {s : Dec} (h : DecOk b m n s) (k : Nat) (hn : n < 16777216) : DecOk b m (n + 1) (getD s k).1 := by
  obtain ⟨h1, h2, h3⟩ := getD_n s k
  exact ⟨getD_wf h.wf k (by rw [h.n]; exact hn), by rw [h1, h.n], by rw [h2, h.len], by rw [h3, h.b]⟩
/-- What a coder hands out are bytes. -/
theorem outM_lt {s : Cod} (hl : s.l < 256) (hb : ∀ x ∈ s.bs, x < 256) : (outM s).l < 256 ∧ ∀ x ∈ (outM s).bs, x < 256 := by
  have hm : ∀ (l c : Nat), l < 256 → (outTail s l c).l < 256 ∧ ∀ x ∈ (outTail s l c).bs, x < 256 := fun l c h => by
    have h2 : ∀ x ∈ s.bs ++ [l], x < 256 := fun x hx => by
      rcases List.mem_append.1 hx with h3 | h3
      · exact hb x h3
      · rw [List.mem_singleton.1 h3]; exact h
    unfold outTail
    split
    · exact ⟨Nat.mod_lt _ (by omega), h2⟩
    · exact ⟨Nat.mod_lt _ (by omega), h2⟩
  unfold outM
  split
  · exact hm _ _ (by omega)
  · exact hm _ _ hl
theorem flushM_lt {s : Cod} (h : Wf s) : ∀ x ∈ bytesM (flushM s), x < 256 := by
  have h1 : (flushS { s with c := flushC s, done := true }).l < 256 ∧ ∀ x ∈ (flushS { s with c := flushC s, done := true }).bs, x < 256 := outM_lt (s := { s with c := flushC s * 2 ^ s.t, done := true }) h.l h.bs
  have h2 : (flushM s).l < 256 ∧ ∀ x ∈ (flushM s).bs, x < 256 := outM_lt (s := { flushS { s with c := flushC s, done := true } with c := (flushS { s with c := flushC s, done := true }).c * 2 ^ (flushS { s with c := flushC s, done := true }).t }) h1.1 h1.2
  have h3 : ∀ x ∈ (flushM s).bs ++ [(flushM s).l], x < 256 := fun x hx => by
    rcases List.mem_append.1 hx with h4 | h4
    · exact h2.2 x h4
    · rw [List.mem_singleton.1 h4]; exact h2.1
  intro x hx
  unfold bytesM at hx
  simp only [] at hx
  split at hx
  · exact h3 x (List.mem_of_mem_drop ((List.dropLast_sublist _).subset hx))
  · exact h3 x (List.mem_of_mem_drop hx)
theorem flushM_len (s : Cod) : (bytesM (flushM s)).length ≤ s.bs.length + 3 := by
  have h1 : (flushS { s with c := flushC s, done := true }).bs.length = s.bs.length + 1 := (outM_same _).2.2.2.2
  have h2 : (flushM s).bs.length = (flushS { s with c := flushC s, done := true }).bs.length + 1 := (outM_same _).2.2.2.2
  unfold bytesM
  simp only []
  split
  · simp; omega
  · simp; omega
/-! ### small functions -/
theorem rdO_cell {h : Heap} {a : Option Addr} {n : Nat} {cs : List Value} (hr : rdO h a n cs) {i : Nat} {v : Value} (hi : cs[i]? = some v) : ∃ ad, a = some ad ∧ hcell h (ad.add i) = some v := by
  cases a with
  | none => rw [show cs = [] from hr] at hi; simp at hi
  | some ad => exact ⟨ad, rfl, hr.2 i v hi⟩
theorem within_ok {h : Heap} {i : Int} {n : Nat} (hn : 1 ≤ n) (hn2 : n < 1000000000) {K : Value → Heap → Prop} {Kp : List PanicEntry → Heap → Prop} (hk : K (.int .i64 (idx i n : Nat)) h) : CP F_burinkit_Within #[.int .i64 i, .int .i64 (n : Nat)] h K Kp := by
  refine call_burinkit_Within ?_
  unfold burinkit_Within
  have habs := tmod_abs i hn
  have h0 := Int.emod_nonneg i (b := (n : Int)) (by omega)
  have hlt := Int.emod_lt_of_pos i (b := (n : Int)) (by omega)
  have e1 : ((idx i n : Nat) : Int) = i % n := by unfold idx; omega
  have e2 := Int.tmod_eq_emod (a := i) (b := (n : Int))
  refine needs_of (by exact ⟨rfl, by omega⟩) ?_
  refine bindI_gen fun z ez => ?_
  subst ez
  refine bcase_of (fun h2 => ?_) fun h2 => ?_
  · have h2 : i.tmod n < 0 := of_decide_eq_true h2
    refine bindI_of ((idx i n : Nat)) (by exact i64_at _ _ (by split at e2 <;> omega) (by omega) (by omega)) ?_
    exact hk
  · have h2 : ¬ i.tmod n < 0 := of_decide_eq_false h2
    have e3 : i.tmod n = ((idx i n : Nat) : Int) := by split at e2 <;> omega
    rw [e3]
    exact hk

/-! ### wakes -/
end Go.Ar

/- Written by gen.py: the conditions of the functions of page. -/
set_option linter.unusedVariables false
set_option linter.unusedSimpArgs false
namespace Go.Den.YtfaclehehhgpcaaGreat
open Go Go.Den

/- burin/page.EncodeSheet -/
set_option maxRecDepth 100000 in
def page_EncodeSheet (C : CallP) (s_1 : Int) (s_2 : Int) (s_3 : Int) (s_4 : Int) (h : Heap) (K : Value → Heap → Prop) (Kp : List PanicEntry → Heap → Prop) : Prop :=
newC h [.int .i64 s_1, .int .i64 s_2, .int .i64 s_3, .int .i64 s_4] T_api_Sheet fun r_5 h_6 =>
ldI h_6 ((⟨r_5, 0, none⟩ : Addr).add 0) .i64 fun x_7 =>
ldI h_6 ((⟨r_5, 0, none⟩ : Addr).add 1) .i64 fun x_8 =>
ldI h_6 ((⟨r_5, 0, none⟩ : Addr).add 2) .i64 fun x_9 =>
ldI h_6 ((⟨r_5, 0, none⟩ : Addr).add 3) .i64 fun x_10 =>
C F_page_sheet #[.agg #[.int .i64 x_7, .int .i64 x_8, .int .i64 x_9, .int .i64 x_10]] h_6 (fun v_11 h_12 =>
∃ (r_13 : Bool), v_11 = .bool r_13 ∧ (
bcase (!r_13) (
K (.tuple #[.slice none 0 0, .int .i64 150]) h_12) <|
ldI h_12 ((⟨r_5, 0, none⟩ : Addr).add 0) .i64 fun x_14 =>
ldI h_12 ((⟨r_5, 0, none⟩ : Addr).add 1) .i64 fun x_15 =>
ldI h_12 ((⟨r_5, 0, none⟩ : Addr).add 2) .i64 fun x_16 =>
bindI (IntKind.i64.wrap (0 - x_16)) fun z_17 =>
bindI (IntKind.i64.wrap (z_17 - (1 : Int))) fun z_18 =>
ldI h_12 ((⟨r_5, 0, none⟩ : Addr).add 3) .i64 fun x_19 =>
newC h_12 [.int .i64 x_14, .int .i64 x_15, .int .i64 z_18, .int .i64 x_19] T_int fun r_20 h_21 =>
C F_page_written #[.slice (some ⟨r_20, 0, none⟩) 4 4] h_21 (fun v_22 h_23 =>
∃ (r_24 : Option Addr) (r_24n : Nat) (r_24c : Nat), v_22 = .slice r_24 r_24n r_24c ∧ (
K (.tuple #[.slice r_24 r_24n r_24c, .int .i64 0]) h_23)) (Kp))) (Kp)

/- burin/page.EncodeRegion -/
set_option maxRecDepth 100000 in
def page_EncodeRegion (C : CallP) (a0_1 : Int) (a0_2 : Int) (a0_3 : Int) (a0_4 : Int) (a0_5 : Bool) (a0_6 : Int) (a0_7 : Int) (a0_8 : Option Addr) (a0_8n : Nat) (a0_8c : Nat) (h : Heap) (K : Value → Heap → Prop) (Kp : List PanicEntry → Heap → Prop) : Prop :=
newC h [.int .i64 a0_1, .int .i64 a0_2, .int .i64 a0_3, .int .i64 a0_4, .bool a0_5, .int .i64 a0_6, .int .i64 a0_7, .slice a0_8 a0_8n a0_8c] T_api_Region fun r_9 h_10 =>
ldI h_10 ((⟨r_9, 0, none⟩ : Addr).add 0) .i64 fun x_11 =>
C F_page_within #[.int .i64 x_11] h_10 (fun v_12 h_13 =>
∃ (r_14 : Bool), v_12 = .bool r_14 ∧ (
bcase (!r_14) (
K (.tuple #[.slice none 0 0, .int .i64 150]) h_13) <|
ldI h_13 ((⟨r_9, 0, none⟩ : Addr).add 1) .i64 fun x_15 =>
C F_page_within #[.int .i64 x_15] h_13 (fun v_16 h_17 =>
∃ (r_18 : Bool), v_16 = .bool r_18 ∧ (
bcase (!r_18) (
K (.tuple #[.slice none 0 0, .int .i64 150]) h_17) <|
ldI h_17 ((⟨r_9, 0, none⟩ : Addr).add 2) .i64 fun x_19 =>
C F_page_operation #[.int .i64 x_19] h_17 (fun v_20 h_21 =>
∃ (r_22 : Bool), v_20 = .bool r_22 ∧ (
bcase (!r_22) (
K (.tuple #[.slice none 0 0, .int .i64 150]) h_21) <|
ldI h_21 ((⟨r_9, 0, none⟩ : Addr).add 3) .i64 fun x_23 =>
bcase (decide (x_23 < (0 : Int))) (
K (.tuple #[.slice none 0 0, .int .i64 150]) h_21) <|
ldI h_21 ((⟨r_9, 0, none⟩ : Addr).add 3) .i64 fun x_24 =>
bcase (decide (x_24 > (3 : Int))) (
K (.tuple #[.slice none 0 0, .int .i64 150]) h_21) <|
ldI h_21 (((⟨r_9, 0, none⟩ : Addr).add 5).add 0) .i64 fun x_25 =>
ldI h_21 (((⟨r_9, 0, none⟩ : Addr).add 5).add 1) .i64 fun x_26 =>
ldS h_21 (((⟨r_9, 0, none⟩ : Addr).add 5).add 2) fun x_27 x_27n x_27c =>
C F_bitmap_Check #[.agg #[.int .i64 x_25, .int .i64 x_26, .slice x_27 x_27n x_27c]] h_21 (fun v_28 h_29 =>
∃ (r_30 : Bool), v_28 = .bool r_30 ∧ (
bcase (!r_30) (
K (.tuple #[.slice none 0 0, .int .i64 150]) h_29) <|
ldI h_29 (((⟨r_9, 0, none⟩ : Addr).add 5).add 0) .i64 fun x_31 =>
ldI h_29 (((⟨r_9, 0, none⟩ : Addr).add 5).add 1) .i64 fun x_32 =>
ldS h_29 (((⟨r_9, 0, none⟩ : Addr).add 5).add 2) fun x_33 x_33n x_33c =>
ldI h_29 ((⟨r_9, 0, none⟩ : Addr).add 3) .i64 fun x_34 =>
ldB h_29 ((⟨r_9, 0, none⟩ : Addr).add 4) fun x_35 =>
C F_generic_Encode #[.agg #[.int .i64 x_31, .int .i64 x_32, .slice x_33 x_33n x_33c], .int .i64 x_34, .bool x_35] h_29 (fun v_36 h_37 =>
∃ (r_38 : Option Addr) (r_38n : Nat) (r_38c : Nat), ∃ (r_39 : Int), v_36 = .tuple #[.slice r_38 r_38n r_38c, .int .i64 r_39] ∧ (
bcase (r_39 != (0 : Int)) (
K (.tuple #[.slice none 0 0, .int .i64 r_39]) h_37) <|
ldI h_37 ((⟨r_9, 0, none⟩ : Addr).add 3) .i64 fun x_40 =>
ldI h_37 ((⟨r_9, 0, none⟩ : Addr).add 2) .i64 fun x_41 =>
bindI (IntKind.i64.wrap ((8 : Int) * x_41)) fun z_42 =>
bindI (IntKind.i64.wrap (x_40 + z_42)) fun z_43 =>
∃ K_44 : List Value → Heap → Prop, (
ldB h_37 ((⟨r_9, 0, none⟩ : Addr).add 4) fun x_47 =>
bcase x_47 (
bindI (IntKind.i64.wrap (z_43 + (4 : Int))) fun z_48 =>
K_44 [.int .i64 z_48] h_37) <|
K_44 [.int .i64 z_43] h_37) ∧ ∀ (h_45 : Heap) (u_46 : Nat → Value) (x_49 : Int), K_44 [.int .i64 x_49] h_45 → (
ldI h_45 ((⟨r_9, 0, none⟩ : Addr).add 0) .i64 fun x_50 =>
ldI h_45 ((⟨r_9, 0, none⟩ : Addr).add 1) .i64 fun x_51 =>
ldI h_45 (((⟨r_9, 0, none⟩ : Addr).add 5).add 0) .i64 fun x_52 =>
ldI h_45 (((⟨r_9, 0, none⟩ : Addr).add 5).add 1) .i64 fun x_53 =>
bindI (IntKind.i64.wrap (0 - x_49)) fun z_54 =>
bindI (IntKind.i64.wrap (z_54 - (1 : Int))) fun z_55 =>
newC h_45 [.int .i64 x_50, .int .i64 x_51, .int .i64 x_52, .int .i64 x_53, .int .i64 z_55] T_int fun r_56 h_57 =>
C F_page_written #[.slice (some ⟨r_56, 0, none⟩) 5 5] h_57 (fun v_58 h_59 =>
∃ (r_60 : Option Addr) (r_60n : Nat) (r_60c : Nat), v_58 = .slice r_60 r_60n r_60c ∧ (
appC h_59 T_uint8 1 1 [.int .u8 0] r_60 (r_60n) (r_60c) r_38 (r_38n) fun q_61 q_61n q_61c h_62 =>
K (.tuple #[.slice q_61 q_61n q_61c, .int .i64 0]) h_62)) (Kp)))) (Kp))) (Kp))) (Kp))) (Kp))) (Kp)

/- burin/page.DecodeSheet -/
set_option maxRecDepth 100000 in
def page_DecodeSheet (C : CallP) (f : Option Addr) (fn : Nat) (fc : Nat) (h : Heap) (K : Value → Heap → Prop) (Kp : List PanicEntry → Heap → Prop) : Prop :=
newC h [.int .i64 0, .int .i64 0, .int .i64 0, .int .i64 0] T_api_Sheet fun r_1 h_2 =>
newC h_2 [.int .i64 0, .int .i64 0, .int .i64 0, .int .i64 0] T_api_Sheet fun r_3 h_4 =>
C F_page_read #[.slice f fn fc, .func (.func F_page_DecodeSheet_c1) #[] #[.pointer (some ⟨r_3, 0, none⟩)]] h_4 (fun v_5 h_6 =>
∃ (r_7 : Int), v_5 = .int .i64 r_7 ∧ (
bcase (r_7 != (0 : Int)) (
stV h_6 ((⟨r_1, 0, none⟩ : Addr).add 0) (.int .i64 0) fun h_8 =>
stV h_8 ((⟨r_1, 0, none⟩ : Addr).add 1) (.int .i64 0) fun h_9 =>
stV h_9 ((⟨r_1, 0, none⟩ : Addr).add 2) (.int .i64 0) fun h_10 =>
stV h_10 ((⟨r_1, 0, none⟩ : Addr).add 3) (.int .i64 0) fun h_11 =>
ldI h_11 ((⟨r_1, 0, none⟩ : Addr).add 0) .i64 fun r_12 =>
ldI h_11 ((⟨r_1, 0, none⟩ : Addr).add 1) .i64 fun r_13 =>
ldI h_11 ((⟨r_1, 0, none⟩ : Addr).add 2) .i64 fun r_14 =>
ldI h_11 ((⟨r_1, 0, none⟩ : Addr).add 3) .i64 fun r_15 =>
K (.tuple #[.agg #[.int .i64 r_12, .int .i64 r_13, .int .i64 r_14, .int .i64 r_15], .int .i64 r_7]) h_11) <|
ldI h_6 ((⟨r_3, 0, none⟩ : Addr).add 0) .i64 fun x_16 =>
ldI h_6 ((⟨r_3, 0, none⟩ : Addr).add 1) .i64 fun x_17 =>
ldI h_6 ((⟨r_3, 0, none⟩ : Addr).add 2) .i64 fun x_18 =>
ldI h_6 ((⟨r_3, 0, none⟩ : Addr).add 3) .i64 fun x_19 =>
stV h_6 ((⟨r_1, 0, none⟩ : Addr).add 0) (.int .i64 x_16) fun h_20 =>
stV h_20 ((⟨r_1, 0, none⟩ : Addr).add 1) (.int .i64 x_17) fun h_21 =>
stV h_21 ((⟨r_1, 0, none⟩ : Addr).add 2) (.int .i64 x_18) fun h_22 =>
stV h_22 ((⟨r_1, 0, none⟩ : Addr).add 3) (.int .i64 x_19) fun h_23 =>
ldI h_23 ((⟨r_1, 0, none⟩ : Addr).add 0) .i64 fun r_24 =>
ldI h_23 ((⟨r_1, 0, none⟩ : Addr).add 1) .i64 fun r_25 =>
ldI h_23 ((⟨r_1, 0, none⟩ : Addr).add 2) .i64 fun r_26 =>
ldI h_23 ((⟨r_1, 0, none⟩ : Addr).add 3) .i64 fun r_27 =>
K (.tuple #[.agg #[.int .i64 r_24, .int .i64 r_25, .int .i64 r_26, .int .i64 r_27], .int .i64 0]) h_23)) (Kp)

/- burin/page.DecodeRegion -/
set_option maxRecDepth 100000 in
def page_DecodeRegion (C : CallP) (f : Option Addr) (fn : Nat) (fc : Nat) (h : Heap) (K : Value → Heap → Prop) (Kp : List PanicEntry → Heap → Prop) : Prop :=
newC h [.slice f fn fc] T_s_uint8 fun r_1 h_2 =>
newC h_2 [.int .i64 0, .int .i64 0, .int .i64 0, .int .i64 0, .bool false, .int .i64 0, .int .i64 0, .slice none 0 0] T_api_Region fun r_3 h_4 =>
newC h_4 [.int .i64 0, .int .i64 0, .int .i64 0, .int .i64 0, .bool false, .int .i64 0, .int .i64 0, .slice none 0 0] T_api_Region fun r_5 h_6 =>
ldS h_6 (⟨r_1, 0, none⟩ : Addr) fun x_7 x_7n x_7c =>
C F_page_read #[.slice x_7 x_7n x_7c, .func (.func F_page_DecodeRegion_c1) #[] #[.pointer (some ⟨r_5, 0, none⟩), .pointer (some ⟨r_1, 0, none⟩)]] h_6 (fun v_8 h_9 =>
∃ (r_10 : Int), v_8 = .int .i64 r_10 ∧ (
bcase (r_10 != (0 : Int)) (
stV h_9 ((⟨r_3, 0, none⟩ : Addr).add 0) (.int .i64 0) fun h_11 =>
stV h_11 ((⟨r_3, 0, none⟩ : Addr).add 1) (.int .i64 0) fun h_12 =>
stV h_12 ((⟨r_3, 0, none⟩ : Addr).add 2) (.int .i64 0) fun h_13 =>
stV h_13 ((⟨r_3, 0, none⟩ : Addr).add 3) (.int .i64 0) fun h_14 =>
stV h_14 ((⟨r_3, 0, none⟩ : Addr).add 4) (.bool false) fun h_15 =>
stV h_15 ((⟨r_3, 0, none⟩ : Addr).add 5) (.int .i64 0) fun h_16 =>
stV h_16 ((⟨r_3, 0, none⟩ : Addr).add 6) (.int .i64 0) fun h_17 =>
stV h_17 ((⟨r_3, 0, none⟩ : Addr).add 7) (.slice none 0 0) fun h_18 =>
ldI h_18 ((⟨r_3, 0, none⟩ : Addr).add 0) .i64 fun r_19 =>
ldI h_18 ((⟨r_3, 0, none⟩ : Addr).add 1) .i64 fun r_20 =>
ldI h_18 ((⟨r_3, 0, none⟩ : Addr).add 2) .i64 fun r_21 =>
ldI h_18 ((⟨r_3, 0, none⟩ : Addr).add 3) .i64 fun r_22 =>
ldB h_18 ((⟨r_3, 0, none⟩ : Addr).add 4) fun r_23 =>
ldI h_18 ((⟨r_3, 0, none⟩ : Addr).add 5) .i64 fun r_24 =>
ldI h_18 ((⟨r_3, 0, none⟩ : Addr).add 6) .i64 fun r_25 =>
ldS h_18 ((⟨r_3, 0, none⟩ : Addr).add 7) fun r_26 r_26n r_26c =>
K (.tuple #[.agg #[.int .i64 r_19, .int .i64 r_20, .int .i64 r_21, .int .i64 r_22, .bool r_23, .int .i64 r_24, .int .i64 r_25, .slice r_26 r_26n r_26c], .int .i64 r_10]) h_18) <|
ldI h_9 ((⟨r_5, 0, none⟩ : Addr).add 0) .i64 fun x_27 =>
ldI h_9 ((⟨r_5, 0, none⟩ : Addr).add 1) .i64 fun x_28 =>
ldI h_9 ((⟨r_5, 0, none⟩ : Addr).add 2) .i64 fun x_29 =>
ldI h_9 ((⟨r_5, 0, none⟩ : Addr).add 3) .i64 fun x_30 =>
ldB h_9 ((⟨r_5, 0, none⟩ : Addr).add 4) fun x_31 =>
ldI h_9 ((⟨r_5, 0, none⟩ : Addr).add 5) .i64 fun x_32 =>
ldI h_9 ((⟨r_5, 0, none⟩ : Addr).add 6) .i64 fun x_33 =>
ldS h_9 ((⟨r_5, 0, none⟩ : Addr).add 7) fun x_34 x_34n x_34c =>
stV h_9 ((⟨r_3, 0, none⟩ : Addr).add 0) (.int .i64 x_27) fun h_35 =>
stV h_35 ((⟨r_3, 0, none⟩ : Addr).add 1) (.int .i64 x_28) fun h_36 =>
stV h_36 ((⟨r_3, 0, none⟩ : Addr).add 2) (.int .i64 x_29) fun h_37 =>
stV h_37 ((⟨r_3, 0, none⟩ : Addr).add 3) (.int .i64 x_30) fun h_38 =>
stV h_38 ((⟨r_3, 0, none⟩ : Addr).add 4) (.bool x_31) fun h_39 =>
stV h_39 ((⟨r_3, 0, none⟩ : Addr).add 5) (.int .i64 x_32) fun h_40 =>
stV h_40 ((⟨r_3, 0, none⟩ : Addr).add 6) (.int .i64 x_33) fun h_41 =>
stV h_41 ((⟨r_3, 0, none⟩ : Addr).add 7) (.slice x_34 x_34n x_34c) fun h_42 =>
ldI h_42 ((⟨r_3, 0, none⟩ : Addr).add 0) .i64 fun r_43 =>
ldI h_42 ((⟨r_3, 0, none⟩ : Addr).add 1) .i64 fun r_44 =>
ldI h_42 ((⟨r_3, 0, none⟩ : Addr).add 2) .i64 fun r_45 =>
ldI h_42 ((⟨r_3, 0, none⟩ : Addr).add 3) .i64 fun r_46 =>
ldB h_42 ((⟨r_3, 0, none⟩ : Addr).add 4) fun r_47 =>
ldI h_42 ((⟨r_3, 0, none⟩ : Addr).add 5) .i64 fun r_48 =>
ldI h_42 ((⟨r_3, 0, none⟩ : Addr).add 6) .i64 fun r_49 =>
ldS h_42 ((⟨r_3, 0, none⟩ : Addr).add 7) fun r_50 r_50n r_50c =>
K (.tuple #[.agg #[.int .i64 r_43, .int .i64 r_44, .int .i64 r_45, .int .i64 r_46, .bool r_47, .int .i64 r_48, .int .i64 r_49, .slice r_50 r_50n r_50c], .int .i64 0]) h_42)) (Kp)

/- burin/page.sheet -/
set_option maxRecDepth 100000 in
def page_sheet (C : CallP) (s_1 : Int) (s_2 : Int) (s_3 : Int) (s_4 : Int) (h : Heap) (K : Value → Heap → Prop) (Kp : List PanicEntry → Heap → Prop) : Prop :=
newC h [.int .i64 s_1, .int .i64 s_2, .int .i64 s_3, .int .i64 s_4] T_api_Sheet fun r_5 h_6 =>
ldI h_6 ((⟨r_5, 0, none⟩ : Addr).add 0) .i64 fun x_7 =>
ldI h_6 ((⟨r_5, 0, none⟩ : Addr).add 1) .i64 fun x_8 =>
C F_page_sized #[.int .i64 x_7, .int .i64 x_8] h_6 (fun v_9 h_10 =>
∃ (r_11 : Bool), v_9 = .bool r_11 ∧ (
bcase r_11 (
ldI h_10 ((⟨r_5, 0, none⟩ : Addr).add 2) .i64 fun x_12 =>
bcase (x_12 == (0 : Int)) (
ldI h_10 ((⟨r_5, 0, none⟩ : Addr).add 3) .i64 fun x_13 =>
C F_page_within #[.int .i64 x_13] h_10 (fun v_14 h_15 =>
∃ (r_16 : Bool), v_14 = .bool r_16 ∧ (
K (.bool r_16) h_15)) (Kp)) <|
ldI h_10 ((⟨r_5, 0, none⟩ : Addr).add 2) .i64 fun x_17 =>
bcase (x_17 == (1 : Int)) (
ldI h_10 ((⟨r_5, 0, none⟩ : Addr).add 3) .i64 fun x_18 =>
C F_page_within #[.int .i64 x_18] h_10 (fun v_19 h_20 =>
∃ (r_21 : Bool), v_19 = .bool r_21 ∧ (
K (.bool r_21) h_20)) (Kp)) <|
K (.bool false) h_10) <|
K (.bool false) h_10)) (Kp)

/- burin/page.written -/
set_option maxRecDepth 100000 in
def page_written (C : CallP) (l : Option Addr) (ln : Nat) (lc : Nat) (h : Heap) (K : Value → Heap → Prop) (Kp : List PanicEntry → Heap → Prop) : Prop :=
C F_bits_NewWriter #[.int .i64 67108864] h (fun v_1 h_2 =>
∃ (r_3 : Option Addr), ∃ (r_4 : Int), v_1 = .tuple #[.pointer r_3, .int .i64 r_4] ∧ (
bcase (r_4 != (0 : Int)) (
K (.slice none 0 0) h_2) <|
∃ J_5 : Nat → List Value → Heap → Prop, (∃ n_7, J_5 n_7 [.int .i64 0] h_2) ∧ ∀ (n_7 : Nat) (h_8 : Heap) (u_9 : Nat → Value) (x_10 : Int), J_5 n_7 [.int .i64 x_10] h_8 → (
bcase (decide (x_10 < (ln : Int))) (
needs (0 ≤ x_10 ∧ x_10 < (ln : Int)) <|
ptr l fun a_11 =>
ldI h_8 (a_11.add (x_10.toNat * 1)) .i64 fun x_12 =>
bcase (decide (x_12 < (0 : Int))) (
bindI (IntKind.i64.wrap (0 - x_12)) fun z_13 =>
bindI (IntKind.i64.wrap (z_13 - (1 : Int))) fun z_14 =>
bindI (IntKind.u64.wrap z_14) fun z_15 =>
C F_bits_Writer_Put #[.pointer r_3, .int .u64 z_15, .int .i64 8] h_8 (fun v_16 h_17 =>
∃ (r_18 : Int), v_16 = .int .i64 r_18 ∧ (
bindI (IntKind.i64.wrap (x_10 + (1 : Int))) fun z_19 =>
∃ m_6, m_6 < n_7 ∧ J_5 m_6 [.int .i64 z_19] h_17)) (Kp)) <|
bindI (IntKind.u64.wrap x_12) fun z_20 =>
C F_bits_Writer_Var #[.pointer r_3, .int .u64 z_20] h_8 (fun v_21 h_22 =>
∃ (r_23 : Int), v_21 = .int .i64 r_23 ∧ (
bindI (IntKind.i64.wrap (x_10 + (1 : Int))) fun z_24 =>
∃ m_6, m_6 < n_7 ∧ J_5 m_6 [.int .i64 z_24] h_22)) (Kp)) <|
C F_bits_Writer_Bytes #[.pointer r_3] h_8 (fun v_25 h_26 =>
∃ (r_27 : Option Addr) (r_27n : Nat) (r_27c : Nat), v_25 = .slice r_27 r_27n r_27c ∧ (
K (.slice r_27 r_27n r_27c) h_26)) (Kp)))) (Kp)

/- burin/page.within -/
set_option maxRecDepth 100000 in
def page_within (C : CallP) (n : Int) (h : Heap) (K : Value → Heap → Prop) (Kp : List PanicEntry → Heap → Prop) : Prop :=
bcase (decide (n ≥ (0 : Int))) (
K (.bool (decide (n ≤ (1048576 : Int)))) h) <|
K (.bool false) h

/- burin/page.operation -/
set_option maxRecDepth 100000 in
def page_operation (C : CallP) (op : Int) (h : Heap) (K : Value → Heap → Prop) (Kp : List PanicEntry → Heap → Prop) : Prop :=
bcase (decide (op ≥ (0 : Int))) (
K (.bool (decide (op ≤ (4 : Int)))) h) <|
K (.bool false) h

/- burin/page.New -/
set_option maxRecDepth 100000 in
def page_New (C : CallP) (s_1 : Int) (s_2 : Int) (s_3 : Int) (s_4 : Int) (h : Heap) (K : Value → Heap → Prop) (Kp : List PanicEntry → Heap → Prop) : Prop :=
newC h [.int .i64 s_1, .int .i64 s_2, .int .i64 s_3, .int .i64 s_4] T_api_Sheet fun r_5 h_6 =>
ldI h_6 ((⟨r_5, 0, none⟩ : Addr).add 0) .i64 fun x_7 =>
ldI h_6 ((⟨r_5, 0, none⟩ : Addr).add 1) .i64 fun x_8 =>
ldI h_6 ((⟨r_5, 0, none⟩ : Addr).add 2) .i64 fun x_9 =>
ldI h_6 ((⟨r_5, 0, none⟩ : Addr).add 3) .i64 fun x_10 =>
C F_page_sheet #[.agg #[.int .i64 x_7, .int .i64 x_8, .int .i64 x_9, .int .i64 x_10]] h_6 (fun v_11 h_12 =>
∃ (r_13 : Bool), v_11 = .bool r_13 ∧ (
bcase (!r_13) (
K (.tuple #[.pointer none, .int .i64 150]) h_12) <|
ldI h_12 ((⟨r_5, 0, none⟩ : Addr).add 0) .i64 fun x_14 =>
ldI h_12 ((⟨r_5, 0, none⟩ : Addr).add 1) .i64 fun x_15 =>
C F_bitmap_New #[.int .i64 x_14, .int .i64 x_15] h_12 (fun v_16 h_17 =>
∃ (r_18 : Option Addr), ∃ (r_19 : Int), v_16 = .tuple #[.pointer r_18, .int .i64 r_19] ∧ (
bcase (r_19 != (0 : Int)) (
K (.tuple #[.pointer none, .int .i64 150]) h_17) <|
ldI h_17 ((⟨r_5, 0, none⟩ : Addr).add 0) .i64 fun x_20 =>
ldI h_17 ((⟨r_5, 0, none⟩ : Addr).add 1) .i64 fun x_21 =>
ldI h_17 ((⟨r_5, 0, none⟩ : Addr).add 2) .i64 fun x_22 =>
C F_bitmap_Map_Fill #[.pointer r_18, .int .i64 0, .int .i64 0, .int .i64 x_20, .int .i64 x_21, .int .i64 x_22] h_17 (fun v_23 h_24 =>
∃ (r_25 : Int), v_23 = .int .i64 r_25 ∧ (
ldI h_24 ((⟨r_5, 0, none⟩ : Addr).add 0) .i64 fun x_26 =>
ldI h_24 ((⟨r_5, 0, none⟩ : Addr).add 1) .i64 fun x_27 =>
ldI h_24 ((⟨r_5, 0, none⟩ : Addr).add 2) .i64 fun x_28 =>
ldI h_24 ((⟨r_5, 0, none⟩ : Addr).add 3) .i64 fun x_29 =>
newC h_24 [.int .i64 x_26, .int .i64 x_27, .int .i64 x_28, .int .i64 x_29, .pointer r_18, .int .i64 0, .bool false] T_page_Page fun r_30 h_31 =>
K (.tuple #[.pointer (some ⟨r_30, 0, none⟩), .int .i64 0]) h_31)) (Kp))) (Kp))) (Kp)

/- (*burin/page.Page).Add -/
set_option maxRecDepth 100000 in
def page_Page_Add (C : CallP) (a0 : Option Addr) (a1 : Int) (a2 : Int) (a3 : Int) (a4_1 : Int) (a4_2 : Int) (a4_3 : Option Addr) (a4_3n : Nat) (a4_3c : Nat) (h : Heap) (K : Value → Heap → Prop) (Kp : List PanicEntry → Heap → Prop) : Prop :=
newC h [.int .i64 a4_1, .int .i64 a4_2, .slice a4_3 a4_3n a4_3c] T_api_Bitmap fun r_4 h_5 =>
ldI h_5 ((⟨r_4, 0, none⟩ : Addr).add 0) .i64 fun x_6 =>
ldI h_5 ((⟨r_4, 0, none⟩ : Addr).add 1) .i64 fun x_7 =>
ldS h_5 ((⟨r_4, 0, none⟩ : Addr).add 2) fun x_8 x_8n x_8c =>
C F_bitmap_From #[.agg #[.int .i64 x_6, .int .i64 x_7, .slice x_8 x_8n x_8c]] h_5 (fun v_9 h_10 =>
∃ (r_11 : Option Addr), ∃ (r_12 : Int), v_9 = .tuple #[.pointer r_11, .int .i64 r_12] ∧ (
∃ K_13 : List Value → Heap → Prop, (
∃ K_16 : List Value → Heap → Prop, (
C F_page_operation #[.int .i64 a3] h_10 (fun v_19 h_20 =>
∃ (r_21 : Bool), v_19 = .bool r_21 ∧ (
bcase (!r_21) (
K_16 [.bool (!r_21)] h_20) <|
K_16 [.bool (r_12 != (0 : Int))] h_20)) (Kp)) ∧ ∀ (h_17 : Heap) (u_18 : Nat → Value) (x_22 : Bool), K_16 [.bool x_22] h_17 → (
bcase x_22 (
K (.int .i64 150) h_17) <|
ptr a0 fun a_23 =>
ldB h_17 (a_23.add 6) fun x_24 =>
bcase x_24 (
bcase x_24 (
K (.int .i64 151) h_17) <|
K_13 [] h_17) <|
ptr a0 fun a_25 =>
ldI h_17 (a_25.add 5) .i64 fun x_26 =>
bcase (decide (a2 < x_26)) (
bcase (decide (a2 < x_26)) (
K (.int .i64 151) h_17) <|
K_13 [] h_17) <|
ptr a0 fun a_27 =>
ldI h_17 ((a_27.add 0).add 3) .i64 fun x_28 =>
bcase (x_28 != (0 : Int)) (
ptr a0 fun a_29 =>
ptr a0 fun a_30 =>
ldI h_17 (a_29.add 5) .i64 fun x_31 =>
bindI (IntKind.i64.wrap (a2 - x_31)) fun z_32 =>
ldI h_17 ((a_30.add 0).add 3) .i64 fun x_33 =>
ldI h_17 ((⟨r_4, 0, none⟩ : Addr).add 1) .i64 fun x_34 =>
bindI (IntKind.i64.wrap (x_33 - x_34)) fun z_35 =>
bcase (decide (z_32 > z_35)) (
K (.int .i64 151) h_17) <|
K_13 [] h_17) <|
K_13 [] h_17)) ∧ ∀ (h_14 : Heap) (u_15 : Nat → Value) , K_13 [] h_14 → (
ptr a0 fun a_36 =>
ldP h_14 (a_36.add 4) fun x_37 =>
ldI h_14 ((⟨r_4, 0, none⟩ : Addr).add 0) .i64 fun x_38 =>
ldI h_14 ((⟨r_4, 0, none⟩ : Addr).add 1) .i64 fun x_39 =>
C F_bitmap_Map_Blit #[.pointer x_37, .pointer r_11, .int .i64 0, .int .i64 0, .int .i64 x_38, .int .i64 x_39, .int .i64 a1, .int .i64 a2, .int .i64 a3] h_14 (fun v_40 h_41 =>
∃ (r_42 : Int), v_40 = .int .i64 r_42 ∧ (
K (.int .i64 r_42) h_41)) (Kp)))) (Kp)

/- (*burin/page.Page).Stripe -/
set_option maxRecDepth 100000 in
def page_Page_Stripe (C : CallP) (p : Option Addr) (last : Int) (h : Heap) (K : Value → Heap → Prop) (Kp : List PanicEntry → Heap → Prop) : Prop :=
ptr p fun a_1 =>
ldB h (a_1.add 6) fun x_2 =>
bcase x_2 (
K (.int .i64 151) h) <|
ptr p fun a_3 =>
ldI h ((a_3.add 0).add 3) .i64 fun x_4 =>
bcase (x_4 == (0 : Int)) (
K (.int .i64 151) h) <|
ptr p fun a_5 =>
ptr p fun a_6 =>
ldI h (a_5.add 5) .i64 fun x_7 =>
ldI h ((a_6.add 0).add 1) .i64 fun x_8 =>
bcase (x_7 == x_8) (
K (.int .i64 151) h) <|
ptr p fun a_9 =>
ptr p fun a_10 =>
ptr p fun a_11 =>
ldI h (a_9.add 5) .i64 fun x_12 =>
ldI h ((a_10.add 0).add 3) .i64 fun x_13 =>
bindI (IntKind.i64.wrap (x_12 + x_13)) fun z_14 =>
ldI h ((a_11.add 0).add 1) .i64 fun x_15 =>
bindI (minI z_14 x_15) fun z_16 =>
bindI (IntKind.i64.wrap (z_16 - (1 : Int))) fun z_17 =>
bcase (last != z_17) (
K (.int .i64 151) h) <|
bindI (IntKind.i64.wrap (last + (1 : Int))) fun z_18 =>
ptr p fun a_19 =>
stV h (a_19.add 5) (.int .i64 z_18) fun h_20 =>
K (.int .i64 0) h_20

/- (*burin/page.Page).Next -/
set_option maxRecDepth 100000 in
def page_Page_Next (C : CallP) (p : Option Addr) (h : Heap) (K : Value → Heap → Prop) (Kp : List PanicEntry → Heap → Prop) : Prop :=
ptr p fun a_1 =>
ldI h (a_1.add 5) .i64 fun x_2 =>
K (.int .i64 x_2) h

/- (*burin/page.Page).End -/
set_option maxRecDepth 100000 in
def page_Page_End (C : CallP) (p : Option Addr) (h : Heap) (K : Value → Heap → Prop) (Kp : List PanicEntry → Heap → Prop) : Prop :=
newC h [.int .i64 0, .int .i64 0, .slice none 0 0] T_api_Bitmap fun r_1 h_2 =>
∃ K_3 : List Value → Heap → Prop, (
ptr p fun a_6 =>
ldB h_2 (a_6.add 6) fun x_7 =>
bcase x_7 (
stV h_2 ((⟨r_1, 0, none⟩ : Addr).add 0) (.int .i64 0) fun h_8 =>
stV h_8 ((⟨r_1, 0, none⟩ : Addr).add 1) (.int .i64 0) fun h_9 =>
stV h_9 ((⟨r_1, 0, none⟩ : Addr).add 2) (.slice none 0 0) fun h_10 =>
ldI h_10 ((⟨r_1, 0, none⟩ : Addr).add 0) .i64 fun r_11 =>
ldI h_10 ((⟨r_1, 0, none⟩ : Addr).add 1) .i64 fun r_12 =>
ldS h_10 ((⟨r_1, 0, none⟩ : Addr).add 2) fun r_13 r_13n r_13c =>
K (.tuple #[.agg #[.int .i64 r_11, .int .i64 r_12, .slice r_13 r_13n r_13c], .int .i64 151]) h_10) <|
ptr p fun a_14 =>
ldI h_2 ((a_14.add 0).add 3) .i64 fun x_15 =>
bcase (x_15 != (0 : Int)) (
ptr p fun a_16 =>
ptr p fun a_17 =>
ldI h_2 (a_16.add 5) .i64 fun x_18 =>
ldI h_2 ((a_17.add 0).add 1) .i64 fun x_19 =>
bcase (decide (x_18 < x_19)) (
stV h_2 ((⟨r_1, 0, none⟩ : Addr).add 0) (.int .i64 0) fun h_20 =>
stV h_20 ((⟨r_1, 0, none⟩ : Addr).add 1) (.int .i64 0) fun h_21 =>
stV h_21 ((⟨r_1, 0, none⟩ : Addr).add 2) (.slice none 0 0) fun h_22 =>
ldI h_22 ((⟨r_1, 0, none⟩ : Addr).add 0) .i64 fun r_23 =>
ldI h_22 ((⟨r_1, 0, none⟩ : Addr).add 1) .i64 fun r_24 =>
ldS h_22 ((⟨r_1, 0, none⟩ : Addr).add 2) fun r_25 r_25n r_25c =>
K (.tuple #[.agg #[.int .i64 r_23, .int .i64 r_24, .slice r_25 r_25n r_25c], .int .i64 151]) h_22) <|
K_3 [] h_2) <|
K_3 [] h_2) ∧ ∀ (h_4 : Heap) (u_5 : Nat → Value) , K_3 [] h_4 → (
ptr p fun a_26 =>
ldI h_4 ((a_26.add 0).add 1) .i64 fun x_27 =>
ptr p fun a_28 =>
stV h_4 (a_28.add 6) (.bool true) fun h_29 =>
ptr p fun a_30 =>
stV h_29 (a_30.add 5) (.int .i64 x_27) fun h_31 =>
ptr p fun a_32 =>
ldP h_31 (a_32.add 4) fun x_33 =>
C F_bitmap_Map_Plain #[.pointer x_33] h_31 (fun v_34 h_35 =>
∃ (r_36 : Int) (r_37 : Int) (r_38 : Option Addr) (r_38n : Nat) (r_38c : Nat), v_34 = .agg #[.int .i64 r_36, .int .i64 r_37, .slice r_38 r_38n r_38c] ∧ (
stV h_35 ((⟨r_1, 0, none⟩ : Addr).add 0) (.int .i64 r_36) fun h_39 =>
stV h_39 ((⟨r_1, 0, none⟩ : Addr).add 1) (.int .i64 r_37) fun h_40 =>
stV h_40 ((⟨r_1, 0, none⟩ : Addr).add 2) (.slice r_38 r_38n r_38c) fun h_41 =>
ldI h_41 ((⟨r_1, 0, none⟩ : Addr).add 0) .i64 fun r_42 =>
ldI h_41 ((⟨r_1, 0, none⟩ : Addr).add 1) .i64 fun r_43 =>
ldS h_41 ((⟨r_1, 0, none⟩ : Addr).add 2) fun r_44 r_44n r_44c =>
K (.tuple #[.agg #[.int .i64 r_42, .int .i64 r_43, .slice r_44 r_44n r_44c], .int .i64 0]) h_41)) (Kp))

/- burin/page.read -/
set_option maxRecDepth 100000 in
def page_read (C : CallP) (D : CallDP) (f : Option Addr) (fn : Nat) (fc : Nat) (run : Value) (h : Heap) (K : Value → Heap → Prop) (Kp : List PanicEntry → Heap → Prop) : Prop :=
newC h [.int .i64 0] T_api_Errno fun r_1 h_2 =>
C F_bits_NewReader #[.slice f fn fc] h_2 (fun v_3 h_4 =>
∃ (r_5 : Option Addr), v_3 = .pointer r_5 ∧ (
callD C (fun c_13 h_14 => leaveD D (fun h_11 =>
ldI h_11 (⟨r_1, 0, none⟩ : Addr) .i64 fun r_12 =>
K (.int .i64 r_12) h_11) Kp [{ target := .fn (.func F_page_read_c1) #[.pointer (some ⟨r_1, 0, none⟩)], args := #[] }] (.panicking c_13) h_14) run [.agg #[.pointer r_5]] h_4 fun v_6 h_7 =>
stV h_7 (⟨r_1, 0, none⟩ : Addr) (.int .i64 0) fun h_8 =>
leaveD D (fun h_9 =>
ldI h_9 (⟨r_1, 0, none⟩ : Addr) .i64 fun r_10 =>
K (.int .i64 r_10) h_9) Kp [{ target := .fn (.func F_page_read_c1) #[.pointer (some ⟨r_1, 0, none⟩)], args := #[] }] .returning h_8)) (fun c_17 h_18 => leaveD D (fun h_15 =>
ldI h_15 (⟨r_1, 0, none⟩ : Addr) .i64 fun r_16 =>
K (.int .i64 r_16) h_15) Kp [{ target := .fn (.func F_page_read_c1) #[.pointer (some ⟨r_1, 0, none⟩)], args := #[] }] (.panicking c_17) h_18)

/- burin/page.DecodeSheet$1 -/
set_option maxRecDepth 100000 in
def page_DecodeSheet_c1 (C : CallP) (r_1 : Option Addr) (cap0 : Addr) (h : Heap) (K : Value → Heap → Prop) (Kp : List PanicEntry → Heap → Prop) : Prop :=
newC h [.pointer r_1] T_page_reader fun r_2 h_3 =>
ldP h_3 ((⟨r_2, 0, none⟩ : Addr).add 0) fun x_4 =>
C F_page_reader_size #[.agg #[.pointer x_4]] h_3 (fun v_5 h_6 =>
∃ (r_7 : Int), ∃ (r_8 : Int), v_5 = .tuple #[.int .i64 r_7, .int .i64 r_8] ∧ (
stV h_6 (cap0.add 0) (.int .i64 r_7) fun h_9 =>
stV h_9 (cap0.add 1) (.int .i64 r_8) fun h_10 =>
ldP h_10 ((⟨r_2, 0, none⟩ : Addr).add 0) fun x_11 =>
C F_page_reader_byte #[.agg #[.pointer x_11]] h_10 (fun v_12 h_13 =>
∃ (r_14 : Int), v_12 = .int .i64 r_14 ∧ (
stV h_13 (cap0.add 2) (.int .i64 r_14) fun h_15 =>
ldI h_15 (cap0.add 2) .i64 fun x_16 =>
C F_page_wrong #[.bool (decide (x_16 > (1 : Int)))] h_15 (fun v_17 h_18 =>
ldP h_18 ((⟨r_2, 0, none⟩ : Addr).add 0) fun x_19 =>
C F_page_reader_place #[.agg #[.pointer x_19]] h_18 (fun v_20 h_21 =>
∃ (r_22 : Int), v_20 = .int .i64 r_22 ∧ (
stV h_21 (cap0.add 3) (.int .i64 r_22) fun h_23 =>
ldP h_23 ((⟨r_2, 0, none⟩ : Addr).add 0) fun x_24 =>
C F_bits_Reader_Left #[.pointer x_24] h_23 (fun v_25 h_26 =>
∃ (r_27 : Int), v_25 = .int .i64 r_27 ∧ (
C F_page_wrong #[.bool (decide (r_27 > (0 : Int)))] h_26 (fun v_28 h_29 =>
K (.tuple #[]) h_29) (Kp))) (Kp))) (Kp)) (Kp))) (Kp))) (Kp)

/- (burin/page.reader).size -/
set_option maxRecDepth 100000 in
def page_reader_size (C : CallP) (r_1 : Option Addr) (h : Heap) (K : Value → Heap → Prop) (Kp : List PanicEntry → Heap → Prop) : Prop :=
newC h [.pointer r_1] T_page_reader fun r_2 h_3 =>
ldP h_3 ((⟨r_2, 0, none⟩ : Addr).add 0) fun x_4 =>
C F_page_reader_number #[.agg #[.pointer x_4]] h_3 (fun v_5 h_6 =>
∃ (r_7 : Int), v_5 = .int .u64 r_7 ∧ (
C F_page_wrong #[.bool (r_7 == (0 : Int))] h_6 (fun v_8 h_9 =>
ldP h_9 ((⟨r_2, 0, none⟩ : Addr).add 0) fun x_10 =>
C F_page_reader_number #[.agg #[.pointer x_10]] h_9 (fun v_11 h_12 =>
∃ (r_13 : Int), v_11 = .int .u64 r_13 ∧ (
C F_page_wrong #[.bool (r_13 == (0 : Int))] h_12 (fun v_14 h_15 =>
bcase (decide (r_7 > (1048576 : Int))) (
Kp [{ v := .iface T_page_fault (.agg #[.int .i64 120]), recovered := false }] h_15) <|
bcase (decide (r_13 > (1048576 : Int))) (
Kp [{ v := .iface T_page_fault (.agg #[.int .i64 120]), recovered := false }] h_15) <|
bindI (IntKind.u64.wrap (r_7 * r_13)) fun z_16 =>
bcase (decide (z_16 > (1048576 : Int))) (
Kp [{ v := .iface T_page_fault (.agg #[.int .i64 120]), recovered := false }] h_15) <|
bindI (IntKind.i64.wrap r_7) fun z_17 =>
bindI (IntKind.i64.wrap r_13) fun z_18 =>
K (.tuple #[.int .i64 z_17, .int .i64 z_18]) h_15) (Kp))) (Kp)) (Kp))) (Kp)

/- (burin/page.reader).byte -/
set_option maxRecDepth 100000 in
def page_reader_byte (C : CallP) (r_1 : Option Addr) (h : Heap) (K : Value → Heap → Prop) (Kp : List PanicEntry → Heap → Prop) : Prop :=
newC h [.pointer r_1] T_page_reader fun r_2 h_3 =>
ldP h_3 ((⟨r_2, 0, none⟩ : Addr).add 0) fun x_4 =>
C F_bits_Reader_Take #[.pointer x_4, .int .i64 8] h_3 (fun v_5 h_6 =>
∃ (r_7 : Int), ∃ (r_8 : Int), v_5 = .tuple #[.int .u64 r_7, .int .i64 r_8] ∧ (
C F_page_wrong #[.bool (r_8 != (0 : Int))] h_6 (fun v_9 h_10 =>
bindI (IntKind.i64.wrap r_7) fun z_11 =>
K (.int .i64 z_11) h_10) (Kp))) (Kp)

/- burin/page.wrong -/
set_option maxRecDepth 100000 in
def page_wrong (C : CallP) (bad : Bool) (h : Heap) (K : Value → Heap → Prop) (Kp : List PanicEntry → Heap → Prop) : Prop :=
bcase bad (
Kp [{ v := .iface T_page_fault (.agg #[.int .i64 150]), recovered := false }] h) <|
K (.tuple #[]) h

/- (burin/page.reader).place -/
set_option maxRecDepth 100000 in
def page_reader_place (C : CallP) (r_1 : Option Addr) (h : Heap) (K : Value → Heap → Prop) (Kp : List PanicEntry → Heap → Prop) : Prop :=
newC h [.pointer r_1] T_page_reader fun r_2 h_3 =>
ldP h_3 ((⟨r_2, 0, none⟩ : Addr).add 0) fun x_4 =>
C F_page_reader_number #[.agg #[.pointer x_4]] h_3 (fun v_5 h_6 =>
∃ (r_7 : Int), v_5 = .int .u64 r_7 ∧ (
C F_page_wrong #[.bool (decide (r_7 > (1048576 : Int)))] h_6 (fun v_8 h_9 =>
bindI (IntKind.i64.wrap r_7) fun z_10 =>
K (.int .i64 z_10) h_9) (Kp))) (Kp)

/- burin/page.DecodeRegion$1 -/
set_option maxRecDepth 100000 in
def page_DecodeRegion_c1 (C : CallP) (a0_1 : Option Addr) (cap0 : Addr) (cap1 : Addr) (h : Heap) (K : Value → Heap → Prop) (Kp : List PanicEntry → Heap → Prop) : Prop :=
newC h [.pointer a0_1] T_page_reader fun r_2 h_3 =>
ldP h_3 ((⟨r_2, 0, none⟩ : Addr).add 0) fun x_4 =>
C F_page_reader_place #[.agg #[.pointer x_4]] h_3 (fun v_5 h_6 =>
∃ (r_7 : Int), v_5 = .int .i64 r_7 ∧ (
stV h_6 (cap0.add 0) (.int .i64 r_7) fun h_8 =>
ldP h_8 ((⟨r_2, 0, none⟩ : Addr).add 0) fun x_9 =>
C F_page_reader_place #[.agg #[.pointer x_9]] h_8 (fun v_10 h_11 =>
∃ (r_12 : Int), v_10 = .int .i64 r_12 ∧ (
stV h_11 (cap0.add 1) (.int .i64 r_12) fun h_13 =>
ldP h_13 ((⟨r_2, 0, none⟩ : Addr).add 0) fun x_14 =>
C F_page_reader_size #[.agg #[.pointer x_14]] h_13 (fun v_15 h_16 =>
∃ (r_17 : Int), ∃ (r_18 : Int), v_15 = .tuple #[.int .i64 r_17, .int .i64 r_18] ∧ (
ldP h_16 ((⟨r_2, 0, none⟩ : Addr).add 0) fun x_19 =>
C F_page_reader_byte #[.agg #[.pointer x_19]] h_16 (fun v_20 h_21 =>
∃ (r_22 : Int), v_20 = .int .i64 r_22 ∧ (
∃ K_23 : List Value → Heap → Prop, (
bcase (decide (r_22 > (63 : Int))) (
C F_page_wrong #[.bool true] h_21 (fun v_26 h_27 =>
K_23 [] h_27) (Kp)) <|
bindI (shrI .i64 r_22 (3 : Int)) fun z_28 =>
C F_page_operation #[.int .i64 z_28] h_21 (fun v_29 h_30 =>
∃ (r_31 : Bool), v_29 = .bool r_31 ∧ (
C F_page_wrong #[.bool (!r_31)] h_30 (fun v_32 h_33 =>
K_23 [] h_33) (Kp))) (Kp)) ∧ ∀ (h_24 : Heap) (u_25 : Nat → Value) , K_23 [] h_24 → (
bindI (shrI .i64 r_22 (3 : Int)) fun z_34 =>
bindI (bitI .and .i64 r_22 (3 : Int)) fun z_35 =>
bindI (bitI .and .i64 r_22 (4 : Int)) fun z_36 =>
stV h_24 (cap0.add 2) (.int .i64 z_34) fun h_37 =>
stV h_37 (cap0.add 3) (.int .i64 z_35) fun h_38 =>
stV h_38 (cap0.add 4) (.bool (z_36 != (0 : Int))) fun h_39 =>
ldS h_39 cap1 fun x_40 x_40n x_40c =>
ldS h_39 cap1 fun x_41 x_41n x_41c =>
ldP h_39 ((⟨r_2, 0, none⟩ : Addr).add 0) fun x_42 =>
ldI h_39 (cap0.add 3) .i64 fun x_43 =>
ldB h_39 (cap0.add 4) fun x_44 =>
C F_bits_Reader_Left #[.pointer x_42] h_39 (fun v_45 h_46 =>
∃ (r_47 : Int), v_45 = .int .i64 r_47 ∧ (
hext h_39 h_46 ∧ (
bindI (IntKind.i64.wrap (r_47.tdiv (8 : Int))) fun z_48 =>
bindI (IntKind.i64.wrap ((x_41n : Int) - z_48)) fun z_49 =>
needs (0 ≤ z_49 ∧ z_49 ≤ ((x_40n : Nat) : Int)) <|
C F_generic_Decode #[.slice (subA x_40 (x_40c) (z_49.toNat) 1) (x_40n - z_49.toNat) (x_40c - z_49.toNat), .int .i64 r_17, .int .i64 r_18, .int .i64 x_43, .bool x_44] h_46 (fun v_50 h_51 =>
∃ (r_52 : Int) (r_53 : Int) (r_54 : Option Addr) (r_54n : Nat) (r_54c : Nat), ∃ (r_55 : Int), v_50 = .tuple #[.agg #[.int .i64 r_52, .int .i64 r_53, .slice r_54 r_54n r_54c], .int .i64 r_55] ∧ (
stV h_51 ((cap0.add 5).add 0) (.int .i64 r_52) fun h_56 =>
stV h_56 ((cap0.add 5).add 1) (.int .i64 r_53) fun h_57 =>
stV h_57 ((cap0.add 5).add 2) (.slice r_54 r_54n r_54c) fun h_58 =>
bcase (r_55 != (0 : Int)) (
Kp [{ v := .iface T_page_fault (.agg #[.int .i64 r_55]), recovered := false }] h_58) <|
K (.tuple #[]) h_58)) (Kp)))) (Kp)))) (Kp))) (Kp))) (Kp))) (Kp)

/- burin/page.sized -/
set_option maxRecDepth 100000 in
def page_sized (C : CallP) (w : Int) (h' : Int) (h : Heap) (K : Value → Heap → Prop) (Kp : List PanicEntry → Heap → Prop) : Prop :=
bcase (decide (w ≥ (1 : Int))) (
bcase (decide (h' ≥ (1 : Int))) (
bcase (decide (w ≤ (1048576 : Int))) (
bcase (decide (h' ≤ (1048576 : Int))) (
bindI (IntKind.i64.wrap (w * h')) fun z_1 =>
K (.bool (decide (z_1 ≤ (1048576 : Int)))) h) <|
K (.bool false) h) <|
K (.bool false) h) <|
K (.bool false) h) <|
K (.bool false) h

/- burin/page.read$1 -/
set_option maxRecDepth 100000 in
def page_read_c1 (C : CallP) (cap0 : Addr) (u : FrameMode) (h : Heap) (Kd : FrameMode → Heap → Prop) (Kdp : FrameMode → List PanicEntry → Heap → Prop) : Prop :=
recD u (fun u_1 =>
Kd u_1 h) (fun t_2 x_3 u_4 =>
bcase (Nat.beq t_2 T_page_fault) (
∃ (r_5 : Int), x_3 = .agg #[.int .i64 r_5] ∧ (
newC h [.int .i64 0] T_page_fault fun r_6 h_7 =>
stV h_7 ((⟨r_6, 0, none⟩ : Addr).add 0) (.int .i64 r_5) fun h_8 =>
ldI h_8 ((⟨r_6, 0, none⟩ : Addr).add 0) .i64 fun x_9 =>
stV h_8 cap0 (.int .i64 x_9) fun h_10 =>
Kd u_4 h_10)) <|
newC h [.int .i64 0] T_page_fault fun r_11 h_12 =>
stV h_12 ((⟨r_11, 0, none⟩ : Addr).add 0) (.int .i64 0) fun h_13 =>
Kdp u_4 [{ v := .iface t_2 (x_3), recovered := false }] h_13)

/- (burin/page.reader).number -/
set_option maxRecDepth 100000 in
def page_reader_number (C : CallP) (r_1 : Option Addr) (h : Heap) (K : Value → Heap → Prop) (Kp : List PanicEntry → Heap → Prop) : Prop :=
newC h [.pointer r_1] T_page_reader fun r_2 h_3 =>
ldP h_3 ((⟨r_2, 0, none⟩ : Addr).add 0) fun x_4 =>
C F_bits_Reader_Var #[.pointer x_4] h_3 (fun v_5 h_6 =>
∃ (r_7 : Int), ∃ (r_8 : Int), v_5 = .tuple #[.int .u64 r_7, .int .i64 r_8] ∧ (
C F_page_wrong #[.bool (r_8 != (0 : Int))] h_6 (fun v_9 h_10 =>
K (.int .u64 r_7) h_10) (Kp))) (Kp)

end Go.Den.YtfaclehehhgpcaaGreat

/- Written by gen.py: each condition of the functions of page is the one of its body; so it is enough for its call. -/
set_option linter.unusedVariables false
set_option linter.unusedSimpArgs false
namespace Go.Den.YtfaclehehhgpcaaGreat
open Go Go.Den

noncomputable def hints_page_EncodeSheet : Hints := Hints.mk (fun i => none)
  (fun i => none)
  (fun i => none) []
set_option maxRecDepth 100000 in
theorem eq_page_EncodeSheet (C : CallP) (s_1 : Int) (s_2 : Int) (s_3 : Int) (s_4 : Int) (h : Heap) (K : Value → Heap → Prop) (Kp : List PanicEntry → Heap → Prop) :
    fnD Go.Proofs.Tryz.prog C hints_page_EncodeSheet Go.Proofs.Tryz.f12 [.agg #[.int .i64 s_1, .int .i64 s_2, .int .i64 s_3, .int .i64 s_4]] h K Kp = page_EncodeSheet C s_1 s_2 s_3 s_4 h K Kp := by kernel_rfl

theorem call_page_EncodeSheet {s_1 : Int} {s_2 : Int} {s_3 : Int} {s_4 : Int} {h : Heap} {K : Value → Heap → Prop} {Kp : List PanicEntry → Heap → Prop} (H : page_EncodeSheet (CallsHP Go.Proofs.Tryz.prog) s_1 s_2 s_3 s_4 h K Kp) : CallsHP Go.Proofs.Tryz.prog F_page_EncodeSheet #[.agg #[.int .i64 s_1, .int .i64 s_2, .int .i64 s_3, .int .i64 s_4]] h K Kp :=
  callsHP_of hints_page_EncodeSheet (by kernel_rfl) Go.Proofs.Tryz.func12 (by kernel_rfl) (by rw [eq_page_EncodeSheet]; exact H)

noncomputable def hints_page_EncodeRegion : Hints := Hints.mk (fun i => none)
  (fun i => none)
  (fun i => bif Nat.beq i 9 then some ([(6, .int .i64)], 4323455642275676224) else (none)) []
set_option maxRecDepth 100000 in
theorem eq_page_EncodeRegion (C : CallP) (a0_1 : Int) (a0_2 : Int) (a0_3 : Int) (a0_4 : Int) (a0_5 : Bool) (a0_6 : Int) (a0_7 : Int) (a0_8 : Option Addr) (a0_8n : Nat) (a0_8c : Nat) (h : Heap) (K : Value → Heap → Prop) (Kp : List PanicEntry → Heap → Prop) :
    fnD Go.Proofs.Tryz.prog C hints_page_EncodeRegion Go.Proofs.Tryz.f17 [.agg #[.int .i64 a0_1, .int .i64 a0_2, .int .i64 a0_3, .int .i64 a0_4, .bool a0_5, .int .i64 a0_6, .int .i64 a0_7, .slice a0_8 a0_8n a0_8c]] h K Kp = page_EncodeRegion C a0_1 a0_2 a0_3 a0_4 a0_5 a0_6 a0_7 a0_8 a0_8n a0_8c h K Kp := by kernel_rfl

theorem call_page_EncodeRegion {a0_1 : Int} {a0_2 : Int} {a0_3 : Int} {a0_4 : Int} {a0_5 : Bool} {a0_6 : Int} {a0_7 : Int} {a0_8 : Option Addr} {a0_8n : Nat} {a0_8c : Nat} {h : Heap} {K : Value → Heap → Prop} {Kp : List PanicEntry → Heap → Prop} (H : page_EncodeRegion (CallsHP Go.Proofs.Tryz.prog) a0_1 a0_2 a0_3 a0_4 a0_5 a0_6 a0_7 a0_8 a0_8n a0_8c h K Kp) : CallsHP Go.Proofs.Tryz.prog F_page_EncodeRegion #[.agg #[.int .i64 a0_1, .int .i64 a0_2, .int .i64 a0_3, .int .i64 a0_4, .bool a0_5, .int .i64 a0_6, .int .i64 a0_7, .slice a0_8 a0_8n a0_8c]] h K Kp :=
  callsHP_of hints_page_EncodeRegion (by kernel_rfl) Go.Proofs.Tryz.func17 (by kernel_rfl) (by rw [eq_page_EncodeRegion]; exact H)

noncomputable def hints_page_DecodeSheet : Hints := Hints.mk (fun i => none)
  (fun i => none)
  (fun i => none) []
set_option maxRecDepth 100000 in
theorem eq_page_DecodeSheet (C : CallP) (f : Option Addr) (fn : Nat) (fc : Nat) (h : Heap) (K : Value → Heap → Prop) (Kp : List PanicEntry → Heap → Prop) :
    fnD Go.Proofs.Tryz.prog C hints_page_DecodeSheet Go.Proofs.Tryz.f22 [.slice f fn fc] h K Kp = page_DecodeSheet C f fn fc h K Kp := by kernel_rfl

theorem call_page_DecodeSheet {f : Option Addr} {fn : Nat} {fc : Nat} {h : Heap} {K : Value → Heap → Prop} {Kp : List PanicEntry → Heap → Prop} (H : page_DecodeSheet (CallsHP Go.Proofs.Tryz.prog) f fn fc h K Kp) : CallsHP Go.Proofs.Tryz.prog F_page_DecodeSheet #[.slice f fn fc] h K Kp :=
  callsHP_of hints_page_DecodeSheet (by kernel_rfl) Go.Proofs.Tryz.func22 (by kernel_rfl) (by rw [eq_page_DecodeSheet]; exact H)

noncomputable def hints_page_DecodeRegion : Hints := Hints.mk (fun i => none)
  (fun i => none)
  (fun i => none) []
set_option maxRecDepth 100000 in
theorem eq_page_DecodeRegion (C : CallP) (f : Option Addr) (fn : Nat) (fc : Nat) (h : Heap) (K : Value → Heap → Prop) (Kp : List PanicEntry → Heap → Prop) :
    fnD Go.Proofs.Tryz.prog C hints_page_DecodeRegion Go.Proofs.Tryz.f26 [.slice f fn fc] h K Kp = page_DecodeRegion C f fn fc h K Kp := by kernel_rfl

theorem call_page_DecodeRegion {f : Option Addr} {fn : Nat} {fc : Nat} {h : Heap} {K : Value → Heap → Prop} {Kp : List PanicEntry → Heap → Prop} (H : page_DecodeRegion (CallsHP Go.Proofs.Tryz.prog) f fn fc h K Kp) : CallsHP Go.Proofs.Tryz.prog F_page_DecodeRegion #[.slice f fn fc] h K Kp :=
  callsHP_of hints_page_DecodeRegion (by kernel_rfl) Go.Proofs.Tryz.func26 (by kernel_rfl) (by rw [eq_page_DecodeRegion]; exact H)

noncomputable def hints_page_sheet : Hints := Hints.mk (fun i => none)
  (fun i => none)
  (fun i => none) []
set_option maxRecDepth 100000 in
theorem eq_page_sheet (C : CallP) (s_1 : Int) (s_2 : Int) (s_3 : Int) (s_4 : Int) (h : Heap) (K : Value → Heap → Prop) (Kp : List PanicEntry → Heap → Prop) :
    fnD Go.Proofs.Tryz.prog C hints_page_sheet Go.Proofs.Tryz.f48 [.agg #[.int .i64 s_1, .int .i64 s_2, .int .i64 s_3, .int .i64 s_4]] h K Kp = page_sheet C s_1 s_2 s_3 s_4 h K Kp := by kernel_rfl

theorem call_page_sheet {s_1 : Int} {s_2 : Int} {s_3 : Int} {s_4 : Int} {h : Heap} {K : Value → Heap → Prop} {Kp : List PanicEntry → Heap → Prop} (H : page_sheet (CallsHP Go.Proofs.Tryz.prog) s_1 s_2 s_3 s_4 h K Kp) : CallsHP Go.Proofs.Tryz.prog F_page_sheet #[.agg #[.int .i64 s_1, .int .i64 s_2, .int .i64 s_3, .int .i64 s_4]] h K Kp :=
  callsHP_of hints_page_sheet (by kernel_rfl) Go.Proofs.Tryz.func48 (by kernel_rfl) (by rw [eq_page_sheet]; exact H)

noncomputable def hints_page_written : Hints := Hints.mk (fun i => none)
  (fun i => bif Nat.beq i 5 then some ([(15, .int .i64)], 4294934592) else (none))
  (fun i => none) []
set_option maxRecDepth 100000 in
theorem eq_page_written (C : CallP) (l : Option Addr) (ln : Nat) (lc : Nat) (h : Heap) (K : Value → Heap → Prop) (Kp : List PanicEntry → Heap → Prop) :
    fnD Go.Proofs.Tryz.prog C hints_page_written Go.Proofs.Tryz.f49 [.slice l ln lc] h K Kp = page_written C l ln lc h K Kp := by kernel_rfl

theorem call_page_written {l : Option Addr} {ln : Nat} {lc : Nat} {h : Heap} {K : Value → Heap → Prop} {Kp : List PanicEntry → Heap → Prop} (H : page_written (CallsHP Go.Proofs.Tryz.prog) l ln lc h K Kp) : CallsHP Go.Proofs.Tryz.prog F_page_written #[.slice l ln lc] h K Kp :=
  callsHP_of hints_page_written (by kernel_rfl) Go.Proofs.Tryz.func49 (by kernel_rfl) (by rw [eq_page_written]; exact H)

noncomputable def hints_page_within : Hints := Hints.mk (fun i => none)
  (fun i => none)
  (fun i => none) []
set_option maxRecDepth 100000 in
theorem eq_page_within (C : CallP) (n : Int) (h : Heap) (K : Value → Heap → Prop) (Kp : List PanicEntry → Heap → Prop) :
    fnD Go.Proofs.Tryz.prog C hints_page_within Go.Proofs.Tryz.f54 [.int .i64 n] h K Kp = page_within C n h K Kp := by kernel_rfl

theorem call_page_within {n : Int} {h : Heap} {K : Value → Heap → Prop} {Kp : List PanicEntry → Heap → Prop} (H : page_within (CallsHP Go.Proofs.Tryz.prog) n h K Kp) : CallsHP Go.Proofs.Tryz.prog F_page_within #[.int .i64 n] h K Kp :=
  callsHP_of hints_page_within (by kernel_rfl) Go.Proofs.Tryz.func54 (by kernel_rfl) (by rw [eq_page_within]; exact H)

noncomputable def hints_page_operation : Hints := Hints.mk (fun i => none)
  (fun i => none)
  (fun i => none) []
set_option maxRecDepth 100000 in
theorem eq_page_operation (C : CallP) (op : Int) (h : Heap) (K : Value → Heap → Prop) (Kp : List PanicEntry → Heap → Prop) :
    fnD Go.Proofs.Tryz.prog C hints_page_operation Go.Proofs.Tryz.f55 [.int .i64 op] h K Kp = page_operation C op h K Kp := by kernel_rfl

theorem call_page_operation {op : Int} {h : Heap} {K : Value → Heap → Prop} {Kp : List PanicEntry → Heap → Prop} (H : page_operation (CallsHP Go.Proofs.Tryz.prog) op h K Kp) : CallsHP Go.Proofs.Tryz.prog F_page_operation #[.int .i64 op] h K Kp :=
  callsHP_of hints_page_operation (by kernel_rfl) Go.Proofs.Tryz.func55 (by kernel_rfl) (by rw [eq_page_operation]; exact H)

noncomputable def hints_page_New : Hints := Hints.mk (fun i => none)
  (fun i => none)
  (fun i => none) []
set_option maxRecDepth 100000 in
theorem eq_page_New (C : CallP) (s_1 : Int) (s_2 : Int) (s_3 : Int) (s_4 : Int) (h : Heap) (K : Value → Heap → Prop) (Kp : List PanicEntry → Heap → Prop) :
    fnD Go.Proofs.Tryz.prog C hints_page_New Go.Proofs.Tryz.f60 [.agg #[.int .i64 s_1, .int .i64 s_2, .int .i64 s_3, .int .i64 s_4]] h K Kp = page_New C s_1 s_2 s_3 s_4 h K Kp := by kernel_rfl

theorem call_page_New {s_1 : Int} {s_2 : Int} {s_3 : Int} {s_4 : Int} {h : Heap} {K : Value → Heap → Prop} {Kp : List PanicEntry → Heap → Prop} (H : page_New (CallsHP Go.Proofs.Tryz.prog) s_1 s_2 s_3 s_4 h K Kp) : CallsHP Go.Proofs.Tryz.prog F_page_New #[.agg #[.int .i64 s_1, .int .i64 s_2, .int .i64 s_3, .int .i64 s_4]] h K Kp :=
  callsHP_of hints_page_New (by kernel_rfl) Go.Proofs.Tryz.func60 (by kernel_rfl) (by rw [eq_page_New]; exact H)

noncomputable def hints_page_Page_Add : Hints := Hints.mk (fun i => bif Nat.beq i 7 then some ([], .take 0 <| .take 1 <| .take 2 <| .take 3 <| .take 4 <| .take 5 <| .take 6 <| .take 7 <| .take 8 <| .take 9 <| .take 10 <| .take 13 <| .take 14 <| .take 15 <| .take 16 <| .take 18 <| .take 11 <| .take 12 <| .take 17 <| .take 19 <| .take 20 <| .take 21 <| .take 22 <| .take 23 <| .done) else (bif Nat.beq i 9 then some ([12], .take 0 <| .take 1 <| .take 2 <| .take 4 <| .take 5 <| .take 7 <| .take 9 <| .take 10 <| .take 11 <| .take 3 <| .take 6 <| .take 8 <| .bar 12 [] <| .take 13 <| .done) else (none)))
  (fun i => none)
  (fun i => bif Nat.beq i 4 then some ([(18, .bool)], 16515072) else (bif Nat.beq i 9 then some ([], 288230376151450624) else (none))) []
set_option maxRecDepth 100000 in
theorem eq_page_Page_Add (C : CallP) (a0 : Option Addr) (a1 : Int) (a2 : Int) (a3 : Int) (a4_1 : Int) (a4_2 : Int) (a4_3 : Option Addr) (a4_3n : Nat) (a4_3c : Nat) (h : Heap) (K : Value → Heap → Prop) (Kp : List PanicEntry → Heap → Prop) :
    fnD Go.Proofs.Tryz.prog C hints_page_Page_Add Go.Proofs.Tryz.f61 [.pointer a0, .int .i64 a1, .int .i64 a2, .int .i64 a3, .agg #[.int .i64 a4_1, .int .i64 a4_2, .slice a4_3 a4_3n a4_3c]] h K Kp = page_Page_Add C a0 a1 a2 a3 a4_1 a4_2 a4_3 a4_3n a4_3c h K Kp := by kernel_rfl

theorem call_page_Page_Add {a0 : Option Addr} {a1 : Int} {a2 : Int} {a3 : Int} {a4_1 : Int} {a4_2 : Int} {a4_3 : Option Addr} {a4_3n : Nat} {a4_3c : Nat} {h : Heap} {K : Value → Heap → Prop} {Kp : List PanicEntry → Heap → Prop} (H : page_Page_Add (CallsHP Go.Proofs.Tryz.prog) a0 a1 a2 a3 a4_1 a4_2 a4_3 a4_3n a4_3c h K Kp) : CallsHP Go.Proofs.Tryz.prog F_page_Page_Add #[.pointer a0, .int .i64 a1, .int .i64 a2, .int .i64 a3, .agg #[.int .i64 a4_1, .int .i64 a4_2, .slice a4_3 a4_3n a4_3c]] h K Kp :=
  callsHP_of hints_page_Page_Add (by kernel_rfl) Go.Proofs.Tryz.func61 (by kernel_rfl) (by rw [eq_page_Page_Add]; exact H)

noncomputable def hints_page_Page_Stripe : Hints := Hints.mk (fun i => bif Nat.beq i 1 then some ([], .take 0 <| .take 1 <| .take 2 <| .take 3 <| .take 4 <| .take 5 <| .take 6 <| .take 7 <| .take 8 <| .take 9 <| .take 10 <| .take 11 <| .take 12 <| .take 13 <| .take 14 <| .take 15 <| .take 17 <| .take 18 <| .take 19 <| .take 20 <| .take 16 <| .take 21 <| .take 22 <| .take 23 <| .take 24 <| .take 25 <| .take 26 <| .take 27 <| .take 28 <| .take 30 <| .take 31 <| .take 32 <| .take 33 <| .take 36 <| .take 37 <| .take 38 <| .take 39 <| .take 29 <| .take 34 <| .take 35 <| .take 40 <| .take 41 <| .take 42 <| .take 43 <| .take 44 <| .done) else (none))
  (fun i => none)
  (fun i => none) []
set_option maxRecDepth 100000 in
theorem eq_page_Page_Stripe (C : CallP) (p : Option Addr) (last : Int) (h : Heap) (K : Value → Heap → Prop) (Kp : List PanicEntry → Heap → Prop) :
    fnD Go.Proofs.Tryz.prog C hints_page_Page_Stripe Go.Proofs.Tryz.f62 [.pointer p, .int .i64 last] h K Kp = page_Page_Stripe C p last h K Kp := by kernel_rfl

theorem call_page_Page_Stripe {p : Option Addr} {last : Int} {h : Heap} {K : Value → Heap → Prop} {Kp : List PanicEntry → Heap → Prop} (H : page_Page_Stripe (CallsHP Go.Proofs.Tryz.prog) p last h K Kp) : CallsHP Go.Proofs.Tryz.prog F_page_Page_Stripe #[.pointer p, .int .i64 last] h K Kp :=
  callsHP_of hints_page_Page_Stripe (by kernel_rfl) Go.Proofs.Tryz.func62 (by kernel_rfl) (by rw [eq_page_Page_Stripe]; exact H)

noncomputable def hints_page_Page_Next : Hints := Hints.mk (fun i => none)
  (fun i => none)
  (fun i => none) []
set_option maxRecDepth 100000 in
theorem eq_page_Page_Next (C : CallP) (p : Option Addr) (h : Heap) (K : Value → Heap → Prop) (Kp : List PanicEntry → Heap → Prop) :
    fnD Go.Proofs.Tryz.prog C hints_page_Page_Next Go.Proofs.Tryz.f63 [.pointer p] h K Kp = page_Page_Next C p h K Kp := by kernel_rfl

theorem call_page_Page_Next {p : Option Addr} {h : Heap} {K : Value → Heap → Prop} {Kp : List PanicEntry → Heap → Prop} (H : page_Page_Next (CallsHP Go.Proofs.Tryz.prog) p h K Kp) : CallsHP Go.Proofs.Tryz.prog F_page_Page_Next #[.pointer p] h K Kp :=
  callsHP_of hints_page_Page_Next (by kernel_rfl) Go.Proofs.Tryz.func63 (by kernel_rfl) (by rw [eq_page_Page_Next]; exact H)

noncomputable def hints_page_Page_End : Hints := Hints.mk (fun i => bif Nat.beq i 1 then some ([], .take 0 <| .take 1 <| .take 2 <| .take 3 <| .take 4 <| .take 5 <| .take 6 <| .take 7 <| .take 8 <| .take 9 <| .take 10 <| .take 11 <| .take 12 <| .take 13 <| .take 14 <| .take 16 <| .take 17 <| .take 18 <| .take 19 <| .take 15 <| .take 20 <| .take 21 <| .take 22 <| .take 23 <| .done) else (none))
  (fun i => none)
  (fun i => bif Nat.beq i 3 then some ([], 536870904) else (none)) []
set_option maxRecDepth 100000 in
theorem eq_page_Page_End (C : CallP) (p : Option Addr) (h : Heap) (K : Value → Heap → Prop) (Kp : List PanicEntry → Heap → Prop) :
    fnD Go.Proofs.Tryz.prog C hints_page_Page_End Go.Proofs.Tryz.f64 [.pointer p] h K Kp = page_Page_End C p h K Kp := by kernel_rfl

theorem call_page_Page_End {p : Option Addr} {h : Heap} {K : Value → Heap → Prop} {Kp : List PanicEntry → Heap → Prop} (H : page_Page_End (CallsHP Go.Proofs.Tryz.prog) p h K Kp) : CallsHP Go.Proofs.Tryz.prog F_page_Page_End #[.pointer p] h K Kp :=
  callsHP_of hints_page_Page_End (by kernel_rfl) Go.Proofs.Tryz.func64 (by kernel_rfl) (by rw [eq_page_Page_End]; exact H)

noncomputable def hints_page_read : Hints := Hints.mk (fun i => none)
  (fun i => none)
  (fun i => none) []
set_option maxRecDepth 100000 in
theorem eq_page_read (C : CallP) (D : CallDP) (f : Option Addr) (fn : Nat) (fc : Nat) (run : Value) (h : Heap) (K : Value → Heap → Prop) (Kp : List PanicEntry → Heap → Prop) :
    fnDD Go.Proofs.Tryz.prog C D hints_page_read Go.Proofs.Tryz.f65 [.slice f fn fc, run] h K Kp = page_read C D f fn fc run h K Kp := by kernel_rfl

theorem call_page_read {f : Option Addr} {fn : Nat} {fc : Nat} {run : Value} {h : Heap} {K : Value → Heap → Prop} {Kp : List PanicEntry → Heap → Prop} (H : page_read (CallsHP Go.Proofs.Tryz.prog) (DCalls Go.Proofs.Tryz.prog) f fn fc run h K Kp) : CallsHP Go.Proofs.Tryz.prog F_page_read #[.slice f fn fc, run] h K Kp :=
  callsHP_ofD hints_page_read (by kernel_rfl) Go.Proofs.Tryz.func65 (by kernel_rfl) (by rw [eq_page_read]; exact H)

noncomputable def hints_page_DecodeSheet_c1 : Hints := Hints.mk (fun i => none)
  (fun i => none)
  (fun i => none) []
set_option maxRecDepth 100000 in
theorem eq_page_DecodeSheet_c1 (C : CallP) (r_1 : Option Addr) (cap0 : Addr) (h : Heap) (K : Value → Heap → Prop) (Kp : List PanicEntry → Heap → Prop) :
    fnD Go.Proofs.Tryz.prog C hints_page_DecodeSheet_c1 Go.Proofs.Tryz.f66 [.agg #[.pointer r_1], .pointer (some cap0)] h K Kp = page_DecodeSheet_c1 C r_1 cap0 h K Kp := by kernel_rfl

theorem call_page_DecodeSheet_c1 {r_1 : Option Addr} {cap0 : Addr} {h : Heap} {K : Value → Heap → Prop} {Kp : List PanicEntry → Heap → Prop} (H : page_DecodeSheet_c1 (CallsHP Go.Proofs.Tryz.prog) r_1 cap0 h K Kp) : CallsHP Go.Proofs.Tryz.prog F_page_DecodeSheet_c1 #[.agg #[.pointer r_1], .pointer (some cap0)] h K Kp :=
  callsHP_of hints_page_DecodeSheet_c1 (by kernel_rfl) Go.Proofs.Tryz.func66 (by kernel_rfl) (by rw [eq_page_DecodeSheet_c1]; exact H)

noncomputable def hints_page_reader_size : Hints := Hints.mk (fun i => none)
  (fun i => none)
  (fun i => none) []
set_option maxRecDepth 100000 in
theorem eq_page_reader_size (C : CallP) (r_1 : Option Addr) (h : Heap) (K : Value → Heap → Prop) (Kp : List PanicEntry → Heap → Prop) :
    fnD Go.Proofs.Tryz.prog C hints_page_reader_size Go.Proofs.Tryz.f67 [.agg #[.pointer r_1]] h K Kp = page_reader_size C r_1 h K Kp := by kernel_rfl

theorem call_page_reader_size {r_1 : Option Addr} {h : Heap} {K : Value → Heap → Prop} {Kp : List PanicEntry → Heap → Prop} (H : page_reader_size (CallsHP Go.Proofs.Tryz.prog) r_1 h K Kp) : CallsHP Go.Proofs.Tryz.prog F_page_reader_size #[.agg #[.pointer r_1]] h K Kp :=
  callsHP_of hints_page_reader_size (by kernel_rfl) Go.Proofs.Tryz.func67 (by kernel_rfl) (by rw [eq_page_reader_size]; exact H)

noncomputable def hints_page_reader_byte : Hints := Hints.mk (fun i => none)
  (fun i => none)
  (fun i => none) []
set_option maxRecDepth 100000 in
theorem eq_page_reader_byte (C : CallP) (r_1 : Option Addr) (h : Heap) (K : Value → Heap → Prop) (Kp : List PanicEntry → Heap → Prop) :
    fnD Go.Proofs.Tryz.prog C hints_page_reader_byte Go.Proofs.Tryz.f68 [.agg #[.pointer r_1]] h K Kp = page_reader_byte C r_1 h K Kp := by kernel_rfl

theorem call_page_reader_byte {r_1 : Option Addr} {h : Heap} {K : Value → Heap → Prop} {Kp : List PanicEntry → Heap → Prop} (H : page_reader_byte (CallsHP Go.Proofs.Tryz.prog) r_1 h K Kp) : CallsHP Go.Proofs.Tryz.prog F_page_reader_byte #[.agg #[.pointer r_1]] h K Kp :=
  callsHP_of hints_page_reader_byte (by kernel_rfl) Go.Proofs.Tryz.func68 (by kernel_rfl) (by rw [eq_page_reader_byte]; exact H)

noncomputable def hints_page_wrong : Hints := Hints.mk (fun i => none)
  (fun i => none)
  (fun i => none) []
set_option maxRecDepth 100000 in
theorem eq_page_wrong (C : CallP) (bad : Bool) (h : Heap) (K : Value → Heap → Prop) (Kp : List PanicEntry → Heap → Prop) :
    fnD Go.Proofs.Tryz.prog C hints_page_wrong Go.Proofs.Tryz.f69 [.bool bad] h K Kp = page_wrong C bad h K Kp := by kernel_rfl

theorem call_page_wrong {bad : Bool} {h : Heap} {K : Value → Heap → Prop} {Kp : List PanicEntry → Heap → Prop} (H : page_wrong (CallsHP Go.Proofs.Tryz.prog) bad h K Kp) : CallsHP Go.Proofs.Tryz.prog F_page_wrong #[.bool bad] h K Kp :=
  callsHP_of hints_page_wrong (by kernel_rfl) Go.Proofs.Tryz.func69 (by kernel_rfl) (by rw [eq_page_wrong]; exact H)

noncomputable def hints_page_reader_place : Hints := Hints.mk (fun i => none)
  (fun i => none)
  (fun i => none) []
set_option maxRecDepth 100000 in
theorem eq_page_reader_place (C : CallP) (r_1 : Option Addr) (h : Heap) (K : Value → Heap → Prop) (Kp : List PanicEntry → Heap → Prop) :
    fnD Go.Proofs.Tryz.prog C hints_page_reader_place Go.Proofs.Tryz.f70 [.agg #[.pointer r_1]] h K Kp = page_reader_place C r_1 h K Kp := by kernel_rfl

theorem call_page_reader_place {r_1 : Option Addr} {h : Heap} {K : Value → Heap → Prop} {Kp : List PanicEntry → Heap → Prop} (H : page_reader_place (CallsHP Go.Proofs.Tryz.prog) r_1 h K Kp) : CallsHP Go.Proofs.Tryz.prog F_page_reader_place #[.agg #[.pointer r_1]] h K Kp :=
  callsHP_of hints_page_reader_place (by kernel_rfl) Go.Proofs.Tryz.func70 (by kernel_rfl) (by rw [eq_page_reader_place]; exact H)

noncomputable def hints_page_DecodeRegion_c1 : Hints := Hints.mk (fun i => bif Nat.beq i 8 then some ([15, 20], .take 3 <| .take 9 <| .take 10 <| .take 11 <| .take 13 <| .take 0 <| .take 1 <| .take 2 <| .take 4 <| .take 12 <| .take 14 <| .go 5 <| .take 6 <| .take 7 <| .take 8 <| .bar 15 [20] <| .take 16 <| .take 17 <| .take 18 <| .take 19 <| .bar 20 [] <| .take 21 <| .done) else (none))
  (fun i => none)
  (fun i => bif Nat.beq i 6 then some ([], 1071644672) else (none)) []
set_option maxRecDepth 100000 in
theorem eq_page_DecodeRegion_c1 (C : CallP) (a0_1 : Option Addr) (cap0 : Addr) (cap1 : Addr) (h : Heap) (K : Value → Heap → Prop) (Kp : List PanicEntry → Heap → Prop) :
    fnD Go.Proofs.Tryz.prog C hints_page_DecodeRegion_c1 Go.Proofs.Tryz.f77 [.agg #[.pointer a0_1], .pointer (some cap0), .pointer (some cap1)] h K Kp = page_DecodeRegion_c1 C a0_1 cap0 cap1 h K Kp := by kernel_rfl

theorem call_page_DecodeRegion_c1 {a0_1 : Option Addr} {cap0 : Addr} {cap1 : Addr} {h : Heap} {K : Value → Heap → Prop} {Kp : List PanicEntry → Heap → Prop} (H : page_DecodeRegion_c1 (CallsHP Go.Proofs.Tryz.prog) a0_1 cap0 cap1 h K Kp) : CallsHP Go.Proofs.Tryz.prog F_page_DecodeRegion_c1 #[.agg #[.pointer a0_1], .pointer (some cap0), .pointer (some cap1)] h K Kp :=
  callsHP_of hints_page_DecodeRegion_c1 (by kernel_rfl) Go.Proofs.Tryz.func77 (by kernel_rfl) (by rw [eq_page_DecodeRegion_c1]; exact H)

noncomputable def hints_page_sized : Hints := Hints.mk (fun i => none)
  (fun i => none)
  (fun i => none) []
set_option maxRecDepth 100000 in
theorem eq_page_sized (C : CallP) (w : Int) (h' : Int) (h : Heap) (K : Value → Heap → Prop) (Kp : List PanicEntry → Heap → Prop) :
    fnD Go.Proofs.Tryz.prog C hints_page_sized Go.Proofs.Tryz.f120 [.int .i64 w, .int .i64 h'] h K Kp = page_sized C w h' h K Kp := by kernel_rfl

theorem call_page_sized {w : Int} {h' : Int} {h : Heap} {K : Value → Heap → Prop} {Kp : List PanicEntry → Heap → Prop} (H : page_sized (CallsHP Go.Proofs.Tryz.prog) w h' h K Kp) : CallsHP Go.Proofs.Tryz.prog F_page_sized #[.int .i64 w, .int .i64 h'] h K Kp :=
  callsHP_of hints_page_sized (by kernel_rfl) Go.Proofs.Tryz.func120 (by kernel_rfl) (by rw [eq_page_sized]; exact H)

noncomputable def hints_page_read_c1 : Hints := Hints.mk (fun i => none)
  (fun i => none)
  (fun i => none) []
set_option maxRecDepth 100000 in
theorem eq_page_read_c1 (C : CallP) (cap0 : Addr) (u : FrameMode) (h : Heap) (Kd : FrameMode → Heap → Prop) (Kdp : FrameMode → List PanicEntry → Heap → Prop) :
    dfnD Go.Proofs.Tryz.prog C hints_page_read_c1 Go.Proofs.Tryz.f131 [.pointer (some cap0)] u h Kd Kdp = page_read_c1 C cap0 u h Kd Kdp := by kernel_rfl

theorem dcall_page_read_c1 {cap0 : Addr} {u : FrameMode} {h : Heap} {Kd : FrameMode → Heap → Prop} {Kdp : FrameMode → List PanicEntry → Heap → Prop} (H : page_read_c1 (CallsHP Go.Proofs.Tryz.prog) cap0 u h Kd Kdp) : DCalls Go.Proofs.Tryz.prog F_page_read_c1 #[.pointer (some cap0)] u h Kd Kdp :=
  dcalls_of hints_page_read_c1 (by kernel_rfl) Go.Proofs.Tryz.func131 (by kernel_rfl) (by rw [eq_page_read_c1]; exact H)

noncomputable def hints_page_reader_number : Hints := Hints.mk (fun i => none)
  (fun i => none)
  (fun i => none) []
set_option maxRecDepth 100000 in
theorem eq_page_reader_number (C : CallP) (r_1 : Option Addr) (h : Heap) (K : Value → Heap → Prop) (Kp : List PanicEntry → Heap → Prop) :
    fnD Go.Proofs.Tryz.prog C hints_page_reader_number Go.Proofs.Tryz.f132 [.agg #[.pointer r_1]] h K Kp = page_reader_number C r_1 h K Kp := by kernel_rfl

theorem call_page_reader_number {r_1 : Option Addr} {h : Heap} {K : Value → Heap → Prop} {Kp : List PanicEntry → Heap → Prop} (H : page_reader_number (CallsHP Go.Proofs.Tryz.prog) r_1 h K Kp) : CallsHP Go.Proofs.Tryz.prog F_page_reader_number #[.agg #[.pointer r_1]] h K Kp :=
  callsHP_of hints_page_reader_number (by kernel_rfl) Go.Proofs.Tryz.func132 (by kernel_rfl) (by rw [eq_page_reader_number]; exact H)

end Go.Den.YtfaclehehhgpcaaGreat

/- Written by gen.py: the conditions of the functions of burinref15. -/
set_option linter.unusedVariables false
set_option linter.unusedSimpArgs false
namespace Go.Den.YtfaclehehhgpcaaGreat
open Go Go.Den

/- burin/burinref15.EncodeSheet -/
/- burin/burinref15.EncodeRegion -/
/- burin/burinref15.DecodeSheet -/
/- burin/burinref15.DecodeRegion -/
/- burin/burinref15.MaySheet -/
/- burin/burinref15.MayRegion -/
/- (*burin/burinref15.reader).size -/
/- (*burin/burinref15.reader).byte -/
/- (*burin/burinref15.reader).below -/
/- (*burin/burinref15.reader).fault -/
/- burin/burinref15.mayOp -/
/- (*burin/burinref15.reader).num -/
end Go.Den.YtfaclehehhgpcaaGreat

/- Written by gen.py: each condition of the functions of burinref15 is the one of its body; so it is enough for its call. -/
set_option linter.unusedVariables false
set_option linter.unusedSimpArgs false
namespace Go.Den.YtfaclehehhgpcaaGreat
open Go Go.Den

end Go.Den.YtfaclehehhgpcaaGreat

/- PgA: pages, the program's and the document's; bitmaps that are lent. -/
set_option linter.unusedVariables false
set_option linter.unusedSimpArgs false
namespace Go.Bm
open Go Go.Den Go.Den.YtfaclehehhgpcaaGreat

theorem newC_hpx {h0 h : Heap} {F : List Nat} {L : List Ent} (H : Hp h0 F h L) {t : TypeId} {cs : List Value} {K : Nat → Heap → Prop} (hk : ∀ r h', hext h h' → Hp h0 F h' (L ++ [⟨r, true, t, cs⟩]) → K r h') : newC h cs t K := hk _ _ (hext.push h _) (H.new t cs)
theorem rdO_ext {h h' : Heap} (e : hext h h') {a : Option Addr} {n : Nat} {vs : List Value} (hr : rdO h a n vs) : rdO h' a n vs :=
  Fr.rdO (F := []) ⟨e.1, fun b hb _ => e.2 b hb⟩ (fun _ _ => by simp) hr

theorem setAll_app : ∀ (B0 : List Ent) (ix : List Nat) (L D : List Ent), B0.length = ix.length → setAll L ix (B0 ++ D) = setL L ix B0 ++ D
  | [], [], L, D, _ => by rw [List.nil_append, setAll_nil]; unfold setL; rfl
  | b :: B0, i :: ix, L, D, h => by
    show setAll L (i :: ix) (b :: (B0 ++ D)) = setL L (i :: ix) (b :: B0) ++ D
    unfold setAll setL
    exact setAll_app B0 ix _ D (by simpa using h)
  | [], _ :: _, _, _, h => by cases h
  | _ :: _, [], _, _, h => by cases h
theorem Hp.backD {h0 h h' : Heap} {F : List Nat} {L A B0 D : List Ent} (H : Hp h0 F h L) (ix : List Nat) (hnd : ix.Nodup) (hA : ix.map (fun k => L[k]?) = A.map some) (hw : A.all Ent.w = true) (H' : Hp h (A.map Ent.b) h' (B0 ++ D)) (hB : B0.all Ent.w = true) (hD : D.all Ent.w = true) (hl : B0.length = ix.length) :
    Hp h0 F h' (setL L ix B0 ++ D) := (H.back ix hnd hA hw H' (by rw [List.all_append, hB, hD]; rfl) (by rw [List.length_append]; omega)).as (setAll_app B0 ix L D hl)
theorem Slot.rdO' {h0 h : Heap} {F : List Nat} {L D : List Ent} {t : TypeId} {sz n c : Nat} {q : Option Addr} {xs : List Value} (hd : Slot t sz D q n c xs) (H : Hp h0 F h L) (hs : ∀ e ∈ D, e ∈ L) : rdO h q (n * sz) xs := by
  obtain ⟨hl, ⟨rfl, rfl, rfl, rfl⟩ | ⟨b, rest, rfl, rfl, hc⟩⟩ := hd
  · rw [Nat.zero_mul] at hl ⊢
    rw [List.length_eq_zero_iff.1 hl]
    exact rfl
  · exact H.rdO_mem (hs _ (List.mem_singleton.2 rfl)) hl

/-! ### bitmaps that are lent -/
/-! ### sheets -/
def SheetP (w g d s : Int) : Prop := SizeP w g ∧ (d = 0 ∨ d = 1) ∧ 0 ≤ s ∧ s ≤ 1048576
theorem psized_ok {h : Heap} {w h' : Int} {K : Value → Heap → Prop} {Kp : List PanicEntry → Heap → Prop} (hk : ∀ b : Bool, (b = true ↔ SizeP w h') → K (.bool b) h) : CP F_page_sized #[.int .i64 w, .int .i64 h'] h K Kp := by
  refine call_page_sized ?_
  unfold page_sized
  refine bcase_dec (fun h1 => ?_) fun h1 => hk false (by simp [SizeP]; omega)
  refine bcase_dec (fun h2 => ?_) fun h2 => hk false (by simp [SizeP]; omega)
  refine bcase_dec (fun h3 => ?_) fun h3 => hk false (by simp [SizeP]; omega)
  refine bcase_dec (fun h4 => ?_) fun h4 => hk false (by simp [SizeP]; omega)
  obtain ⟨g1, g2⟩ := prod_le h1 h2 h3 h4
  refine bindI_of ((w * h')) (by exact i64_in _ (by omega) (by omega)) ?_
  exact hk _ (by simp [SizeP]; omega)
theorem within_ok {h : Heap} {n : Int} {K : Value → Heap → Prop} {Kp : List PanicEntry → Heap → Prop} (hk : ∀ b : Bool, (b = true ↔ 0 ≤ n ∧ n ≤ 1048576) → K (.bool b) h) : CP F_page_within #[.int .i64 n] h K Kp := by
  refine call_page_within ?_
  unfold page_within
  refine bcase_dec (fun h1 => ?_) fun h1 => hk false (by simp; omega)
  exact hk _ (by simp; omega)
theorem sheet_ok {hB : Heap} {w g d s : Int} {K : Value → Heap → Prop} {Kp : List PanicEntry → Heap → Prop} (hk : ∀ (b : Bool) h, (b = true ↔ SheetP w g d s) → hext hB h → K (.bool b) h) : CP F_page_sheet #[.agg #[.int .i64 w, .int .i64 g, .int .i64 d, .int .i64 s]] hB K Kp := by
  refine call_page_sheet ?_
  unfold page_sheet
  have H := Hp.nil hB []
  refine newC_hp H fun r h H => ?_
  try simp only [ptr_some_eq, add_mk, Nat.zero_add, Nat.add_zero]
  refine ldI_of (H.cell 0 rfl rfl) ?_
  refine ldI_of (H.cell 0 rfl rfl) ?_
  refine psized_ok fun b hb => ?_
  refine ⟨_, rfl, ?_⟩
  refine bcase_of (fun h1 => ?_) fun h1 => ?_
  · have hs := hb.1 h1
    refine ldI_of (H.cell 0 rfl rfl) ?_
    refine bcase_eq (fun h2 => ?_) fun h2 => ?_
    · refine ldI_of (H.cell 0 rfl rfl) ?_
      refine within_ok fun b2 hb2 => ?_
      exact ⟨_, rfl, hk _ _ (by rw [hb2]; exact ⟨fun h => ⟨hs, .inl h2, h⟩, fun h => h.2.2⟩) H.hext⟩
    · refine ldI_of (H.cell 0 rfl rfl) ?_
      refine bcase_eq (fun h3 => ?_) fun h3 => ?_
      · refine ldI_of (H.cell 0 rfl rfl) ?_
        refine within_ok fun b2 hb2 => ?_
        exact ⟨_, rfl, hk _ _ (by rw [hb2]; exact ⟨fun h => ⟨hs, .inr h3, h⟩, fun h => h.2.2⟩) H.hext⟩
      · exact hk false _ ⟨(fun h => Bool.noConfusion h), fun h => by rcases h.2.1 with h4 | h4; exact absurd h4 h2; exact absurd h4 h3⟩ H.hext
  · exact hk false _ ⟨(fun h => Bool.noConfusion h), fun h => by rw [hb.2 h.1] at h1; cases h1⟩ H.hext
/-! ### a page -/
structure Pg where
  W : Nat
  X : Nat
  d : Nat
  s : Nat
  ws : List Nat
  nx : Nat
  dn : Bool
structure PgOk (g : Pg) : Prop where
  size : SizeP (g.W : Int) (g.X : Int)
  len : g.ws.length = g.X * wds g.W
  w : W64 g.ws
  nx : g.nx ≤ g.X
  s : g.s ≤ 1048576
theorem PgOk.b {g : Pg} (h : PgOk g) : 1 ≤ g.W ∧ g.W ≤ 1048576 ∧ 1 ≤ g.X ∧ g.X ≤ 1048576 ∧ 1 ≤ g.ws.length ∧ g.ws.length ≤ 1048576 := by
  obtain ⟨W', X', e1, e2, hW1, hW2, hX1, hX2, hWX⟩ := size_nat h.size
  have e1 : g.W = W' := by omega
  have e2 : g.X = X' := by omega
  rw [h.len, e1, e2]
  have := hw_le hW1 hWX
  have h1 : 1 ≤ X' * wds W' := Nat.mul_pos hX1 (wds_pos hW1)
  omega
def pgE (p m : Nat) (g : Pg) : Ent := ⟨p, true, T_page_Page, [.int .i64 (g.W : Nat), .int .i64 (g.X : Nat), .int .i64 (g.d : Nat), .int .i64 (g.s : Nat), .pointer (at0 m), .int .i64 (g.nx : Nat), .bool g.dn]⟩
def pgL (p m q : Nat) (rest : List Value) (g : Pg) : List Ent := pgE p m g :: mapL m q g.W g.X g.ws rest
/-- All pixels of one colour. -/
def FullP (W X d : Nat) (R : List Nat) : Prop := R.length = X * wds W ∧ W64 R ∧ ∀ Y, Y < X → ∀ x', x' < 64 * wds W → pix R (wds W) x' Y = decide (d = 1 ∧ x' < W)
theorem pix_zero (n wd x y : Nat) : pix (List.replicate n 0) wd x y = false := by
  unfold pix
  rw [List.getD_eq_getElem?_getD]
  cases h : (List.replicate n 0)[y * wd + x / 64]? with
  | none => exact Nat.zero_testBit _
  | some v => rw [(List.mem_replicate.1 (List.mem_of_getElem? h)).2]; exact Nat.zero_testBit _

set_option maxRecDepth 100000 in
theorem pnew_ok {hB : Heap} {w g d s : Int} {K : Value → Heap → Prop} {Kp : List PanicEntry → Heap → Prop}
    (hg : ∀ (G : Pg) p m q rest h, w = (G.W : Nat) → g = (G.X : Nat) → d = (G.d : Nat) → s = (G.s : Nat) → SheetP w g d s → G.nx = 0 → G.dn = false → FullP G.W G.X G.d G.ws → Hp hB [] h (pgL p m q rest G) → K (.tuple #[.pointer (at0 p), .int .i64 0]) h)
    (hbad : ∀ h, ¬ SheetP w g d s → hext hB h → K (.tuple #[.pointer none, .int .i64 150]) h) : CP F_page_New #[.agg #[.int .i64 w, .int .i64 g, .int .i64 d, .int .i64 s]] hB K Kp := by
  refine call_page_New ?_
  unfold page_New
  have H := Hp.nil hB []
  refine newC_hp H fun r h H => ?_
  try simp only [ptr_some_eq, add_mk, Nat.zero_add, Nat.add_zero]
  refine ldI_of (H.cell 0 rfl rfl) ?_
  refine ldI_of (H.cell 0 rfl rfl) ?_
  refine ldI_of (H.cell 0 rfl rfl) ?_
  refine ldI_of (H.cell 0 rfl rfl) ?_
  refine sheet_ok fun b h1 hb e => ?_
  have H := H.ext e
  refine ⟨_, rfl, ?_⟩
  refine bcase_not (fun h1 => ?_) fun h1 => ?_
  · exact hbad _ (fun hs => by rw [hb.2 hs] at h1; cases h1) H.hext
  have hs := hb.1 h1
  refine ldI_of (H.cell 0 rfl rfl) ?_
  refine ldI_of (H.cell 0 rfl rfl) ?_
  refine newM_ok (fun W X p q h hw hx hsz H' => ?_) fun hn => absurd hs.1 hn
  subst hw hx
  replace H := H.join H' rfl
  clear H'
  refine ⟨_, _, rfl, ?_⟩
  refine bcase_false (by rfl) ?_
  refine ldI_of (H.cell 0 rfl rfl) ?_
  refine ldI_of (H.cell 0 rfl rfl) ?_
  refine ldI_of (H.cell 0 rfl rfl) ?_
  obtain ⟨W', X', e1, e2, hW1, hW2, hX1, hX2, hWX⟩ := size_nat hs.1
  obtain rfl : W = W' := by omega
  obtain rfl : X = X' := by omega
  refine fill_ok (H.give [1, 2] (by decide) rfl) hs.1 (by simp) (W64.zero _) ⟨by omega, by omega⟩ ⟨by omega, by omega⟩ ⟨by omega, by omega⟩ ⟨by omega, by omega⟩ (by omega) (by omega) hs.2.1 fun R h' hl hw hp H' => ?_
  replace H := H.put [1, 2] (by decide) rfl rfl H' rfl rfl
  clear H'
  refine ⟨_, rfl, ?_⟩
  refine ldI_of (H.cell 0 rfl rfl) ?_
  refine ldI_of (H.cell 0 rfl rfl) ?_
  refine ldI_of (H.cell 0 rfl rfl) ?_
  refine ldI_of (H.cell 0 rfl rfl) ?_
  refine newC_hp H fun pp h H => ?_
  obtain ⟨dd, rfl⟩ : ∃ dd : Nat, d = (dd : Nat) := ⟨d.toNat, by rcases hs.2.1 with h | h <;> omega⟩
  obtain ⟨ss, rfl⟩ : ∃ ss : Nat, s = (ss : Nat) := ⟨s.toNat, by have := hs.2.2.1; omega⟩
  refine hg ⟨W, X, dd, ss, R, 0, false⟩ pp p q [] _ rfl rfl rfl rfl hs rfl rfl ⟨hl, hw, fun Y hY x' hx' => ?_⟩ (H.pick [3, 1, 2] (by decide) rfl)
  have hY : Y < X := hY
  have hx' : x' < 64 * wds W := hx'
  show pix R (wds W) x' Y = decide (dd = 1 ∧ x' < W)
  rw [hp Y hY x' hx', pix_zero]
  by_cases h2 : x' < W
  · rw [if_pos (by omega), decide_eq_decide]; omega
  · rw [if_neg (by omega), eq_comm, decide_eq_false_iff_not]; omega

end Go.Bm

/- Written by gen.py: the conditions of the functions of bits. -/
set_option linter.unusedVariables false
set_option linter.unusedSimpArgs false
namespace Go.Den.YtfaclehehhgpcaaGreat
open Go Go.Den

/- (*burin/bits.Reader).Left -/
set_option maxRecDepth 100000 in
def bits_Reader_Left (C : CallP) (r : Option Addr) (h : Heap) (K : Value → Heap → Prop) (Kp : List PanicEntry → Heap → Prop) : Prop :=
ptr r fun a_1 =>
ptr r fun a_2 =>
ldS h (a_1.add 0) fun x_3 x_3n x_3c =>
bindI (IntKind.i64.wrap ((8 : Int) * (x_3n : Int))) fun z_4 =>
ldI h (a_2.add 1) .i64 fun x_5 =>
bindI (IntKind.i64.wrap (z_4 - x_5)) fun z_6 =>
K (.int .i64 z_6) h

/- burin/bits.NewWriter -/
set_option maxRecDepth 100000 in
def bits_NewWriter (C : CallP) (most : Int) (h : Heap) (K : Value → Heap → Prop) (Kp : List PanicEntry → Heap → Prop) : Prop :=
bcase (decide (most < (0 : Int))) (
K (.tuple #[.pointer none, .int .i64 10]) h) <|
bcase (decide (most > (67108864 : Int))) (
K (.tuple #[.pointer none, .int .i64 10]) h) <|
bindI (IntKind.i64.wrap ((8 : Int) * most)) fun z_1 =>
newC h [.slice none 0 0, .int .i64 0, .int .i64 z_1] T_bits_Writer fun r_2 h_3 =>
K (.tuple #[.pointer (some ⟨r_2, 0, none⟩), .int .i64 0]) h_3

/- (*burin/bits.Writer).Put -/
set_option maxRecDepth 100000 in
def bits_Writer_Put (C : CallP) (w : Option Addr) (n : Int) (width : Int) (h : Heap) (K : Value → Heap → Prop) (Kp : List PanicEntry → Heap → Prop) : Prop :=
bcase (decide (width < (0 : Int))) (
K (.int .i64 11) h) <|
bcase (decide (width > (64 : Int))) (
K (.int .i64 11) h) <|
∃ K_1 : List Value → Heap → Prop, (
bcase (decide (width < (64 : Int))) (
needs (0 ≤ width) <|
bindI (shrI .u64 n width) fun z_4 =>
K_1 [.bool (z_4 != (0 : Int))] h) <|
K_1 [.bool false] h) ∧ ∀ (h_2 : Heap) (u_3 : Nat → Value) (x_5 : Bool), K_1 [.bool x_5] h_2 → (
bcase x_5 (
K (.int .i64 12) h_2) <|
ptr w fun a_6 =>
ptr w fun a_7 =>
ldI h_2 (a_6.add 1) .i64 fun x_8 =>
bindI (IntKind.i64.wrap (x_8 + width)) fun z_9 =>
ldI h_2 (a_7.add 2) .i64 fun x_10 =>
bcase (decide (z_9 > x_10)) (
K (.int .i64 13) h_2) <|
ptr w fun a_11 =>
ptr w fun a_12 =>
ldS h_2 (a_11.add 0) fun x_13 x_13n x_13c =>
ldI h_2 (a_12.add 1) .i64 fun x_14 =>
C F_bits_lay_uint64 #[.slice x_13 x_13n x_13c, .int .i64 x_14, .int .u64 n, .int .i64 width] h_2 (fun v_15 h_16 =>
∃ (r_17 : Option Addr) (r_17n : Nat) (r_17c : Nat), v_15 = .slice r_17 r_17n r_17c ∧ (
ptr w fun a_18 =>
stV h_16 (a_18.add 0) (.slice r_17 r_17n r_17c) fun h_19 =>
ptr w fun a_20 =>
ldI h_19 (a_20.add 1) .i64 fun x_21 =>
bindI (IntKind.i64.wrap (x_21 + width)) fun z_22 =>
ptr w fun a_23 =>
stV h_19 (a_23.add 1) (.int .i64 z_22) fun h_24 =>
K (.int .i64 0) h_24)) (Kp))

/- (*burin/bits.Writer).Var -/
set_option maxRecDepth 100000 in
def bits_Writer_Var (C : CallP) (a0 : Option Addr) (a1 : Int) (h : Heap) (K : Value → Heap → Prop) (Kp : List PanicEntry → Heap → Prop) : Prop :=
bindI (shrI .u64 a1 (7 : Int)) fun z_1 =>
∃ J_2 : Nat → List Value → Heap → Prop, (∃ n_4, J_2 n_4 [.int .i64 1, .int .u64 z_1] h) ∧ ∀ (n_4 : Nat) (h_5 : Heap) (u_6 : Nat → Value) (x_7 : Int) (x_8 : Int), J_2 n_4 [.int .i64 x_7, .int .u64 x_8] h_5 → (
bcase (decide (x_8 > (0 : Int))) (
bindI (IntKind.i64.wrap (x_7 + (1 : Int))) fun z_9 =>
bindI (shrI .u64 x_8 (7 : Int)) fun z_10 =>
∃ m_3, m_3 < n_4 ∧ J_2 m_3 [.int .i64 z_9, .int .u64 z_10] h_5) <|
ptr a0 fun a_11 =>
bindI (IntKind.i64.wrap ((8 : Int) * x_7)) fun z_12 =>
ptr a0 fun a_13 =>
ldI h_5 (a_11.add 1) .i64 fun x_14 =>
bindI (IntKind.i64.wrap (x_14 + z_12)) fun z_15 =>
ldI h_5 (a_13.add 2) .i64 fun x_16 =>
bcase (decide (z_15 > x_16)) (
K (.int .i64 13) h_5) <|
∃ J_17 : Nat → List Value → Heap → Prop, (∃ n_19, J_17 n_19 [.int .i64 0] h_5) ∧ ∀ (n_19 : Nat) (h_20 : Heap) (u_21 : Nat → Value) (x_22 : Int), J_17 n_19 [.int .i64 x_22] h_20 → (
bcase (decide (x_22 < x_7)) (
bindI (IntKind.i64.wrap ((7 : Int) * x_22)) fun z_23 =>
needs (0 ≤ z_23) <|
bindI (shrI .u64 a1 z_23) fun z_24 =>
bindI (IntKind.u8.wrap z_24) fun z_25 =>
bindI (bitI .and .u8 z_25 (127 : Int)) fun z_26 =>
∃ K_27 : List Value → Heap → Prop, (
bindI (IntKind.i64.wrap (x_7 - (1 : Int))) fun z_30 =>
bcase (decide (x_22 < z_30)) (
bindI (bitI .or .u8 z_26 (128 : Int)) fun z_31 =>
K_27 [.int .u8 z_31] h_20) <|
K_27 [.int .u8 z_26] h_20) ∧ ∀ (h_28 : Heap) (u_29 : Nat → Value) (x_32 : Int), K_27 [.int .u8 x_32] h_28 → (
ptr a0 fun a_33 =>
ptr a0 fun a_34 =>
ldS h_28 (a_33.add 0) fun x_35 x_35n x_35c =>
ldI h_28 (a_34.add 1) .i64 fun x_36 =>
C F_bits_lay_uint8 #[.slice x_35 x_35n x_35c, .int .i64 x_36, .int .u8 x_32, .int .i64 8] h_28 (fun v_37 h_38 =>
∃ (r_39 : Option Addr) (r_39n : Nat) (r_39c : Nat), v_37 = .slice r_39 r_39n r_39c ∧ (
ptr a0 fun a_40 =>
stV h_38 (a_40.add 0) (.slice r_39 r_39n r_39c) fun h_41 =>
ptr a0 fun a_42 =>
ldI h_41 (a_42.add 1) .i64 fun x_43 =>
bindI (IntKind.i64.wrap (x_43 + (8 : Int))) fun z_44 =>
ptr a0 fun a_45 =>
stV h_41 (a_45.add 1) (.int .i64 z_44) fun h_46 =>
bindI (IntKind.i64.wrap (x_22 + (1 : Int))) fun z_47 =>
∃ m_18, m_18 < n_19 ∧ J_17 m_18 [.int .i64 z_47] h_46)) (Kp))) <|
K (.int .i64 0) h_20))

/- (*burin/bits.Writer).Bytes -/
set_option maxRecDepth 100000 in
def bits_Writer_Bytes (C : CallP) (w : Option Addr) (h : Heap) (K : Value → Heap → Prop) (Kp : List PanicEntry → Heap → Prop) : Prop :=
ptr w fun a_1 =>
ldS h (a_1.add 0) fun x_2 x_2n x_2c =>
appC h T_uint8 1 1 [.int .u8 0] none (0) (0) x_2 (x_2n) fun q_3 q_3n q_3c h_4 =>
K (.slice q_3 q_3n q_3c) h_4

/- burin/bits.NewReader -/
set_option maxRecDepth 100000 in
def bits_NewReader (C : CallP) (b : Option Addr) (bn : Nat) (bc : Nat) (h : Heap) (K : Value → Heap → Prop) (Kp : List PanicEntry → Heap → Prop) : Prop :=
appC h T_uint8 1 1 [.int .u8 0] none (0) (0) b (bn) fun q_1 q_1n q_1c h_2 =>
newC h_2 [.slice q_1 q_1n q_1c, .int .i64 0] T_bits_Reader fun r_3 h_4 =>
K (.pointer (some ⟨r_3, 0, none⟩)) h_4

/- (*burin/bits.Reader).Take -/
set_option maxRecDepth 100000 in
def bits_Reader_Take (C : CallP) (r : Option Addr) (width : Int) (h : Heap) (K : Value → Heap → Prop) (Kp : List PanicEntry → Heap → Prop) : Prop :=
bcase (decide (width < (0 : Int))) (
K (.tuple #[.int .u64 0, .int .i64 11]) h) <|
bcase (decide (width > (64 : Int))) (
K (.tuple #[.int .u64 0, .int .i64 11]) h) <|
C F_bits_Reader_Left #[.pointer r] h (fun v_1 h_2 =>
∃ (r_3 : Int), v_1 = .int .i64 r_3 ∧ (
bcase (decide (width > r_3)) (
K (.tuple #[.int .u64 0, .int .i64 14]) h_2) <|
ptr r fun a_4 =>
ldI h_2 (a_4.add 1) .i64 fun x_5 =>
bindI (IntKind.i64.wrap (x_5 + width)) fun z_6 =>
ptr r fun a_7 =>
stV h_2 (a_7.add 1) (.int .i64 z_6) fun h_8 =>
ptr r fun a_9 =>
ptr r fun a_10 =>
ldS h_8 (a_9.add 0) fun x_11 x_11n x_11c =>
ldI h_8 (a_10.add 1) .i64 fun x_12 =>
bindI (IntKind.i64.wrap (x_12 - width)) fun z_13 =>
C F_bits_told_uint64 #[.slice x_11 x_11n x_11c, .int .i64 z_13, .int .i64 width] h_8 (fun v_14 h_15 =>
∃ (r_16 : Int), v_14 = .int .u64 r_16 ∧ (
K (.tuple #[.int .u64 r_16, .int .i64 0]) h_15)) (Kp))) (Kp)

/- (*burin/bits.Reader).Var -/
set_option maxRecDepth 100000 in
def bits_Reader_Var (C : CallP) (D : CallDP) (r : Option Addr) (h : Heap) (K : Value → Heap → Prop) (Kp : List PanicEntry → Heap → Prop) : Prop :=
newC h [.pointer r] T_p_bits_Reader fun r_1 h_2 =>
newC h_2 [.int .u64 0] T_uint64 fun r_3 h_4 =>
newC h_4 [.int .i64 0] T_api_Errno fun r_5 h_6 =>
ldP h_6 (⟨r_1, 0, none⟩ : Addr) fun x_7 =>
ptr x_7 fun a_8 =>
ldI h_6 (a_8.add 1) .i64 fun x_9 =>
newC h_6 [.int .i64 0] T_int fun r_10 h_11 =>
stV h_11 (⟨r_10, 0, none⟩ : Addr) (.int .i64 x_9) fun h_12 =>
∃ J_13 : Nat → List Value → Heap → Prop, (∃ n_15, J_13 n_15 [.int .i64 0] h_12) ∧ ∀ (n_15 : Nat) (h_16 : Heap) (u_17 : Nat → Value) (shift_18 : Int), J_13 n_15 [.int .i64 shift_18] h_16 → (
ldP h_16 (⟨r_1, 0, none⟩ : Addr) fun x_19 =>
C F_bits_Reader_group #[.pointer x_19] h_16 (fun v_20 h_21 =>
∃ (r_22 : Int), ∃ (r_23 : Bool), v_20 = .tuple #[.int .u8 r_22, .bool r_23] ∧ (
∃ K_24 : List Value → Heap → Prop, (
bcase (!r_23) (
stV h_21 (⟨r_3, 0, none⟩ : Addr) (.int .u64 0) fun h_27 =>
stV h_27 (⟨r_5, 0, none⟩ : Addr) (.int .i64 14) fun h_28 =>
leaveD D (fun h_29 =>
ldI h_29 (⟨r_3, 0, none⟩ : Addr) .u64 fun r_30 =>
ldI h_29 (⟨r_5, 0, none⟩ : Addr) .i64 fun r_31 =>
K (.tuple #[.int .u64 r_30, .int .i64 r_31]) h_29) Kp [{ target := .fn (.func F_bits_Reader_Var_c1) #[.pointer (some ⟨r_5, 0, none⟩), .pointer (some ⟨r_10, 0, none⟩), .pointer (some ⟨r_3, 0, none⟩), .pointer (some ⟨r_1, 0, none⟩)], args := #[] }] .returning h_28) <|
bcase (shift_18 == (63 : Int)) (
bcase (decide (r_22 > (1 : Int))) (
bcase (decide (r_22 > (1 : Int))) (
stV h_21 (⟨r_3, 0, none⟩ : Addr) (.int .u64 0) fun h_32 =>
stV h_32 (⟨r_5, 0, none⟩ : Addr) (.int .i64 16) fun h_33 =>
leaveD D (fun h_34 =>
ldI h_34 (⟨r_3, 0, none⟩ : Addr) .u64 fun r_35 =>
ldI h_34 (⟨r_5, 0, none⟩ : Addr) .i64 fun r_36 =>
K (.tuple #[.int .u64 r_35, .int .i64 r_36]) h_34) Kp [{ target := .fn (.func F_bits_Reader_Var_c1) #[.pointer (some ⟨r_5, 0, none⟩), .pointer (some ⟨r_10, 0, none⟩), .pointer (some ⟨r_3, 0, none⟩), .pointer (some ⟨r_1, 0, none⟩)], args := #[] }] .returning h_33) <|
K_24 [] h_21) <|
bcase (decide (shift_18 > (0 : Int))) (
bcase (r_22 == (0 : Int)) (
stV h_21 (⟨r_3, 0, none⟩ : Addr) (.int .u64 0) fun h_37 =>
stV h_37 (⟨r_5, 0, none⟩ : Addr) (.int .i64 16) fun h_38 =>
leaveD D (fun h_39 =>
ldI h_39 (⟨r_3, 0, none⟩ : Addr) .u64 fun r_40 =>
ldI h_39 (⟨r_5, 0, none⟩ : Addr) .i64 fun r_41 =>
K (.tuple #[.int .u64 r_40, .int .i64 r_41]) h_39) Kp [{ target := .fn (.func F_bits_Reader_Var_c1) #[.pointer (some ⟨r_5, 0, none⟩), .pointer (some ⟨r_10, 0, none⟩), .pointer (some ⟨r_3, 0, none⟩), .pointer (some ⟨r_1, 0, none⟩)], args := #[] }] .returning h_38) <|
K_24 [] h_21) <|
K_24 [] h_21) <|
bcase (decide (shift_18 > (0 : Int))) (
bcase (r_22 == (0 : Int)) (
stV h_21 (⟨r_3, 0, none⟩ : Addr) (.int .u64 0) fun h_42 =>
stV h_42 (⟨r_5, 0, none⟩ : Addr) (.int .i64 16) fun h_43 =>
leaveD D (fun h_44 =>
ldI h_44 (⟨r_3, 0, none⟩ : Addr) .u64 fun r_45 =>
ldI h_44 (⟨r_5, 0, none⟩ : Addr) .i64 fun r_46 =>
K (.tuple #[.int .u64 r_45, .int .i64 r_46]) h_44) Kp [{ target := .fn (.func F_bits_Reader_Var_c1) #[.pointer (some ⟨r_5, 0, none⟩), .pointer (some ⟨r_10, 0, none⟩), .pointer (some ⟨r_3, 0, none⟩), .pointer (some ⟨r_1, 0, none⟩)], args := #[] }] .returning h_43) <|
K_24 [] h_21) <|
K_24 [] h_21) ∧ ∀ (h_25 : Heap) (u_26 : Nat → Value) , K_24 [] h_25 → (
bindI (bitI .and .u8 r_22 (127 : Int)) fun z_47 =>
bindI (IntKind.u64.wrap z_47) fun z_48 =>
needs (0 ≤ shift_18) <|
bindI (shlI .u64 z_48 shift_18) fun z_49 =>
ldI h_25 (⟨r_3, 0, none⟩ : Addr) .u64 fun x_50 =>
bindI (bitI .or .u64 x_50 z_49) fun z_51 =>
stV h_25 (⟨r_3, 0, none⟩ : Addr) (.int .u64 z_51) fun h_52 =>
bcase (decide (r_22 < (128 : Int))) (
ldI h_52 (⟨r_3, 0, none⟩ : Addr) .u64 fun x_53 =>
stV h_52 (⟨r_3, 0, none⟩ : Addr) (.int .u64 x_53) fun h_54 =>
stV h_54 (⟨r_5, 0, none⟩ : Addr) (.int .i64 0) fun h_55 =>
leaveD D (fun h_56 =>
ldI h_56 (⟨r_3, 0, none⟩ : Addr) .u64 fun r_57 =>
ldI h_56 (⟨r_5, 0, none⟩ : Addr) .i64 fun r_58 =>
K (.tuple #[.int .u64 r_57, .int .i64 r_58]) h_56) Kp [{ target := .fn (.func F_bits_Reader_Var_c1) #[.pointer (some ⟨r_5, 0, none⟩), .pointer (some ⟨r_10, 0, none⟩), .pointer (some ⟨r_3, 0, none⟩), .pointer (some ⟨r_1, 0, none⟩)], args := #[] }] .returning h_55) <|
bindI (IntKind.i64.wrap (shift_18 + (7 : Int))) fun z_59 =>
∃ m_14, m_14 < n_15 ∧ J_13 m_14 [.int .i64 z_59] h_52))) (fun c_63 h_64 => leaveD D (fun h_60 =>
ldI h_60 (⟨r_3, 0, none⟩ : Addr) .u64 fun r_61 =>
ldI h_60 (⟨r_5, 0, none⟩ : Addr) .i64 fun r_62 =>
K (.tuple #[.int .u64 r_61, .int .i64 r_62]) h_60) Kp [{ target := .fn (.func F_bits_Reader_Var_c1) #[.pointer (some ⟨r_5, 0, none⟩), .pointer (some ⟨r_10, 0, none⟩), .pointer (some ⟨r_3, 0, none⟩), .pointer (some ⟨r_1, 0, none⟩)], args := #[] }] (.panicking c_63) h_64))

/- burin/bits.lay[uint64] -/
set_option maxRecDepth 100000 in
def bits_lay_uint64 (C : CallP) (b : Option Addr) (bn : Nat) (bc : Nat) (atv : Int) (n : Int) (width : Int) (h : Heap) (K : Value → Heap → Prop) (Kp : List PanicEntry → Heap → Prop) : Prop :=
bindI (IntKind.i64.wrap (width - (1 : Int))) fun z_1 =>
∃ J_2 : Nat → List Value → Heap → Prop, (∃ n_4, J_2 n_4 [.slice b bn bc, .int .i64 atv, .int .i64 z_1] h) ∧ ∀ (n_4 : Nat) (h_5 : Heap) (u_6 : Nat → Value) (b_7 : Option Addr) (b_7n : Nat) (b_7c : Nat) (at_8 : Int) (i_9 : Int), J_2 n_4 [.slice b_7 b_7n b_7c, .int .i64 at_8, .int .i64 i_9] h_5 → (
bcase (decide (i_9 ≥ (0 : Int))) (
∃ K_10 : List Value → Heap → Prop, (
bindI (at_8.tmod (8 : Int)) fun z_13 =>
bcase (z_13 == (0 : Int)) (
newC h_5 [.int .u8 0] T_uint8 fun r_14 h_15 =>
appC h_15 T_uint8 1 1 [.int .u8 0] b_7 (b_7n) (b_7c) (some ⟨r_14, 0, none⟩) (1) fun q_16 q_16n q_16c h_17 =>
K_10 [.slice q_16 q_16n q_16c] h_17) <|
K_10 [.slice b_7 b_7n b_7c] h_5) ∧ ∀ (h_11 : Heap) (u_12 : Nat → Value) (b_18 : Option Addr) (b_18n : Nat) (b_18c : Nat), K_10 [.slice b_18 b_18n b_18c] h_11 → (
bindI (IntKind.i64.wrap (at_8.tdiv (8 : Int))) fun z_19 =>
needs (0 ≤ z_19 ∧ z_19 < (b_18n : Int)) <|
ptr b_18 fun a_20 =>
needs (0 ≤ i_9) <|
bindI (shrI .u64 n i_9) fun z_21 =>
bindI (bitI .and .u64 z_21 (1 : Int)) fun z_22 =>
bindI (IntKind.u8.wrap z_22) fun z_23 =>
bindI (at_8.tmod (8 : Int)) fun z_24 =>
bindI (IntKind.i64.wrap ((7 : Int) - z_24)) fun z_25 =>
needs (0 ≤ z_25) <|
bindI (shlI .u8 z_23 z_25) fun z_26 =>
ldI h_11 (a_20.add (z_19.toNat * 1)) .u8 fun x_27 =>
bindI (bitI .or .u8 x_27 z_26) fun z_28 =>
needs (0 ≤ z_19 ∧ z_19 < (b_18n : Int)) <|
ptr b_18 fun a_29 =>
stV h_11 (a_29.add (z_19.toNat * 1)) (.int .u8 z_28) fun h_30 =>
bindI (IntKind.i64.wrap (at_8 + (1 : Int))) fun z_31 =>
bindI (IntKind.i64.wrap (i_9 - (1 : Int))) fun z_32 =>
∃ m_3, m_3 < n_4 ∧ J_2 m_3 [.slice b_18 b_18n b_18c, .int .i64 z_31, .int .i64 z_32] h_30)) <|
K (.slice b_7 b_7n b_7c) h_5)

/- burin/bits.lay[uint8] -/
set_option maxRecDepth 100000 in
def bits_lay_uint8 (C : CallP) (b : Option Addr) (bn : Nat) (bc : Nat) (atv : Int) (n : Int) (width : Int) (h : Heap) (K : Value → Heap → Prop) (Kp : List PanicEntry → Heap → Prop) : Prop :=
bindI (IntKind.i64.wrap (width - (1 : Int))) fun z_1 =>
∃ J_2 : Nat → List Value → Heap → Prop, (∃ n_4, J_2 n_4 [.slice b bn bc, .int .i64 atv, .int .i64 z_1] h) ∧ ∀ (n_4 : Nat) (h_5 : Heap) (u_6 : Nat → Value) (b_7 : Option Addr) (b_7n : Nat) (b_7c : Nat) (at_8 : Int) (i_9 : Int), J_2 n_4 [.slice b_7 b_7n b_7c, .int .i64 at_8, .int .i64 i_9] h_5 → (
bcase (decide (i_9 ≥ (0 : Int))) (
∃ K_10 : List Value → Heap → Prop, (
bindI (at_8.tmod (8 : Int)) fun z_13 =>
bcase (z_13 == (0 : Int)) (
newC h_5 [.int .u8 0] T_uint8 fun r_14 h_15 =>
appC h_15 T_uint8 1 1 [.int .u8 0] b_7 (b_7n) (b_7c) (some ⟨r_14, 0, none⟩) (1) fun q_16 q_16n q_16c h_17 =>
K_10 [.slice q_16 q_16n q_16c] h_17) <|
K_10 [.slice b_7 b_7n b_7c] h_5) ∧ ∀ (h_11 : Heap) (u_12 : Nat → Value) (b_18 : Option Addr) (b_18n : Nat) (b_18c : Nat), K_10 [.slice b_18 b_18n b_18c] h_11 → (
bindI (IntKind.i64.wrap (at_8.tdiv (8 : Int))) fun z_19 =>
needs (0 ≤ z_19 ∧ z_19 < (b_18n : Int)) <|
ptr b_18 fun a_20 =>
needs (0 ≤ i_9) <|
bindI (shrI .u8 n i_9) fun z_21 =>
bindI (bitI .and .u8 z_21 (1 : Int)) fun z_22 =>
bindI (at_8.tmod (8 : Int)) fun z_23 =>
bindI (IntKind.i64.wrap ((7 : Int) - z_23)) fun z_24 =>
needs (0 ≤ z_24) <|
bindI (shlI .u8 z_22 z_24) fun z_25 =>
ldI h_11 (a_20.add (z_19.toNat * 1)) .u8 fun x_26 =>
bindI (bitI .or .u8 x_26 z_25) fun z_27 =>
needs (0 ≤ z_19 ∧ z_19 < (b_18n : Int)) <|
ptr b_18 fun a_28 =>
stV h_11 (a_28.add (z_19.toNat * 1)) (.int .u8 z_27) fun h_29 =>
bindI (IntKind.i64.wrap (at_8 + (1 : Int))) fun z_30 =>
bindI (IntKind.i64.wrap (i_9 - (1 : Int))) fun z_31 =>
∃ m_3, m_3 < n_4 ∧ J_2 m_3 [.slice b_18 b_18n b_18c, .int .i64 z_30, .int .i64 z_31] h_29)) <|
K (.slice b_7 b_7n b_7c) h_5)

/- burin/bits.told[uint64] -/
set_option maxRecDepth 100000 in
def bits_told_uint64 (C : CallP) (b : Option Addr) (bn : Nat) (bc : Nat) (atv : Int) (width : Int) (h : Heap) (K : Value → Heap → Prop) (Kp : List PanicEntry → Heap → Prop) : Prop :=
∃ J_1 : Nat → List Value → Heap → Prop, (∃ n_3, J_1 n_3 [.int .u64 0, .int .i64 0] h) ∧ ∀ (n_3 : Nat) (h_4 : Heap) (u_5 : Nat → Value) (n_6 : Int) (x_7 : Int), J_1 n_3 [.int .u64 n_6, .int .i64 x_7] h_4 → (
bcase (decide (x_7 < width)) (
bindI (shlI .u64 n_6 (1 : Int)) fun z_8 =>
bindI (IntKind.i64.wrap (atv + x_7)) fun z_9 =>
bindI (IntKind.i64.wrap (z_9.tdiv (8 : Int))) fun z_10 =>
needs (0 ≤ z_10 ∧ z_10 < (bn : Int)) <|
ptr b fun a_11 =>
ldI h_4 (a_11.add (z_10.toNat * 1)) .u8 fun x_12 =>
bindI (IntKind.i64.wrap (atv + x_7)) fun z_13 =>
bindI (z_13.tmod (8 : Int)) fun z_14 =>
bindI (IntKind.i64.wrap ((7 : Int) - z_14)) fun z_15 =>
needs (0 ≤ z_15) <|
bindI (shrI .u8 x_12 z_15) fun z_16 =>
bindI (bitI .and .u8 z_16 (1 : Int)) fun z_17 =>
bindI (IntKind.u64.wrap z_17) fun z_18 =>
bindI (bitI .or .u64 z_8 z_18) fun z_19 =>
bindI (IntKind.i64.wrap (x_7 + (1 : Int))) fun z_20 =>
∃ m_2, m_2 < n_3 ∧ J_1 m_2 [.int .u64 z_19, .int .i64 z_20] h_4) <|
K (.int .u64 n_6) h_4)

/- (*burin/bits.Reader).Var$1 -/
set_option maxRecDepth 100000 in
def bits_Reader_Var_c1 (C : CallP) (cap0 : Addr) (cap1 : Addr) (cap2 : Addr) (cap3 : Addr) (h : Heap) (K : Value → Heap → Prop) (Kp : List PanicEntry → Heap → Prop) : Prop :=
ldI h cap0 .i64 fun x_1 =>
bcase (x_1 != (0 : Int)) (
ldP h cap3 fun x_2 =>
ldI h cap1 .i64 fun x_3 =>
stV h cap2 (.int .u64 0) fun h_4 =>
ptr x_2 fun a_5 =>
stV h_4 (a_5.add 1) (.int .i64 x_3) fun h_6 =>
K (.tuple #[]) h_6) <|
K (.tuple #[]) h

/- (*burin/bits.Reader).group -/
set_option maxRecDepth 100000 in
def bits_Reader_group (C : CallP) (r : Option Addr) (h : Heap) (K : Value → Heap → Prop) (Kp : List PanicEntry → Heap → Prop) : Prop :=
C F_bits_Reader_Left #[.pointer r] h (fun v_1 h_2 =>
∃ (r_3 : Int), v_1 = .int .i64 r_3 ∧ (
bcase (decide (r_3 < (8 : Int))) (
K (.tuple #[.int .u8 0, .bool false]) h_2) <|
ptr r fun a_4 =>
ldI h_2 (a_4.add 1) .i64 fun x_5 =>
bindI (IntKind.i64.wrap (x_5 + (8 : Int))) fun z_6 =>
ptr r fun a_7 =>
stV h_2 (a_7.add 1) (.int .i64 z_6) fun h_8 =>
ptr r fun a_9 =>
ptr r fun a_10 =>
ldS h_8 (a_9.add 0) fun x_11 x_11n x_11c =>
ldI h_8 (a_10.add 1) .i64 fun x_12 =>
bindI (IntKind.i64.wrap (x_12 - (8 : Int))) fun z_13 =>
C F_bits_told_uint8 #[.slice x_11 x_11n x_11c, .int .i64 z_13, .int .i64 8] h_8 (fun v_14 h_15 =>
∃ (r_16 : Int), v_14 = .int .u8 r_16 ∧ (
K (.tuple #[.int .u8 r_16, .bool true]) h_15)) (Kp))) (Kp)

/- burin/bits.told[uint8] -/
set_option maxRecDepth 100000 in
def bits_told_uint8 (C : CallP) (b : Option Addr) (bn : Nat) (bc : Nat) (atv : Int) (width : Int) (h : Heap) (K : Value → Heap → Prop) (Kp : List PanicEntry → Heap → Prop) : Prop :=
∃ J_1 : Nat → List Value → Heap → Prop, (∃ n_3, J_1 n_3 [.int .u8 0, .int .i64 0] h) ∧ ∀ (n_3 : Nat) (h_4 : Heap) (u_5 : Nat → Value) (n_6 : Int) (x_7 : Int), J_1 n_3 [.int .u8 n_6, .int .i64 x_7] h_4 → (
bcase (decide (x_7 < width)) (
bindI (shlI .u8 n_6 (1 : Int)) fun z_8 =>
bindI (IntKind.i64.wrap (atv + x_7)) fun z_9 =>
bindI (IntKind.i64.wrap (z_9.tdiv (8 : Int))) fun z_10 =>
needs (0 ≤ z_10 ∧ z_10 < (bn : Int)) <|
ptr b fun a_11 =>
ldI h_4 (a_11.add (z_10.toNat * 1)) .u8 fun x_12 =>
bindI (IntKind.i64.wrap (atv + x_7)) fun z_13 =>
bindI (z_13.tmod (8 : Int)) fun z_14 =>
bindI (IntKind.i64.wrap ((7 : Int) - z_14)) fun z_15 =>
needs (0 ≤ z_15) <|
bindI (shrI .u8 x_12 z_15) fun z_16 =>
bindI (bitI .and .u8 z_16 (1 : Int)) fun z_17 =>
bindI (bitI .or .u8 z_8 z_17) fun z_18 =>
bindI (IntKind.i64.wrap (x_7 + (1 : Int))) fun z_19 =>
∃ m_2, m_2 < n_3 ∧ J_1 m_2 [.int .u8 z_18, .int .i64 z_19] h_4) <|
K (.int .u8 n_6) h_4)

end Go.Den.YtfaclehehhgpcaaGreat
