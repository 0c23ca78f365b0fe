/- Written by gen.py: the conditions of the functions of arith. -/
import Derived.Test.YtlmopdohgipbeaaNums
set_option linter.unusedVariables false
set_option linter.unusedSimpArgs false
namespace Go.Den.Ytlmopdohgipbeaa
open Go Go.Den

/- burin/arith.New -/
set_option maxRecDepth 100000 in
def arith_New (C : CallP) (contexts : Int) (h : Heap) (K : Value → Heap → Prop) (Kp : List PanicEntry → Heap → Prop) : Prop :=
C F_arith_made #[.int .i64 contexts] h (fun v_1 h_2 =>
∃ (cs_3 : List Value), cs_3.length = 190 ∧ ∃ (r_4 : Bool), v_1 = .tuple #[.agg (cs_3).toArray, .bool r_4] ∧ (
newC h_2 Z_arith_table T_arith_table fun r_5 h_6 =>
needs ((cs_3).length = 190) <| stVs h_6 (⟨r_5, 0, none⟩ : Addr) 0 (cs_3) fun h_7 =>
bcase (!r_4) (
K (.tuple #[.pointer none, .int .i64 40]) h_7) <|
ldAll h_7 (⟨r_5, 0, none⟩ : Addr) 190 fun cs_8 =>
newC h_7 [.int .u8 0] T_uint8 fun r_9 h_10 =>
needs ((cs_8).length = 190 ∧ 0 + 190 ≤ (Z_arith_Coder).length) <|
needs ((([.int .u32 32768] : List Value)).length = 1 ∧ 190 + 1 ≤ ((putL Z_arith_Coder 0 cs_8)).length) <|
needs ((([.int .i64 12] : List Value)).length = 1 ∧ 192 + 1 ≤ ((putL (putL Z_arith_Coder 0 cs_8) 190 ([.int .u32 32768] : List Value))).length) <|
needs ((([.slice (some ⟨r_9, 0, none⟩) 1 1] : List Value)).length = 1 ∧ 193 + 1 ≤ ((putL (putL (putL Z_arith_Coder 0 cs_8) 190 ([.int .u32 32768] : List Value)) 192 ([.int .i64 12] : List Value))).length) <|
newC h_10 ((putL (putL (putL (putL Z_arith_Coder 0 cs_8) 190 ([.int .u32 32768] : List Value)) 192 ([.int .i64 12] : List Value)) 193 ([.slice (some ⟨r_9, 0, none⟩) 1 1] : List Value))) T_arith_Coder fun r_11 h_12 =>
K (.tuple #[.pointer (some ⟨r_11, 0, none⟩), .int .i64 0]) h_12)) (Kp)

/- (*burin/arith.Coder).Put -/
set_option maxRecDepth 100000 in
def arith_Coder_Put (C : CallP) (a0 : Option Addr) (a1 : Int) (a2 : Int) (h : Heap) (K : Value → Heap → Prop) (Kp : List PanicEntry → Heap → Prop) : Prop :=
∃ K_1 : List Value → Heap → Prop, (
ptr a0 fun a_4 =>
ldB h (a_4.add 194) fun x_5 =>
bcase x_5 (
K (.int .i64 43) h) <|
bcase (a2 != (0 : Int)) (
bcase (a2 != (1 : Int)) (
K (.int .i64 42) h) <|
ptr a0 fun a_6 =>
ldI h ((a_6.add 0).add 189) .i64 fun x_7 =>
bcase (decide (x_7 ≥ (16777216 : Int))) (
K (.int .i64 41) h) <|
K_1 [] h) <|
ptr a0 fun a_8 =>
ldI h ((a_8.add 0).add 189) .i64 fun x_9 =>
bcase (decide (x_9 ≥ (16777216 : Int))) (
K (.int .i64 41) h) <|
K_1 [] h) ∧ ∀ (h_2 : Heap) (u_3 : Nat → Value) , K_1 [] h_2 → (
ptr a0 fun a_10 =>
ldI h_2 ((a_10.add 0).add 189) .i64 fun x_11 =>
bindI (IntKind.i64.wrap (x_11 + (1 : Int))) fun z_12 =>
ptr a0 fun a_13 =>
stV h_2 ((a_13.add 0).add 189) (.int .i64 z_12) fun h_14 =>
ptr a0 fun a_15 =>
C F_arith_table_at #[.pointer (some (a_15.add 0)), .int .i64 a1] h_14 (fun v_16 h_17 =>
∃ (r_18 : Option Addr), ∃ (r_19 : Int) (r_20 : Int) (r_21 : Int) (r_22 : Int), v_16 = .tuple #[.pointer r_18, .agg #[.int .u32 r_19, .int .u8 r_20, .int .u8 r_21, .int .u8 r_22]] ∧ (
newC h_17 [.int .u32 0, .int .u8 0, .int .u8 0, .int .u8 0] T_arith_row fun r_23 h_24 =>
stV h_24 ((⟨r_23, 0, none⟩ : Addr).add 0) (.int .u32 r_19) fun h_25 =>
stV h_25 ((⟨r_23, 0, none⟩ : Addr).add 1) (.int .u8 r_20) fun h_26 =>
stV h_26 ((⟨r_23, 0, none⟩ : Addr).add 2) (.int .u8 r_21) fun h_27 =>
stV h_27 ((⟨r_23, 0, none⟩ : Addr).add 3) (.int .u8 r_22) fun h_28 =>
ptr a0 fun a_29 =>
ldI h_28 (a_29.add 190) .u32 fun x_30 =>
ldI h_28 ((⟨r_23, 0, none⟩ : Addr).add 0) .u32 fun x_31 =>
bindI (IntKind.u32.wrap (x_30 - x_31)) fun z_32 =>
ptr a0 fun a_33 =>
stV h_28 (a_33.add 190) (.int .u32 z_32) fun h_34 =>
ptr r_18 fun a_35 =>
ldI h_34 a_35 .u8 fun x_36 =>
bindI (bitI .and .u8 x_36 (1 : Int)) fun z_37 =>
bindI (IntKind.i64.wrap z_37) fun z_38 =>
bcase (a2 == z_38) (
ptr a0 fun a_39 =>
ldI h_34 (a_39.add 190) .u32 fun x_40 =>
bcase (decide (x_40 ≥ (32768 : Int))) (
ptr a0 fun a_41 =>
ldI h_34 (a_41.add 191) .u32 fun x_42 =>
ldI h_34 ((⟨r_23, 0, none⟩ : Addr).add 0) .u32 fun x_43 =>
bindI (IntKind.u32.wrap (x_42 + x_43)) fun z_44 =>
ptr a0 fun a_45 =>
stV h_34 (a_45.add 191) (.int .u32 z_44) fun h_46 =>
K (.int .i64 0) h_46) <|
ptr a0 fun a_47 =>
ldI h_34 (a_47.add 190) .u32 fun x_48 =>
ldI h_34 ((⟨r_23, 0, none⟩ : Addr).add 0) .u32 fun x_49 =>
bcase (decide (x_48 < x_49)) (
ldI h_34 ((⟨r_23, 0, none⟩ : Addr).add 0) .u32 fun x_50 =>
ptr a0 fun a_51 =>
stV h_34 (a_51.add 190) (.int .u32 x_50) fun h_52 =>
ldI h_52 ((⟨r_23, 0, none⟩ : Addr).add 0) .u32 fun x_53 =>
ldI h_52 ((⟨r_23, 0, none⟩ : Addr).add 1) .u8 fun x_54 =>
ldI h_52 ((⟨r_23, 0, none⟩ : Addr).add 2) .u8 fun x_55 =>
ldI h_52 ((⟨r_23, 0, none⟩ : Addr).add 3) .u8 fun x_56 =>
C F_arith_likely #[.pointer r_18, .agg #[.int .u32 x_53, .int .u8 x_54, .int .u8 x_55, .int .u8 x_56]] h_52 (fun v_57 h_58 =>
C F_arith_Coder_renew #[.pointer a0] h_58 (fun v_59 h_60 =>
K (.int .i64 0) h_60) (Kp)) (Kp)) <|
ptr a0 fun a_61 =>
ldI h_34 (a_61.add 191) .u32 fun x_62 =>
ldI h_34 ((⟨r_23, 0, none⟩ : Addr).add 0) .u32 fun x_63 =>
bindI (IntKind.u32.wrap (x_62 + x_63)) fun z_64 =>
ptr a0 fun a_65 =>
stV h_34 (a_65.add 191) (.int .u32 z_64) fun h_66 =>
ldI h_66 ((⟨r_23, 0, none⟩ : Addr).add 0) .u32 fun x_67 =>
ldI h_66 ((⟨r_23, 0, none⟩ : Addr).add 1) .u8 fun x_68 =>
ldI h_66 ((⟨r_23, 0, none⟩ : Addr).add 2) .u8 fun x_69 =>
ldI h_66 ((⟨r_23, 0, none⟩ : Addr).add 3) .u8 fun x_70 =>
C F_arith_likely #[.pointer r_18, .agg #[.int .u32 x_67, .int .u8 x_68, .int .u8 x_69, .int .u8 x_70]] h_66 (fun v_71 h_72 =>
C F_arith_Coder_renew #[.pointer a0] h_72 (fun v_73 h_74 =>
K (.int .i64 0) h_74) (Kp)) (Kp)) <|
ptr a0 fun a_75 =>
ldI h_34 (a_75.add 190) .u32 fun x_76 =>
ldI h_34 ((⟨r_23, 0, none⟩ : Addr).add 0) .u32 fun x_77 =>
bcase (decide (x_76 < x_77)) (
ptr a0 fun a_78 =>
ldI h_34 (a_78.add 191) .u32 fun x_79 =>
ldI h_34 ((⟨r_23, 0, none⟩ : Addr).add 0) .u32 fun x_80 =>
bindI (IntKind.u32.wrap (x_79 + x_80)) fun z_81 =>
ptr a0 fun a_82 =>
stV h_34 (a_82.add 191) (.int .u32 z_81) fun h_83 =>
ldI h_83 ((⟨r_23, 0, none⟩ : Addr).add 0) .u32 fun x_84 =>
ldI h_83 ((⟨r_23, 0, none⟩ : Addr).add 1) .u8 fun x_85 =>
ldI h_83 ((⟨r_23, 0, none⟩ : Addr).add 2) .u8 fun x_86 =>
ldI h_83 ((⟨r_23, 0, none⟩ : Addr).add 3) .u8 fun x_87 =>
C F_arith_unlikely #[.pointer r_18, .agg #[.int .u32 x_84, .int .u8 x_85, .int .u8 x_86, .int .u8 x_87]] h_83 (fun v_88 h_89 =>
C F_arith_Coder_renew #[.pointer a0] h_89 (fun v_90 h_91 =>
K (.int .i64 0) h_91) (Kp)) (Kp)) <|
ldI h_34 ((⟨r_23, 0, none⟩ : Addr).add 0) .u32 fun x_92 =>
ptr a0 fun a_93 =>
stV h_34 (a_93.add 190) (.int .u32 x_92) fun h_94 =>
ldI h_94 ((⟨r_23, 0, none⟩ : Addr).add 0) .u32 fun x_95 =>
ldI h_94 ((⟨r_23, 0, none⟩ : Addr).add 1) .u8 fun x_96 =>
ldI h_94 ((⟨r_23, 0, none⟩ : Addr).add 2) .u8 fun x_97 =>
ldI h_94 ((⟨r_23, 0, none⟩ : Addr).add 3) .u8 fun x_98 =>
C F_arith_unlikely #[.pointer r_18, .agg #[.int .u32 x_95, .int .u8 x_96, .int .u8 x_97, .int .u8 x_98]] h_94 (fun v_99 h_100 =>
C F_arith_Coder_renew #[.pointer a0] h_100 (fun v_101 h_102 =>
K (.int .i64 0) h_102) (Kp)) (Kp))) (Kp))

/- (*burin/arith.Coder).Flush -/
set_option maxRecDepth 100000 in
def arith_Coder_Flush (C : CallP) (a0 : Option Addr) (h : Heap) (K : Value → Heap → Prop) (Kp : List PanicEntry → Heap → Prop) : Prop :=
ptr a0 fun a_1 =>
ldB h (a_1.add 194) fun x_2 =>
bcase x_2 (
K (.tuple #[.slice none 0 0, .int .i64 43]) h) <|
ptr a0 fun a_3 =>
stV h (a_3.add 194) (.bool true) fun h_4 =>
ptr a0 fun a_5 =>
ptr a0 fun a_6 =>
ldI h_4 (a_5.add 191) .u32 fun x_7 =>
ldI h_4 (a_6.add 190) .u32 fun x_8 =>
bindI (IntKind.u32.wrap (x_7 + x_8)) fun z_9 =>
∃ K_10 : List Value → Heap → Prop, (
ptr a0 fun a_13 =>
ldI h_4 (a_13.add 191) .u32 fun x_14 =>
bindI (bitI .or .u32 x_14 (65535 : Int)) fun z_15 =>
ptr a0 fun a_16 =>
stV h_4 (a_16.add 191) (.int .u32 z_15) fun h_17 =>
ptr a0 fun a_18 =>
ldI h_17 (a_18.add 191) .u32 fun x_19 =>
bcase (decide (x_19 ≥ z_9)) (
ptr a0 fun a_20 =>
ldI h_17 (a_20.add 191) .u32 fun x_21 =>
bindI (IntKind.u32.wrap (x_21 - (32768 : Int))) fun z_22 =>
ptr a0 fun a_23 =>
stV h_17 (a_23.add 191) (.int .u32 z_22) fun h_24 =>
K_10 [] h_24) <|
K_10 [] h_17) ∧ ∀ (h_11 : Heap) (u_12 : Nat → Value) , K_10 [] h_11 → (
∃ J_25 : Nat → List Value → Heap → Prop, (∃ n_27, J_25 n_27 [.int .i64 0] h_11) ∧ ∀ (n_27 : Nat) (h_28 : Heap) (u_29 : Nat → Value) (x_30 : Int), J_25 n_27 [.int .i64 x_30] h_28 → (
bcase (decide (x_30 < (2 : Int))) (
ptr a0 fun a_31 =>
ptr a0 fun a_32 =>
ldI h_28 (a_31.add 191) .u32 fun x_33 =>
ldI h_28 (a_32.add 192) .i64 fun x_34 =>
needs (0 ≤ x_34) <|
bindI (shlI .u32 x_33 x_34) fun z_35 =>
ptr a0 fun a_36 =>
stV h_28 (a_36.add 191) (.int .u32 z_35) fun h_37 =>
C F_arith_Coder_out #[.pointer a0] h_37 (fun v_38 h_39 =>
bindI (IntKind.i64.wrap (x_30 + (1 : Int))) fun z_40 =>
∃ m_26, m_26 < n_27 ∧ J_25 m_26 [.int .i64 z_40] h_39) (Kp)) <|
ptr a0 fun a_41 =>
ldS h_28 (a_41.add 193) fun x_42 x_42n x_42c =>
needs (0 ≤ (1 : Int) ∧ (1 : Int) ≤ ((x_42n : Nat) : Int)) <|
bindI (IntKind.i64.wrap ((((x_42n - (1 : Int).toNat) : Nat) : Int) - (1 : Int))) fun z_43 =>
needs (0 ≤ z_43 ∧ z_43 < (((x_42n - (1 : Int).toNat) : Nat) : Int)) <|
ptr (subA x_42 (x_42c) ((1 : Int).toNat) 1) fun a_44 =>
ldI h_28 (a_44.add (z_43.toNat * 1)) .u8 fun x_45 =>
bcase (x_45 == (255 : Int)) (
bindI (IntKind.i64.wrap ((((x_42n - (1 : Int).toNat) : Nat) : Int) - (1 : Int))) fun z_46 =>
needs (0 ≤ z_46 ∧ z_46 ≤ (((x_42c - (1 : Int).toNat) : Nat) : Int)) <|
appC h_28 T_uint8 1 1 [.int .u8 0] none (0) (0) (subA (subA x_42 (x_42c) ((1 : Int).toNat) 1) ((x_42c - (1 : Int).toNat)) (0) 1) ((z_46.toNat - 0)) fun q_47 q_47n q_47c h_48 =>
K (.tuple #[.slice q_47 q_47n q_47c, .int .i64 0]) h_48) <|
appC h_28 T_uint8 1 1 [.int .u8 0] none (0) (0) (subA x_42 (x_42c) ((1 : Int).toNat) 1) ((x_42n - (1 : Int).toNat)) fun q_49 q_49n q_49c h_50 =>
K (.tuple #[.slice q_49 q_49n q_49c, .int .i64 0]) h_50))

/- burin/arith.NewDecoder -/
set_option maxRecDepth 100000 in
def arith_NewDecoder (C : CallP) (b : Option Addr) (bn : Nat) (bc : Nat) (contexts : Int) (h : Heap) (K : Value → Heap → Prop) (Kp : List PanicEntry → Heap → Prop) : Prop :=
C F_arith_made #[.int .i64 contexts] h (fun v_1 h_2 =>
∃ (cs_3 : List Value), cs_3.length = 190 ∧ ∃ (r_4 : Bool), v_1 = .tuple #[.agg (cs_3).toArray, .bool r_4] ∧ (
newC h_2 Z_arith_table T_arith_table fun r_5 h_6 =>
needs ((cs_3).length = 190) <| stVs h_6 (⟨r_5, 0, none⟩ : Addr) 0 (cs_3) fun h_7 =>
bcase (!r_4) (
K (.tuple #[.pointer none, .int .i64 40]) h_7) <|
ldAll h_7 (⟨r_5, 0, none⟩ : Addr) 190 fun cs_8 =>
appC h_7 T_uint8 1 1 [.int .u8 0] none (0) (0) b (bn) fun q_9 q_9n q_9c h_10 =>
hext h_7 h_10 ∧ (
needs ((cs_8).length = 190 ∧ 0 + 190 ≤ (Z_arith_Decoder).length) <|
needs ((([.int .u32 32768] : List Value)).length = 1 ∧ 190 + 1 ≤ ((putL Z_arith_Decoder 0 cs_8)).length) <|
needs ((([.slice q_9 q_9n q_9c] : List Value)).length = 1 ∧ 193 + 1 ≤ ((putL (putL Z_arith_Decoder 0 cs_8) 190 ([.int .u32 32768] : List Value))).length) <|
newC h_10 ((putL (putL (putL Z_arith_Decoder 0 cs_8) 190 ([.int .u32 32768] : List Value)) 193 ([.slice q_9 q_9n q_9c] : List Value))) T_arith_Decoder fun r_11 h_12 =>
C F_arith_Decoder_byte #[.pointer (some ⟨r_11, 0, none⟩), .int .i64 0] h_12 (fun v_13 h_14 =>
∃ (r_15 : Int), v_13 = .int .u32 r_15 ∧ (
bindI (shlI .u32 r_15 (16 : Int)) fun z_16 =>
stV h_14 ((⟨r_11, 0, none⟩ : Addr).add 191) (.int .u32 z_16) fun h_17 =>
C F_arith_Decoder_in #[.pointer (some ⟨r_11, 0, none⟩)] h_17 (fun v_18 h_19 =>
ldI h_19 ((⟨r_11, 0, none⟩ : Addr).add 191) .u32 fun x_20 =>
bindI (shlI .u32 x_20 (7 : Int)) fun z_21 =>
stV h_19 ((⟨r_11, 0, none⟩ : Addr).add 191) (.int .u32 z_21) fun h_22 =>
ldI h_22 ((⟨r_11, 0, none⟩ : Addr).add 192) .i64 fun x_23 =>
bindI (IntKind.i64.wrap (x_23 - (7 : Int))) fun z_24 =>
stV h_22 ((⟨r_11, 0, none⟩ : Addr).add 192) (.int .i64 z_24) fun h_25 =>
K (.tuple #[.pointer (some ⟨r_11, 0, none⟩), .int .i64 0]) h_25) (Kp))) (Kp)))) (Kp)

/- (*burin/arith.Decoder).Get -/
set_option maxRecDepth 100000 in
def arith_Decoder_Get (C : CallP) (a0 : Option Addr) (a1 : Int) (h : Heap) (K : Value → Heap → Prop) (Kp : List PanicEntry → Heap → Prop) : Prop :=
ptr a0 fun a_1 =>
ldI h ((a_1.add 0).add 189) .i64 fun x_2 =>
bcase (decide (x_2 ≥ (16777216 : Int))) (
K (.tuple #[.int .i64 0, .int .i64 41]) h) <|
ptr a0 fun a_3 =>
ldI h ((a_3.add 0).add 189) .i64 fun x_4 =>
bindI (IntKind.i64.wrap (x_4 + (1 : Int))) fun z_5 =>
ptr a0 fun a_6 =>
stV h ((a_6.add 0).add 189) (.int .i64 z_5) fun h_7 =>
ptr a0 fun a_8 =>
C F_arith_table_at #[.pointer (some (a_8.add 0)), .int .i64 a1] h_7 (fun v_9 h_10 =>
∃ (r_11 : Option Addr), ∃ (r_12 : Int) (r_13 : Int) (r_14 : Int) (r_15 : Int), v_9 = .tuple #[.pointer r_11, .agg #[.int .u32 r_12, .int .u8 r_13, .int .u8 r_14, .int .u8 r_15]] ∧ (
newC h_10 [.int .u32 0, .int .u8 0, .int .u8 0, .int .u8 0] T_arith_row fun r_16 h_17 =>
stV h_17 ((⟨r_16, 0, none⟩ : Addr).add 0) (.int .u32 r_12) fun h_18 =>
stV h_18 ((⟨r_16, 0, none⟩ : Addr).add 1) (.int .u8 r_13) fun h_19 =>
stV h_19 ((⟨r_16, 0, none⟩ : Addr).add 2) (.int .u8 r_14) fun h_20 =>
stV h_20 ((⟨r_16, 0, none⟩ : Addr).add 3) (.int .u8 r_15) fun h_21 =>
ptr r_11 fun a_22 =>
ldI h_21 a_22 .u8 fun x_23 =>
bindI (bitI .and .u8 x_23 (1 : Int)) fun z_24 =>
bindI (IntKind.i64.wrap z_24) fun z_25 =>
ptr a0 fun a_26 =>
ldI h_21 (a_26.add 190) .u32 fun x_27 =>
ldI h_21 ((⟨r_16, 0, none⟩ : Addr).add 0) .u32 fun x_28 =>
bindI (IntKind.u32.wrap (x_27 - x_28)) fun z_29 =>
ptr a0 fun a_30 =>
stV h_21 (a_30.add 190) (.int .u32 z_29) fun h_31 =>
ptr a0 fun a_32 =>
ldI h_31 (a_32.add 191) .u32 fun x_33 =>
bindI (shrI .u32 x_33 (16 : Int)) fun z_34 =>
ldI h_31 ((⟨r_16, 0, none⟩ : Addr).add 0) .u32 fun x_35 =>
∃ K_36 : List Value → Heap → Prop, (
bcase (!(decide (z_34 < x_35))) (
ptr a0 fun a_39 =>
ldI h_31 (a_39.add 191) .u32 fun x_40 =>
ldI h_31 ((⟨r_16, 0, none⟩ : Addr).add 0) .u32 fun x_41 =>
bindI (shlI .u32 x_41 (16 : Int)) fun z_42 =>
bindI (IntKind.u32.wrap (x_40 - z_42)) fun z_43 =>
ptr a0 fun a_44 =>
stV h_31 (a_44.add 191) (.int .u32 z_43) fun h_45 =>
ptr a0 fun a_46 =>
ldI h_45 (a_46.add 190) .u32 fun x_47 =>
bcase (decide (x_47 ≥ (32768 : Int))) (
K (.tuple #[.int .i64 z_25, .int .i64 0]) h_45) <|
K_36 [] h_45) <|
K_36 [] h_31) ∧ ∀ (h_37 : Heap) (u_38 : Nat → Value) , K_36 [] h_37 → (
∃ K_48 : List Value → Heap → Prop, (
ptr a0 fun a_51 =>
ldI h_37 (a_51.add 190) .u32 fun x_52 =>
ldI h_37 ((⟨r_16, 0, none⟩ : Addr).add 0) .u32 fun x_53 =>
bcase ((decide (z_34 < x_35)) == (decide (x_52 < x_53))) (
ldI h_37 ((⟨r_16, 0, none⟩ : Addr).add 0) .u32 fun x_54 =>
ldI h_37 ((⟨r_16, 0, none⟩ : Addr).add 1) .u8 fun x_55 =>
ldI h_37 ((⟨r_16, 0, none⟩ : Addr).add 2) .u8 fun x_56 =>
ldI h_37 ((⟨r_16, 0, none⟩ : Addr).add 3) .u8 fun x_57 =>
C F_arith_likely #[.pointer r_11, .agg #[.int .u32 x_54, .int .u8 x_55, .int .u8 x_56, .int .u8 x_57]] h_37 (fun v_58 h_59 =>
K_48 [.int .i64 z_25] h_59) (Kp)) <|
bindI (bitI .xor .i64 z_25 (1 : Int)) fun z_60 =>
ldI h_37 ((⟨r_16, 0, none⟩ : Addr).add 0) .u32 fun x_61 =>
ldI h_37 ((⟨r_16, 0, none⟩ : Addr).add 1) .u8 fun x_62 =>
ldI h_37 ((⟨r_16, 0, none⟩ : Addr).add 2) .u8 fun x_63 =>
ldI h_37 ((⟨r_16, 0, none⟩ : Addr).add 3) .u8 fun x_64 =>
C F_arith_unlikely #[.pointer r_11, .agg #[.int .u32 x_61, .int .u8 x_62, .int .u8 x_63, .int .u8 x_64]] h_37 (fun v_65 h_66 =>
K_48 [.int .i64 z_60] h_66) (Kp)) ∧ ∀ (h_49 : Heap) (u_50 : Nat → Value) (x_67 : Int), K_48 [.int .i64 x_67] h_49 → (
bcase (decide (z_34 < x_35)) (
ldI h_49 ((⟨r_16, 0, none⟩ : Addr).add 0) .u32 fun x_68 =>
ptr a0 fun a_69 =>
stV h_49 (a_69.add 190) (.int .u32 x_68) fun h_70 =>
C F_arith_Decoder_renew #[.pointer a0] h_70 (fun v_71 h_72 =>
K (.tuple #[.int .i64 x_67, .int .i64 0]) h_72) (Kp)) <|
C F_arith_Decoder_renew #[.pointer a0] h_49 (fun v_73 h_74 =>
K (.tuple #[.int .i64 x_67, .int .i64 0]) h_74) (Kp))))) (Kp)

/- (*burin/arith.table).States -/
set_option maxRecDepth 100000 in
def arith_table_States (C : CallP) (t : Option Addr) (h : Heap) (K : Value → Heap → Prop) (Kp : List PanicEntry → Heap → Prop) : Prop :=
ptr t fun a_1 =>
ldS h (a_1.add 188) fun x_2 x_2n x_2c =>
appC h T_uint8 1 1 [.int .u8 0] none (0) (0) x_2 (x_2n) fun q_3 q_3n q_3c h_4 =>
K (.slice q_3 q_3n q_3c) h_4

/- (*burin/arith.table).Contexts -/
set_option maxRecDepth 100000 in
def arith_table_Contexts (C : CallP) (t : Option Addr) (h : Heap) (K : Value → Heap → Prop) (Kp : List PanicEntry → Heap → Prop) : Prop :=
ptr t fun a_1 =>
ldS h (a_1.add 188) fun x_2 x_2n x_2c =>
K (.int .i64 (x_2n : Int)) h

/- burin/arith.made -/
set_option maxRecDepth 100000 in
def arith_made (C : CallP) (contexts : Int) (h : Heap) (K : Value → Heap → Prop) (Kp : List PanicEntry → Heap → Prop) : Prop :=
newC h Z_arith_table T_arith_table fun r_1 h_2 =>
bcase (decide (contexts < (1 : Int))) (
stVs h_2 (⟨r_1, 0, none⟩ : Addr) 0 [.int .u32 0, .int .u8 0, .int .u8 0, .int .u8 0, .int .u32 0, .int .u8 0, .int .u8 0, .int .u8 0, .int .u32 0, .int .u8 0, .int .u8 0, .int .u8 0, .int .u32 0, .int .u8 0, .int .u8 0, .int .u8 0, .int .u32 0, .int .u8 0, .int .u8 0, .int .u8 0, .int .u32 0, .int .u8 0, .int .u8 0, .int .u8 0, .int .u32 0, .int .u8 0, .int .u8 0, .int .u8 0, .int .u32 0, .int .u8 0, .int .u8 0, .int .u8 0, .int .u32 0, .int .u8 0, .int .u8 0, .int .u8 0, .int .u32 0, .int .u8 0, .int .u8 0, .int .u8 0, .int .u32 0, .int .u8 0, .int .u8 0, .int .u8 0, .int .u32 0, .int .u8 0, .int .u8 0, .int .u8 0, .int .u32 0, .int .u8 0, .int .u8 0, .int .u8 0, .int .u32 0, .int .u8 0, .int .u8 0, .int .u8 0, .int .u32 0, .int .u8 0, .int .u8 0, .int .u8 0, .int .u32 0, .int .u8 0, .int .u8 0, .int .u8 0, .int .u32 0, .int .u8 0, .int .u8 0, .int .u8 0, .int .u32 0, .int .u8 0, .int .u8 0, .int .u8 0, .int .u32 0, .int .u8 0, .int .u8 0, .int .u8 0, .int .u32 0, .int .u8 0, .int .u8 0, .int .u8 0, .int .u32 0, .int .u8 0, .int .u8 0, .int .u8 0, .int .u32 0, .int .u8 0, .int .u8 0, .int .u8 0, .int .u32 0, .int .u8 0, .int .u8 0, .int .u8 0, .int .u32 0, .int .u8 0, .int .u8 0, .int .u8 0, .int .u32 0, .int .u8 0, .int .u8 0, .int .u8 0, .int .u32 0, .int .u8 0, .int .u8 0, .int .u8 0, .int .u32 0, .int .u8 0, .int .u8 0, .int .u8 0, .int .u32 0, .int .u8 0, .int .u8 0, .int .u8 0, .int .u32 0, .int .u8 0, .int .u8 0, .int .u8 0, .int .u32 0, .int .u8 0, .int .u8 0, .int .u8 0, .int .u32 0, .int .u8 0, .int .u8 0, .int .u8 0, .int .u32 0, .int .u8 0, .int .u8 0, .int .u8 0, .int .u32 0, .int .u8 0, .int .u8 0, .int .u8 0, .int .u32 0, .int .u8 0, .int .u8 0, .int .u8 0, .int .u32 0, .int .u8 0, .int .u8 0, .int .u8 0, .int .u32 0, .int .u8 0, .int .u8 0, .int .u8 0, .int .u32 0, .int .u8 0, .int .u8 0, .int .u8 0, .int .u32 0, .int .u8 0, .int .u8 0, .int .u8 0, .int .u32 0, .int .u8 0, .int .u8 0, .int .u8 0, .int .u32 0, .int .u8 0, .int .u8 0, .int .u8 0, .int .u32 0, .int .u8 0, .int .u8 0, .int .u8 0, .int .u32 0, .int .u8 0, .int .u8 0, .int .u8 0, .int .u32 0, .int .u8 0, .int .u8 0, .int .u8 0, .int .u32 0, .int .u8 0, .int .u8 0, .int .u8 0, .int .u32 0, .int .u8 0, .int .u8 0, .int .u8 0, .int .u32 0, .int .u8 0, .int .u8 0, .int .u8 0, .int .u32 0, .int .u8 0, .int .u8 0, .int .u8 0, .slice none 0 0, .int .i64 0] fun h_3 =>
ldAll h_3 (⟨r_1, 0, none⟩ : Addr) 190 fun cs_4 =>
K (.tuple #[.agg (cs_4).toArray, .bool false]) h_3) <|
bcase (decide (contexts > (131072 : Int))) (
stVs h_2 (⟨r_1, 0, none⟩ : Addr) 0 [.int .u32 0, .int .u8 0, .int .u8 0, .int .u8 0, .int .u32 0, .int .u8 0, .int .u8 0, .int .u8 0, .int .u32 0, .int .u8 0, .int .u8 0, .int .u8 0, .int .u32 0, .int .u8 0, .int .u8 0, .int .u8 0, .int .u32 0, .int .u8 0, .int .u8 0, .int .u8 0, .int .u32 0, .int .u8 0, .int .u8 0, .int .u8 0, .int .u32 0, .int .u8 0, .int .u8 0, .int .u8 0, .int .u32 0, .int .u8 0, .int .u8 0, .int .u8 0, .int .u32 0, .int .u8 0, .int .u8 0, .int .u8 0, .int .u32 0, .int .u8 0, .int .u8 0, .int .u8 0, .int .u32 0, .int .u8 0, .int .u8 0, .int .u8 0, .int .u32 0, .int .u8 0, .int .u8 0, .int .u8 0, .int .u32 0, .int .u8 0, .int .u8 0, .int .u8 0, .int .u32 0, .int .u8 0, .int .u8 0, .int .u8 0, .int .u32 0, .int .u8 0, .int .u8 0, .int .u8 0, .int .u32 0, .int .u8 0, .int .u8 0, .int .u8 0, .int .u32 0, .int .u8 0, .int .u8 0, .int .u8 0, .int .u32 0, .int .u8 0, .int .u8 0, .int .u8 0, .int .u32 0, .int .u8 0, .int .u8 0, .int .u8 0, .int .u32 0, .int .u8 0, .int .u8 0, .int .u8 0, .int .u32 0, .int .u8 0, .int .u8 0, .int .u8 0, .int .u32 0, .int .u8 0, .int .u8 0, .int .u8 0, .int .u32 0, .int .u8 0, .int .u8 0, .int .u8 0, .int .u32 0, .int .u8 0, .int .u8 0, .int .u8 0, .int .u32 0, .int .u8 0, .int .u8 0, .int .u8 0, .int .u32 0, .int .u8 0, .int .u8 0, .int .u8 0, .int .u32 0, .int .u8 0, .int .u8 0, .int .u8 0, .int .u32 0, .int .u8 0, .int .u8 0, .int .u8 0, .int .u32 0, .int .u8 0, .int .u8 0, .int .u8 0, .int .u32 0, .int .u8 0, .int .u8 0, .int .u8 0, .int .u32 0, .int .u8 0, .int .u8 0, .int .u8 0, .int .u32 0, .int .u8 0, .int .u8 0, .int .u8 0, .int .u32 0, .int .u8 0, .int .u8 0, .int .u8 0, .int .u32 0, .int .u8 0, .int .u8 0, .int .u8 0, .int .u32 0, .int .u8 0, .int .u8 0, .int .u8 0, .int .u32 0, .int .u8 0, .int .u8 0, .int .u8 0, .int .u32 0, .int .u8 0, .int .u8 0, .int .u8 0, .int .u32 0, .int .u8 0, .int .u8 0, .int .u8 0, .int .u32 0, .int .u8 0, .int .u8 0, .int .u8 0, .int .u32 0, .int .u8 0, .int .u8 0, .int .u8 0, .int .u32 0, .int .u8 0, .int .u8 0, .int .u8 0, .int .u32 0, .int .u8 0, .int .u8 0, .int .u8 0, .int .u32 0, .int .u8 0, .int .u8 0, .int .u8 0, .int .u32 0, .int .u8 0, .int .u8 0, .int .u8 0, .int .u32 0, .int .u8 0, .int .u8 0, .int .u8 0, .int .u32 0, .int .u8 0, .int .u8 0, .int .u8 0, .int .u32 0, .int .u8 0, .int .u8 0, .int .u8 0, .slice none 0 0, .int .i64 0] fun h_5 =>
ldAll h_5 (⟨r_1, 0, none⟩ : Addr) 190 fun cs_6 =>
K (.tuple #[.agg (cs_6).toArray, .bool false]) h_5) <|
(
C F_arith_rows #[] h_2 (fun v_7 h_8 =>
∃ (cs_9 : List Value), cs_9.length = 188 ∧ v_7 = .agg (cs_9).toArray ∧ (
hext h_2 h_8 ∧ (
needs (0 ≤ contexts ∧ contexts ≤ contexts ∧ contexts ≤ 9223372036854775807 ∧ ((1 : Nat) : Int) * contexts ≤ 281474976710656) <|
newC h_8 (repZ [.int .u8 0] contexts.toNat) T_uint8 fun r_10 h_11 =>
needs ((cs_9).length = 188 ∧ 0 + 188 ≤ (Z_arith_table).length) <|
needs ((([.slice (some ⟨r_10, 0, none⟩) contexts.toNat contexts.toNat] : List Value)).length = 1 ∧ 188 + 1 ≤ ((putL Z_arith_table 0 cs_9)).length) <|
needs (((putL (putL Z_arith_table 0 cs_9) 188 ([.slice (some ⟨r_10, 0, none⟩) contexts.toNat contexts.toNat] : List Value))).length = 190) <| stVs h_11 (⟨r_1, 0, none⟩ : Addr) 0 ((putL (putL Z_arith_table 0 cs_9) 188 ([.slice (some ⟨r_10, 0, none⟩) contexts.toNat contexts.toNat] : List Value))) fun h_12 =>
ldAll h_12 (⟨r_1, 0, none⟩ : Addr) 190 fun cs_13 =>
K (.tuple #[.agg (cs_13).toArray, .bool true]) h_12))) (Kp)) ∧ (
needs (0 ≤ contexts ∧ contexts ≤ contexts ∧ contexts ≤ 9223372036854775807 ∧ ((1 : Nat) : Int) * contexts ≤ 281474976710656) <|
newC h_2 (repZ [.int .u8 0] contexts.toNat) T_uint8 fun r_14 h_15 =>
C F_arith_rows #[] h_15 (fun v_16 h_17 =>
∃ (cs_18 : List Value), cs_18.length = 188 ∧ v_16 = .agg (cs_18).toArray ∧ (
hext h_15 h_17 ∧ (
needs ((cs_18).length = 188 ∧ 0 + 188 ≤ (Z_arith_table).length) <|
needs ((([.slice (some ⟨r_14, 0, none⟩) contexts.toNat contexts.toNat] : List Value)).length = 1 ∧ 188 + 1 ≤ ((putL Z_arith_table 0 cs_18)).length) <|
needs (((putL (putL Z_arith_table 0 cs_18) 188 ([.slice (some ⟨r_14, 0, none⟩) contexts.toNat contexts.toNat] : List Value))).length = 190) <| stVs h_17 (⟨r_1, 0, none⟩ : Addr) 0 ((putL (putL Z_arith_table 0 cs_18) 188 ([.slice (some ⟨r_14, 0, none⟩) contexts.toNat contexts.toNat] : List Value))) fun h_19 =>
ldAll h_19 (⟨r_1, 0, none⟩ : Addr) 190 fun cs_20 =>
K (.tuple #[.agg (cs_20).toArray, .bool true]) h_19))) (Kp))

/- (*burin/arith.table).at -/
set_option maxRecDepth 100000 in
def arith_table_at (C : CallP) (t : Option Addr) (context : Int) (h : Heap) (K : Value → Heap → Prop) (Kp : List PanicEntry → Heap → Prop) : Prop :=
newC h [.int .u32 0, .int .u8 0, .int .u8 0, .int .u8 0] T_arith_row fun r_1 h_2 =>
ptr t fun a_3 =>
ldS h_2 (a_3.add 188) fun x_4 x_4n x_4c =>
ptr t fun a_5 =>
needs (IntKind.i64 = IntKind.i64 ∧ (x_4n : Int) ≠ 0) <|
bindI (context.tmod (x_4n : Int)) fun z_6 =>
bindI (IntKind.i64.wrap (z_6 + (x_4n : Int))) fun z_7 =>
needs (IntKind.i64 = IntKind.i64 ∧ (x_4n : Int) ≠ 0) <|
bindI (z_7.tmod (x_4n : Int)) fun z_8 =>
ldS h_2 (a_5.add 188) fun x_9 x_9n x_9c =>
needs (0 ≤ z_8 ∧ z_8 < (x_9n : Int)) <|
ptr x_9 fun a_10 =>
ptr t fun a_11 =>
ldI h_2 (a_10.add (z_8.toNat * 1)) .u8 fun x_12 =>
bindI (shrI .u8 x_12 (1 : Int)) fun z_13 =>
needs (0 ≤ z_13 ∧ z_13 < ((47 : Nat) : Int)) <|
ldI h_2 (((a_11.add 0).add (z_13.toNat * 4)).add 0) .u32 fun x_14 =>
ldI h_2 (((a_11.add 0).add (z_13.toNat * 4)).add 1) .u8 fun x_15 =>
ldI h_2 (((a_11.add 0).add (z_13.toNat * 4)).add 2) .u8 fun x_16 =>
ldI h_2 (((a_11.add 0).add (z_13.toNat * 4)).add 3) .u8 fun x_17 =>
stV h_2 ((⟨r_1, 0, none⟩ : Addr).add 0) (.int .u32 x_14) fun h_18 =>
stV h_18 ((⟨r_1, 0, none⟩ : Addr).add 1) (.int .u8 x_15) fun h_19 =>
stV h_19 ((⟨r_1, 0, none⟩ : Addr).add 2) (.int .u8 x_16) fun h_20 =>
stV h_20 ((⟨r_1, 0, none⟩ : Addr).add 3) (.int .u8 x_17) fun h_21 =>
ldI h_21 ((⟨r_1, 0, none⟩ : Addr).add 0) .u32 fun r_22 =>
ldI h_21 ((⟨r_1, 0, none⟩ : Addr).add 1) .u8 fun r_23 =>
ldI h_21 ((⟨r_1, 0, none⟩ : Addr).add 2) .u8 fun r_24 =>
ldI h_21 ((⟨r_1, 0, none⟩ : Addr).add 3) .u8 fun r_25 =>
K (.tuple #[.pointer (some (a_10.add (z_8.toNat * 1))), .agg #[.int .u32 r_22, .int .u8 r_23, .int .u8 r_24, .int .u8 r_25]]) h_21

/- burin/arith.likely -/
set_option maxRecDepth 100000 in
def arith_likely (C : CallP) (s : Option Addr) (r_1 : Int) (r_2 : Int) (r_3 : Int) (r_4 : Int) (h : Heap) (K : Value → Heap → Prop) (Kp : List PanicEntry → Heap → Prop) : Prop :=
newC h [.int .u32 r_1, .int .u8 r_2, .int .u8 r_3, .int .u8 r_4] T_arith_row fun r_5 h_6 =>
ptr s fun a_7 =>
ldI h_6 ((⟨r_5, 0, none⟩ : Addr).add 1) .u8 fun x_8 =>
bindI (shlI .u8 x_8 (1 : Int)) fun z_9 =>
ldI h_6 a_7 .u8 fun x_10 =>
bindI (bitI .and .u8 x_10 (1 : Int)) fun z_11 =>
bindI (bitI .or .u8 z_9 z_11) fun z_12 =>
ptr s fun a_13 =>
stV h_6 a_13 (.int .u8 z_12) fun h_14 =>
K (.tuple #[]) h_14

/- burin/arith.unlikely -/
set_option maxRecDepth 100000 in
def arith_unlikely (C : CallP) (s : Option Addr) (r_1 : Int) (r_2 : Int) (r_3 : Int) (r_4 : Int) (h : Heap) (K : Value → Heap → Prop) (Kp : List PanicEntry → Heap → Prop) : Prop :=
newC h [.int .u32 r_1, .int .u8 r_2, .int .u8 r_3, .int .u8 r_4] T_arith_row fun r_5 h_6 =>
ptr s fun a_7 =>
ldI h_6 ((⟨r_5, 0, none⟩ : Addr).add 2) .u8 fun x_8 =>
bindI (shlI .u8 x_8 (1 : Int)) fun z_9 =>
ldI h_6 a_7 .u8 fun x_10 =>
bindI (bitI .and .u8 x_10 (1 : Int)) fun z_11 =>
bindI (bitI .or .u8 z_9 z_11) fun z_12 =>
ldI h_6 ((⟨r_5, 0, none⟩ : Addr).add 3) .u8 fun x_13 =>
bindI (bitI .xor .u8 z_12 x_13) fun z_14 =>
ptr s fun a_15 =>
stV h_6 a_15 (.int .u8 z_14) fun h_16 =>
K (.tuple #[]) h_16

/- (*burin/arith.Coder).renew -/
set_option maxRecDepth 100000 in
def arith_Coder_renew (C : CallP) (c : Option Addr) (h : Heap) (K : Value → Heap → Prop) (Kp : List PanicEntry → Heap → Prop) : Prop :=
∃ J_1 : Nat → List Value → Heap → Prop, (∃ n_3, J_1 n_3 [] h) ∧ ∀ (n_3 : Nat) (h_4 : Heap) (u_5 : Nat → Value) , J_1 n_3 [] h_4 → (
ptr c fun a_6 =>
ldI h_4 (a_6.add 190) .u32 fun x_7 =>
bindI (shlI .u32 x_7 (1 : Int)) fun z_8 =>
ptr c fun a_9 =>
stV h_4 (a_9.add 190) (.int .u32 z_8) fun h_10 =>
ptr c fun a_11 =>
ldI h_10 (a_11.add 191) .u32 fun x_12 =>
bindI (shlI .u32 x_12 (1 : Int)) fun z_13 =>
ptr c fun a_14 =>
stV h_10 (a_14.add 191) (.int .u32 z_13) fun h_15 =>
ptr c fun a_16 =>
ldI h_15 (a_16.add 192) .i64 fun x_17 =>
bindI (IntKind.i64.wrap (x_17 - (1 : Int))) fun z_18 =>
ptr c fun a_19 =>
stV h_15 (a_19.add 192) (.int .i64 z_18) fun h_20 =>
ptr c fun a_21 =>
ldI h_20 (a_21.add 192) .i64 fun x_22 =>
bcase (x_22 == (0 : Int)) (
C F_arith_Coder_out #[.pointer c] h_20 (fun v_23 h_24 =>
ptr c fun a_25 =>
ldI h_24 (a_25.add 190) .u32 fun x_26 =>
bcase (decide (x_26 ≥ (32768 : Int))) (
K (.tuple #[]) h_24) <|
∃ m_2, m_2 < n_3 ∧ J_1 m_2 [] h_24) (Kp)) <|
ptr c fun a_27 =>
ldI h_20 (a_27.add 190) .u32 fun x_28 =>
bcase (decide (x_28 ≥ (32768 : Int))) (
K (.tuple #[]) h_20) <|
∃ m_2, m_2 < n_3 ∧ J_1 m_2 [] h_20)

/- (*burin/arith.Coder).out -/
set_option maxRecDepth 100000 in
def arith_Coder_out (C : CallP) (a0 : Option Addr) (h : Heap) (K : Value → Heap → Prop) (Kp : List PanicEntry → Heap → Prop) : Prop :=
ptr a0 fun a_1 =>
ptr a0 fun a_2 =>
ldS h (a_1.add 193) fun x_3 x_3n x_3c =>
ldS h (a_2.add 193) fun x_4 x_4n x_4c =>
bindI (IntKind.i64.wrap ((x_4n : Int) - (1 : Int))) fun z_5 =>
needs (0 ≤ z_5 ∧ z_5 < (x_3n : Int)) <|
ptr x_3 fun a_6 =>
∃ K_7 : List Value → Heap → Prop, (
∃ K_10 : List Value → Heap → Prop, (
ldI h (a_6.add (z_5.toNat * 1)) .u8 fun x_13 =>
bcase (x_13 != (255 : Int)) (
ptr a0 fun a_14 =>
ldI h (a_14.add 191) .u32 fun x_15 =>
K_10 [.bool (decide (x_15 ≥ (134217728 : Int)))] h) <|
K_10 [.bool false] h) ∧ ∀ (h_11 : Heap) (u_12 : Nat → Value) (x_16 : Bool), K_10 [.bool x_16] h_11 → (
bcase x_16 (
ldI h_11 (a_6.add (z_5.toNat * 1)) .u8 fun x_17 =>
bindI (IntKind.u8.wrap (x_17 + (1 : Int))) fun z_18 =>
stV h_11 (a_6.add (z_5.toNat * 1)) (.int .u8 z_18) fun h_19 =>
ptr a0 fun a_20 =>
ldI h_19 (a_20.add 191) .u32 fun x_21 =>
bindI (bitI .and .u32 x_21 (134217727 : Int)) fun z_22 =>
ptr a0 fun a_23 =>
stV h_19 (a_23.add 191) (.int .u32 z_22) fun h_24 =>
K_7 [] h_24) <|
K_7 [] h_11)) ∧ ∀ (h_8 : Heap) (u_9 : Nat → Value) , K_7 [] h_8 → (
∃ K_25 : List Value → Heap → Prop, (
ldI h_8 (a_6.add (z_5.toNat * 1)) .u8 fun x_28 =>
bcase (x_28 != (255 : Int)) (
bindI (IntKind.i64.wrap ((20 : Int) - (1 : Int))) fun z_29 =>
K_25 [.int .i64 z_29] h_8) <|
K_25 [.int .i64 20] h_8) ∧ ∀ (h_26 : Heap) (u_27 : Nat → Value) (x_30 : Int), K_25 [.int .i64 x_30] h_26 → (
ptr a0 fun a_31 =>
ptr a0 fun a_32 =>
ldS h_26 (a_31.add 193) fun x_33 x_33n x_33c =>
ldI h_26 (a_32.add 191) .u32 fun x_34 =>
needs (0 ≤ x_30) <|
bindI (shrI .u32 x_34 x_30) fun z_35 =>
bindI (IntKind.u8.wrap z_35) fun z_36 =>
newC h_26 [.int .u8 z_36] T_uint8 fun r_37 h_38 =>
appC h_38 T_uint8 1 1 [.int .u8 0] x_33 (x_33n) (x_33c) (some ⟨r_37, 0, none⟩) (1) fun q_39 q_39n q_39c h_40 =>
ptr a0 fun a_41 =>
stV h_40 (a_41.add 193) (.slice q_39 q_39n q_39c) fun h_42 =>
ptr a0 fun a_43 =>
needs (0 ≤ x_30) <|
bindI (shlI .u32 (1 : Int) x_30) fun z_44 =>
bindI (IntKind.u32.wrap (z_44 - (1 : Int))) fun z_45 =>
ldI h_42 (a_43.add 191) .u32 fun x_46 =>
bindI (bitI .and .u32 x_46 z_45) fun z_47 =>
ptr a0 fun a_48 =>
stV h_42 (a_48.add 191) (.int .u32 z_47) fun h_49 =>
bindI (IntKind.i64.wrap ((27 : Int) - x_30)) fun z_50 =>
ptr a0 fun a_51 =>
stV h_49 (a_51.add 192) (.int .i64 z_50) fun h_52 =>
K (.tuple #[]) h_52))

/- (*burin/arith.Decoder).byte -/
set_option maxRecDepth 100000 in
def arith_Decoder_byte (C : CallP) (d : Option Addr) (i : Int) (h : Heap) (K : Value → Heap → Prop) (Kp : List PanicEntry → Heap → Prop) : Prop :=
ptr d fun a_1 =>
ldS h (a_1.add 193) fun x_2 x_2n x_2c =>
bcase (decide (i < (x_2n : Int))) (
ptr d fun a_3 =>
ldS h (a_3.add 193) fun x_4 x_4n x_4c =>
needs (0 ≤ i ∧ i < (x_4n : Int)) <|
ptr x_4 fun a_5 =>
ldI h (a_5.add (i.toNat * 1)) .u8 fun x_6 =>
bindI (IntKind.u32.wrap x_6) fun z_7 =>
K (.int .u32 z_7) h) <|
K (.int .u32 255) h

/- (*burin/arith.Decoder).in -/
set_option maxRecDepth 100000 in
def arith_Decoder_in (C : CallP) (a0 : Option Addr) (h : Heap) (K : Value → Heap → Prop) (Kp : List PanicEntry → Heap → Prop) : Prop :=
ptr a0 fun a_1 =>
ldI h (a_1.add 194) .i64 fun x_2 =>
C F_arith_Decoder_byte #[.pointer a0, .int .i64 x_2] h (fun v_3 h_4 =>
∃ (r_5 : Int), v_3 = .int .u32 r_5 ∧ (
bcase (r_5 != (255 : Int)) (
ptr a0 fun a_6 =>
ldI h_4 (a_6.add 194) .i64 fun x_7 =>
bindI (IntKind.i64.wrap (x_7 + (1 : Int))) fun z_8 =>
ptr a0 fun a_9 =>
stV h_4 (a_9.add 194) (.int .i64 z_8) fun h_10 =>
ptr a0 fun a_11 =>
ptr a0 fun a_12 =>
ldI h_10 (a_11.add 191) .u32 fun x_13 =>
ldI h_10 (a_12.add 194) .i64 fun x_14 =>
C F_arith_Decoder_byte #[.pointer a0, .int .i64 x_14] h_10 (fun v_15 h_16 =>
∃ (r_17 : Int), v_15 = .int .u32 r_17 ∧ (
hext h_10 h_16 ∧ (
bindI (shlI .u32 r_17 (8 : Int)) fun z_18 =>
bindI (IntKind.u32.wrap (x_13 + z_18)) fun z_19 =>
ptr a0 fun a_20 =>
stV h_16 (a_20.add 191) (.int .u32 z_19) fun h_21 =>
ptr a0 fun a_22 =>
stV h_21 (a_22.add 192) (.int .i64 8) fun h_23 =>
K (.tuple #[]) h_23))) (Kp)) <|
ptr a0 fun a_24 =>
ldI h_4 (a_24.add 194) .i64 fun x_25 =>
bindI (IntKind.i64.wrap (x_25 + (1 : Int))) fun z_26 =>
C F_arith_Decoder_byte #[.pointer a0, .int .i64 z_26] h_4 (fun v_27 h_28 =>
∃ (r_29 : Int), v_27 = .int .u32 r_29 ∧ (
bcase (decide (r_29 > (143 : Int))) (
ptr a0 fun a_30 =>
ldI h_28 (a_30.add 191) .u32 fun x_31 =>
bindI (IntKind.u32.wrap (x_31 + (65280 : Int))) fun z_32 =>
ptr a0 fun a_33 =>
stV h_28 (a_33.add 191) (.int .u32 z_32) fun h_34 =>
ptr a0 fun a_35 =>
stV h_34 (a_35.add 192) (.int .i64 8) fun h_36 =>
K (.tuple #[]) h_36) <|
ptr a0 fun a_37 =>
ldI h_28 (a_37.add 194) .i64 fun x_38 =>
bindI (IntKind.i64.wrap (x_38 + (1 : Int))) fun z_39 =>
ptr a0 fun a_40 =>
stV h_28 (a_40.add 194) (.int .i64 z_39) fun h_41 =>
ptr a0 fun a_42 =>
ptr a0 fun a_43 =>
ldI h_41 (a_42.add 191) .u32 fun x_44 =>
ldI h_41 (a_43.add 194) .i64 fun x_45 =>
C F_arith_Decoder_byte #[.pointer a0, .int .i64 x_45] h_41 (fun v_46 h_47 =>
∃ (r_48 : Int), v_46 = .int .u32 r_48 ∧ (
hext h_41 h_47 ∧ (
bindI (shlI .u32 r_48 (9 : Int)) fun z_49 =>
bindI (IntKind.u32.wrap (x_44 + z_49)) fun z_50 =>
ptr a0 fun a_51 =>
stV h_47 (a_51.add 191) (.int .u32 z_50) fun h_52 =>
ptr a0 fun a_53 =>
stV h_52 (a_53.add 192) (.int .i64 7) fun h_54 =>
K (.tuple #[]) h_54))) (Kp))) (Kp))) (Kp)

/- (*burin/arith.Decoder).renew -/
set_option maxRecDepth 100000 in
def arith_Decoder_renew (C : CallP) (d : Option Addr) (h : Heap) (K : Value → Heap → Prop) (Kp : List PanicEntry → Heap → Prop) : Prop :=
∃ J_1 : Nat → List Value → Heap → Prop, (∃ n_3, J_1 n_3 [] h) ∧ ∀ (n_3 : Nat) (h_4 : Heap) (u_5 : Nat → Value) , J_1 n_3 [] h_4 → (
∃ K_6 : List Value → Heap → Prop, (
ptr d fun a_9 =>
ldI h_4 (a_9.add 192) .i64 fun x_10 =>
bcase (x_10 == (0 : Int)) (
C F_arith_Decoder_in #[.pointer d] h_4 (fun v_11 h_12 =>
K_6 [] h_12) (Kp)) <|
K_6 [] h_4) ∧ ∀ (h_7 : Heap) (u_8 : Nat → Value) , K_6 [] h_7 → (
ptr d fun a_13 =>
ldI h_7 (a_13.add 190) .u32 fun x_14 =>
bindI (shlI .u32 x_14 (1 : Int)) fun z_15 =>
ptr d fun a_16 =>
stV h_7 (a_16.add 190) (.int .u32 z_15) fun h_17 =>
ptr d fun a_18 =>
ldI h_17 (a_18.add 191) .u32 fun x_19 =>
bindI (shlI .u32 x_19 (1 : Int)) fun z_20 =>
ptr d fun a_21 =>
stV h_17 (a_21.add 191) (.int .u32 z_20) fun h_22 =>
ptr d fun a_23 =>
ldI h_22 (a_23.add 192) .i64 fun x_24 =>
bindI (IntKind.i64.wrap (x_24 - (1 : Int))) fun z_25 =>
ptr d fun a_26 =>
stV h_22 (a_26.add 192) (.int .i64 z_25) fun h_27 =>
ptr d fun a_28 =>
ldI h_27 (a_28.add 190) .u32 fun x_29 =>
bcase (decide (x_29 ≥ (32768 : Int))) (
K (.tuple #[]) h_27) <|
∃ m_2, m_2 < n_3 ∧ J_1 m_2 [] h_27))

/- burin/arith.rows -/
set_option maxRecDepth 100000 in
def arith_rows (C : CallP)  (h : Heap) (K : Value → Heap → Prop) (Kp : List PanicEntry → Heap → Prop) : Prop :=
newC h Z_47_arith_row T_47_arith_row fun r_1 h_2 =>
stVs h_2 (⟨r_1, 0, none⟩ : Addr) 0 [.int .u32 22017, .int .u8 1, .int .u8 1, .int .u8 1, .int .u32 13313, .int .u8 2, .int .u8 6, .int .u8 0, .int .u32 6145, .int .u8 3, .int .u8 9, .int .u8 0, .int .u32 2753, .int .u8 4, .int .u8 12, .int .u8 0, .int .u32 1313, .int .u8 5, .int .u8 29, .int .u8 0, .int .u32 545, .int .u8 38, .int .u8 33, .int .u8 0, .int .u32 22017, .int .u8 7, .int .u8 6, .int .u8 1, .int .u32 21505, .int .u8 8, .int .u8 14, .int .u8 0, .int .u32 18433, .int .u8 9, .int .u8 14, .int .u8 0, .int .u32 14337, .int .u8 10, .int .u8 14, .int .u8 0, .int .u32 12289, .int .u8 11, .int .u8 17, .int .u8 0, .int .u32 9217, .int .u8 12, .int .u8 18, .int .u8 0, .int .u32 7169, .int .u8 13, .int .u8 20, .int .u8 0, .int .u32 5633, .int .u8 29, .int .u8 21, .int .u8 0, .int .u32 22017, .int .u8 15, .int .u8 14, .int .u8 1, .int .u32 21505, .int .u8 16, .int .u8 14, .int .u8 0, .int .u32 20737, .int .u8 17, .int .u8 15, .int .u8 0, .int .u32 18433, .int .u8 18, .int .u8 16, .int .u8 0, .int .u32 14337, .int .u8 19, .int .u8 17, .int .u8 0, .int .u32 13313, .int .u8 20, .int .u8 18, .int .u8 0, .int .u32 12289, .int .u8 21, .int .u8 19, .int .u8 0, .int .u32 10241, .int .u8 22, .int .u8 19, .int .u8 0, .int .u32 9217, .int .u8 23, .int .u8 20, .int .u8 0, .int .u32 8705, .int .u8 24, .int .u8 21, .int .u8 0, .int .u32 7169, .int .u8 25, .int .u8 22, .int .u8 0, .int .u32 6145, .int .u8 26, .int .u8 23, .int .u8 0, .int .u32 5633, .int .u8 27, .int .u8 24, .int .u8 0, .int .u32 5121, .int .u8 28, .int .u8 25, .int .u8 0, .int .u32 4609, .int .u8 29, .int .u8 26, .int .u8 0, .int .u32 4353, .int .u8 30, .int .u8 27, .int .u8 0, .int .u32 2753, .int .u8 31, .int .u8 28, .int .u8 0, .int .u32 2497, .int .u8 32, .int .u8 29, .int .u8 0, .int .u32 2209, .int .u8 33, .int .u8 30, .int .u8 0, .int .u32 1313, .int .u8 34, .int .u8 31, .int .u8 0, .int .u32 1089, .int .u8 35, .int .u8 32, .int .u8 0, .int .u32 673, .int .u8 36, .int .u8 33, .int .u8 0, .int .u32 545, .int .u8 37, .int .u8 34, .int .u8 0, .int .u32 321, .int .u8 38, .int .u8 35, .int .u8 0, .int .u32 273, .int .u8 39, .int .u8 36, .int .u8 0, .int .u32 133, .int .u8 40, .int .u8 37, .int .u8 0, .int .u32 73, .int .u8 41, .int .u8 38, .int .u8 0, .int .u32 37, .int .u8 42, .int .u8 39, .int .u8 0, .int .u32 21, .int .u8 43, .int .u8 40, .int .u8 0, .int .u32 9, .int .u8 44, .int .u8 41, .int .u8 0, .int .u32 5, .int .u8 45, .int .u8 42, .int .u8 0, .int .u32 1, .int .u8 45, .int .u8 43, .int .u8 0, .int .u32 22017, .int .u8 46, .int .u8 46, .int .u8 0] fun h_3 =>
ldAll h_3 (⟨r_1, 0, none⟩ : Addr) 188 fun cs_4 =>
K (.agg (cs_4).toArray) h_3

end Go.Den.Ytlmopdohgipbeaa
