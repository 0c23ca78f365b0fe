/- Written by gen.py: the conditions of the functions of burinref4. -/
import Derived.Test.YtlmopdohgipbeaaNums
set_option linter.unusedVariables false
set_option linter.unusedSimpArgs false
namespace Go.Den.Ytlmopdohgipbeaa
open Go Go.Den

/- burin/burinref4.New -/
set_option maxRecDepth 100000 in
def burinref4_New (C : CallP) (contexts : Int) (h : Heap) (K : Value → Heap → Prop) (Kp : List PanicEntry → Heap → Prop) : Prop :=
C F_burinref4_begun #[.int .i64 contexts] h (fun v_1 h_2 =>
∃ (r_3 : Option Addr) (r_3n : Nat) (r_3c : Nat) (r_4 : Option Addr) (r_4n : Nat) (r_4c : Nat) (r_5 : Option Addr) (r_5n : Nat) (r_5c : Nat) (r_6 : Int), v_1 = .agg #[.slice r_3 r_3n r_3c, .slice r_4 r_4n r_4c, .slice r_5 r_5n r_5c, .int .i64 r_6] ∧ (
newC h_2 [.int .u8 0] T_uint8 fun r_7 h_8 =>
newC h_8 [.slice r_3 r_3n r_3c, .slice r_4 r_4n r_4c, .slice r_5 r_5n r_5c, .int .i64 r_6, .int .i64 32768, .int .i64 0, .int .i64 12, .slice (some ⟨r_7, 0, none⟩) 1 1, .bool false] T_burinref4_Coder fun r_9 h_10 =>
K (.pointer (some ⟨r_9, 0, none⟩)) h_10)) (Kp)

/- (*burin/burinref4.Coder).Put -/
set_option maxRecDepth 100000 in
def burinref4_Coder_Put (C : CallP) (a0 : Option Addr) (a1 : Int) (a2 : Int) (h : Heap) (K : Value → Heap → Prop) (Kp : List PanicEntry → Heap → Prop) : Prop :=
ptr a0 fun a_1 =>
ldB h (a_1.add 8) fun x_2 =>
bcase x_2 (
K (.int .i64 43) h) <|
∃ K_3 : List Value → Heap → Prop, (
bcase (a2 != (0 : Int)) (
bcase (a2 != (1 : Int)) (
K (.int .i64 42) h) <|
K_3 [] h) <|
K_3 [] h) ∧ ∀ (h_4 : Heap) (u_5 : Nat → Value) , K_3 [] h_4 → (
ptr a0 fun a_6 =>
ldI h_4 ((a_6.add 0).add 3) .i64 fun x_7 =>
bcase (x_7 == (16777216 : Int)) (
K (.int .i64 41) h_4) <|
ptr a0 fun a_8 =>
ldI h_4 ((a_8.add 0).add 3) .i64 fun x_9 =>
bindI (IntKind.i64.wrap (x_9 + (1 : Int))) fun z_10 =>
ptr a0 fun a_11 =>
stV h_4 ((a_11.add 0).add 3) (.int .i64 z_10) fun h_12 =>
ptr a0 fun a_13 =>
C F_burinref4_side_Index #[.pointer (some (a_13.add 0)), .int .i64 a1] h_12 (fun v_14 h_15 =>
∃ (r_16 : Int), v_14 = .int .i64 r_16 ∧ (
ptr a0 fun a_17 =>
ptr a0 fun a_18 =>
ldS h_15 ((a_17.add 0).add 0) fun x_19 x_19n x_19c =>
ldS h_15 ((a_18.add 0).add 1) fun x_20 x_20n x_20c =>
needs (0 ≤ r_16 ∧ r_16 < (x_20n : Int)) <|
ptr x_20 fun a_21 =>
ldI h_15 (a_21.add (r_16.toNat * 1)) .i64 fun x_22 =>
needs (0 ≤ x_22 ∧ x_22 < (x_19n : Int)) <|
ptr x_19 fun a_23 =>
ldI h_15 ((a_23.add (x_22.toNat * 4)).add 0) .i64 fun x_24 =>
ptr a0 fun a_25 =>
ldI h_15 (a_25.add 4) .i64 fun x_26 =>
bindI (IntKind.i64.wrap (x_26 - x_24)) fun z_27 =>
ptr a0 fun a_28 =>
stV h_15 (a_28.add 4) (.int .i64 z_27) fun h_29 =>
ptr a0 fun a_30 =>
ldS h_29 ((a_30.add 0).add 2) fun x_31 x_31n x_31c =>
needs (0 ≤ r_16 ∧ r_16 < (x_31n : Int)) <|
ptr x_31 fun a_32 =>
ldI h_29 (a_32.add (r_16.toNat * 1)) .i64 fun x_33 =>
bcase (a2 == x_33) (
ptr a0 fun a_34 =>
ldI h_29 (a_34.add 4) .i64 fun x_35 =>
bcase (decide (x_35 ≥ (32768 : Int))) (
ptr a0 fun a_36 =>
ldI h_29 (a_36.add 5) .i64 fun x_37 =>
bindI (IntKind.i64.wrap (x_37 + x_24)) fun z_38 =>
ptr a0 fun a_39 =>
stV h_29 (a_39.add 5) (.int .i64 z_38) fun h_40 =>
K (.int .i64 0) h_40) <|
ptr a0 fun a_41 =>
ldI h_29 (a_41.add 4) .i64 fun x_42 =>
bcase (decide (x_42 < x_24)) (
ptr a0 fun a_43 =>
stV h_29 (a_43.add 4) (.int .i64 x_24) fun h_44 =>
ptr a0 fun a_45 =>
C F_burinref4_side_likely #[.pointer (some (a_45.add 0)), .int .i64 r_16] h_44 (fun v_46 h_47 =>
C F_burinref4_Coder_renew #[.pointer a0] h_47 (fun v_48 h_49 =>
K (.int .i64 0) h_49) (Kp)) (Kp)) <|
ptr a0 fun a_50 =>
ldI h_29 (a_50.add 5) .i64 fun x_51 =>
bindI (IntKind.i64.wrap (x_51 + x_24)) fun z_52 =>
ptr a0 fun a_53 =>
stV h_29 (a_53.add 5) (.int .i64 z_52) fun h_54 =>
ptr a0 fun a_55 =>
C F_burinref4_side_likely #[.pointer (some (a_55.add 0)), .int .i64 r_16] h_54 (fun v_56 h_57 =>
C F_burinref4_Coder_renew #[.pointer a0] h_57 (fun v_58 h_59 =>
K (.int .i64 0) h_59) (Kp)) (Kp)) <|
ptr a0 fun a_60 =>
ldI h_29 (a_60.add 4) .i64 fun x_61 =>
bcase (decide (x_61 < x_24)) (
ptr a0 fun a_62 =>
ldI h_29 (a_62.add 5) .i64 fun x_63 =>
bindI (IntKind.i64.wrap (x_63 + x_24)) fun z_64 =>
ptr a0 fun a_65 =>
stV h_29 (a_65.add 5) (.int .i64 z_64) fun h_66 =>
ptr a0 fun a_67 =>
C F_burinref4_side_other #[.pointer (some (a_67.add 0)), .int .i64 r_16] h_66 (fun v_68 h_69 =>
C F_burinref4_Coder_renew #[.pointer a0] h_69 (fun v_70 h_71 =>
K (.int .i64 0) h_71) (Kp)) (Kp)) <|
ptr a0 fun a_72 =>
stV h_29 (a_72.add 4) (.int .i64 x_24) fun h_73 =>
ptr a0 fun a_74 =>
C F_burinref4_side_other #[.pointer (some (a_74.add 0)), .int .i64 r_16] h_73 (fun v_75 h_76 =>
C F_burinref4_Coder_renew #[.pointer a0] h_76 (fun v_77 h_78 =>
K (.int .i64 0) h_78) (Kp)) (Kp))) (Kp))

/- (*burin/burinref4.side).States -/
set_option maxRecDepth 100000 in
def burinref4_side_States (C : CallP) (s : Option Addr) (h : Heap) (K : Value → Heap → Prop) (Kp : List PanicEntry → Heap → Prop) : Prop :=
∃ J_1 : Nat → List Value → Heap → Prop, (∃ n_3, J_1 n_3 [.slice none 0 0, .int .i64 0] h) ∧ ∀ (n_3 : Nat) (h_4 : Heap) (u_5 : Nat → Value) (b_6 : Option Addr) (b_6n : Nat) (b_6c : Nat) (i_7 : Int), J_1 n_3 [.slice b_6 b_6n b_6c, .int .i64 i_7] h_4 → (
ptr s fun a_8 =>
ldS h_4 (a_8.add 1) fun x_9 x_9n x_9c =>
bcase (decide (i_7 < (x_9n : Int))) (
ptr s fun a_10 =>
ptr s fun a_11 =>
ldS h_4 (a_10.add 1) fun x_12 x_12n x_12c =>
needs (0 ≤ i_7 ∧ i_7 < (x_12n : Int)) <|
ptr x_12 fun a_13 =>
ldI h_4 (a_13.add (i_7.toNat * 1)) .i64 fun x_14 =>
bindI (IntKind.i64.wrap ((2 : Int) * x_14)) fun z_15 =>
ldS h_4 (a_11.add 2) fun x_16 x_16n x_16c =>
needs (0 ≤ i_7 ∧ i_7 < (x_16n : Int)) <|
ptr x_16 fun a_17 =>
ldI h_4 (a_17.add (i_7.toNat * 1)) .i64 fun x_18 =>
bindI (IntKind.i64.wrap (z_15 + x_18)) fun z_19 =>
bindI (IntKind.u8.wrap z_19) fun z_20 =>
newC h_4 [.int .u8 z_20] T_uint8 fun r_21 h_22 =>
appC h_22 T_uint8 1 1 [.int .u8 0] b_6 (b_6n) (b_6c) (some ⟨r_21, 0, none⟩) (1) fun q_23 q_23n q_23c h_24 =>
bindI (IntKind.i64.wrap (i_7 + (1 : Int))) fun z_25 =>
∃ m_2, m_2 < n_3 ∧ J_1 m_2 [.slice q_23 q_23n q_23c, .int .i64 z_25] h_24) <|
K (.slice b_6 b_6n b_6c) h_4)

/- (*burin/burinref4.Coder).Flush -/
set_option maxRecDepth 100000 in
def burinref4_Coder_Flush (C : CallP) (a0 : Option Addr) (h : Heap) (K : Value → Heap → Prop) (Kp : List PanicEntry → Heap → Prop) : Prop :=
ptr a0 fun a_1 =>
ldB h (a_1.add 8) fun x_2 =>
bcase x_2 (
K (.tuple #[.slice none 0 0, .int .i64 43]) h) <|
ptr a0 fun a_3 =>
stV h (a_3.add 8) (.bool true) fun h_4 =>
ptr a0 fun a_5 =>
ptr a0 fun a_6 =>
ldI h_4 (a_5.add 5) .i64 fun x_7 =>
ldI h_4 (a_6.add 4) .i64 fun x_8 =>
bindI (IntKind.i64.wrap (x_7 + x_8)) fun z_9 =>
ptr a0 fun a_10 =>
ldI h_4 (a_10.add 5) .i64 fun x_11 =>
bindI (bitI .or .i64 x_11 (65535 : Int)) fun z_12 =>
ptr a0 fun a_13 =>
stV h_4 (a_13.add 5) (.int .i64 z_12) fun h_14 =>
∃ K_15 : List Value → Heap → Prop, (
ptr a0 fun a_18 =>
ldI h_14 (a_18.add 5) .i64 fun x_19 =>
bcase (decide (x_19 ≥ z_9)) (
ptr a0 fun a_20 =>
ldI h_14 (a_20.add 5) .i64 fun x_21 =>
bindI (IntKind.i64.wrap (x_21 - (32768 : Int))) fun z_22 =>
ptr a0 fun a_23 =>
stV h_14 (a_23.add 5) (.int .i64 z_22) fun h_24 =>
K_15 [] h_24) <|
K_15 [] h_14) ∧ ∀ (h_16 : Heap) (u_17 : Nat → Value) , K_15 [] h_16 → (
ptr a0 fun a_25 =>
ptr a0 fun a_26 =>
ldI h_16 (a_25.add 5) .i64 fun x_27 =>
ldI h_16 (a_26.add 6) .i64 fun x_28 =>
bindI (IntKind.u64.wrap x_28) fun z_29 =>
needs (0 ≤ z_29) <|
bindI (shlI .i64 x_27 z_29) fun z_30 =>
bindI (bitI .and .i64 z_30 (4294967295 : Int)) fun z_31 =>
ptr a0 fun a_32 =>
stV h_16 (a_32.add 5) (.int .i64 z_31) fun h_33 =>
C F_burinref4_Coder_out #[.pointer a0] h_33 (fun v_34 h_35 =>
ptr a0 fun a_36 =>
ptr a0 fun a_37 =>
ldI h_35 (a_36.add 5) .i64 fun x_38 =>
ldI h_35 (a_37.add 6) .i64 fun x_39 =>
bindI (IntKind.u64.wrap x_39) fun z_40 =>
needs (0 ≤ z_40) <|
bindI (shlI .i64 x_38 z_40) fun z_41 =>
bindI (bitI .and .i64 z_41 (4294967295 : Int)) fun z_42 =>
ptr a0 fun a_43 =>
stV h_35 (a_43.add 5) (.int .i64 z_42) fun h_44 =>
C F_burinref4_Coder_out #[.pointer a0] h_44 (fun v_45 h_46 =>
ptr a0 fun a_47 =>
ldS h_46 (a_47.add 7) fun x_48 x_48n x_48c =>
∃ K_49 : List Value → Heap → Prop, (
ptr a0 fun a_52 =>
ldS h_46 (a_52.add 7) fun x_53 x_53n x_53c =>
bindI (IntKind.i64.wrap ((x_48n : Int) - (1 : Int))) fun z_54 =>
needs (0 ≤ z_54 ∧ z_54 < (x_53n : Int)) <|
ptr x_53 fun a_55 =>
ldI h_46 (a_55.add (z_54.toNat * 1)) .u8 fun x_56 =>
bcase (x_56 == (255 : Int)) (
bindI (IntKind.i64.wrap ((x_48n : Int) - (1 : Int))) fun z_57 =>
K_49 [.int .i64 z_57] h_46) <|
K_49 [.int .i64 (x_48n : Int)] h_46) ∧ ∀ (h_50 : Heap) (u_51 : Nat → Value) (x_58 : Int), K_49 [.int .i64 x_58] h_50 → (
ptr a0 fun a_59 =>
ldS h_50 (a_59.add 7) fun x_60 x_60n x_60c =>
needs (0 ≤ x_58 ∧ x_58 ≤ ((x_60c : Nat) : Int)) <|
needs (0 ≤ (1 : Int) ∧ (1 : Int) ≤ ((x_58.toNat : Nat) : Int)) <|
appC h_50 T_uint8 1 1 [.int .u8 0] none (0) (0) (subA x_60 (x_60c) ((1 : Int).toNat) 1) ((x_58.toNat - (1 : Int).toNat)) fun q_61 q_61n q_61c h_62 =>
K (.tuple #[.slice q_61 q_61n q_61c, .int .i64 0]) h_62)) (Kp)) (Kp))

/- burin/burinref4.NewDecoder -/
set_option maxRecDepth 100000 in
def burinref4_NewDecoder (C : CallP) (b : Option Addr) (bn : Nat) (bc : Nat) (contexts : Int) (h : Heap) (K : Value → Heap → Prop) (Kp : List PanicEntry → Heap → Prop) : Prop :=
C F_burinref4_begun #[.int .i64 contexts] h (fun v_1 h_2 =>
∃ (r_3 : Option Addr) (r_3n : Nat) (r_3c : Nat) (r_4 : Option Addr) (r_4n : Nat) (r_4c : Nat) (r_5 : Option Addr) (r_5n : Nat) (r_5c : Nat) (r_6 : Int), v_1 = .agg #[.slice r_3 r_3n r_3c, .slice r_4 r_4n r_4c, .slice r_5 r_5n r_5c, .int .i64 r_6] ∧ (
appC h_2 T_uint8 1 1 [.int .u8 0] none (0) (0) b (bn) fun q_7 q_7n q_7c h_8 =>
newC h_8 [.slice r_3 r_3n r_3c, .slice r_4 r_4n r_4c, .slice r_5 r_5n r_5c, .int .i64 r_6, .int .i64 32768, .int .i64 0, .int .i64 0, .slice q_7 q_7n q_7c, .int .i64 0] T_burinref4_Decoder fun r_9 h_10 =>
C F_burinref4_Decoder_byte #[.pointer (some ⟨r_9, 0, none⟩), .int .i64 0] h_10 (fun v_11 h_12 =>
∃ (r_13 : Int), v_11 = .int .i64 r_13 ∧ (
bindI (shlI .i64 r_13 (16 : Int)) fun z_14 =>
stV h_12 ((⟨r_9, 0, none⟩ : Addr).add 5) (.int .i64 z_14) fun h_15 =>
C F_burinref4_Decoder_in #[.pointer (some ⟨r_9, 0, none⟩)] h_15 (fun v_16 h_17 =>
ldI h_17 ((⟨r_9, 0, none⟩ : Addr).add 5) .i64 fun x_18 =>
bindI (shlI .i64 x_18 (7 : Int)) fun z_19 =>
bindI (bitI .and .i64 z_19 (4294967295 : Int)) fun z_20 =>
stV h_17 ((⟨r_9, 0, none⟩ : Addr).add 5) (.int .i64 z_20) fun h_21 =>
ldI h_21 ((⟨r_9, 0, none⟩ : Addr).add 6) .i64 fun x_22 =>
bindI (IntKind.i64.wrap (x_22 - (7 : Int))) fun z_23 =>
stV h_21 ((⟨r_9, 0, none⟩ : Addr).add 6) (.int .i64 z_23) fun h_24 =>
K (.pointer (some ⟨r_9, 0, none⟩)) h_24) (Kp))) (Kp))) (Kp)

/- (*burin/burinref4.Decoder).Get -/
set_option maxRecDepth 100000 in
def burinref4_Decoder_Get (C : CallP) (a0 : Option Addr) (a1 : Int) (h : Heap) (K : Value → Heap → Prop) (Kp : List PanicEntry → Heap → Prop) : Prop :=
ptr a0 fun a_1 =>
ldI h ((a_1.add 0).add 3) .i64 fun x_2 =>
bcase (x_2 == (16777216 : Int)) (
K (.tuple #[.int .i64 0, .int .i64 41]) h) <|
ptr a0 fun a_3 =>
ldI h ((a_3.add 0).add 3) .i64 fun x_4 =>
bindI (IntKind.i64.wrap (x_4 + (1 : Int))) fun z_5 =>
ptr a0 fun a_6 =>
stV h ((a_6.add 0).add 3) (.int .i64 z_5) fun h_7 =>
ptr a0 fun a_8 =>
C F_burinref4_side_Index #[.pointer (some (a_8.add 0)), .int .i64 a1] h_7 (fun v_9 h_10 =>
∃ (r_11 : Int), v_9 = .int .i64 r_11 ∧ (
ptr a0 fun a_12 =>
ptr a0 fun a_13 =>
ldS h_10 ((a_12.add 0).add 0) fun x_14 x_14n x_14c =>
ldS h_10 ((a_13.add 0).add 1) fun x_15 x_15n x_15c =>
needs (0 ≤ r_11 ∧ r_11 < (x_15n : Int)) <|
ptr x_15 fun a_16 =>
ldI h_10 (a_16.add (r_11.toNat * 1)) .i64 fun x_17 =>
needs (0 ≤ x_17 ∧ x_17 < (x_14n : Int)) <|
ptr x_14 fun a_18 =>
ldI h_10 ((a_18.add (x_17.toNat * 4)).add 0) .i64 fun x_19 =>
ptr a0 fun a_20 =>
ldS h_10 ((a_20.add 0).add 2) fun x_21 x_21n x_21c =>
needs (0 ≤ r_11 ∧ r_11 < (x_21n : Int)) <|
ptr x_21 fun a_22 =>
ldI h_10 (a_22.add (r_11.toNat * 1)) .i64 fun x_23 =>
ptr a0 fun a_24 =>
ldI h_10 (a_24.add 4) .i64 fun x_25 =>
bindI (IntKind.i64.wrap (x_25 - x_19)) fun z_26 =>
ptr a0 fun a_27 =>
stV h_10 (a_27.add 4) (.int .i64 z_26) fun h_28 =>
ptr a0 fun a_29 =>
ldI h_28 (a_29.add 5) .i64 fun x_30 =>
bindI (shrI .i64 x_30 (16 : Int)) fun z_31 =>
bcase (decide (z_31 < x_19)) (
∃ K_32 : List Value → Heap → Prop, (
ptr a0 fun a_35 =>
ldI h_28 (a_35.add 4) .i64 fun x_36 =>
bcase (decide (x_36 < x_19)) (
ptr a0 fun a_37 =>
C F_burinref4_side_likely #[.pointer (some (a_37.add 0)), .int .i64 r_11] h_28 (fun v_38 h_39 =>
K_32 [.int .i64 x_23] h_39) (Kp)) <|
bindI (IntKind.i64.wrap ((1 : Int) - x_23)) fun z_40 =>
ptr a0 fun a_41 =>
C F_burinref4_side_other #[.pointer (some (a_41.add 0)), .int .i64 r_11] h_28 (fun v_42 h_43 =>
K_32 [.int .i64 z_40] h_43) (Kp)) ∧ ∀ (h_33 : Heap) (u_34 : Nat → Value) (x_44 : Int), K_32 [.int .i64 x_44] h_33 → (
ptr a0 fun a_45 =>
stV h_33 (a_45.add 4) (.int .i64 x_19) fun h_46 =>
C F_burinref4_Decoder_renew #[.pointer a0] h_46 (fun v_47 h_48 =>
K (.tuple #[.int .i64 x_44, .int .i64 0]) h_48) (Kp))) <|
ptr a0 fun a_49 =>
ldI h_28 (a_49.add 5) .i64 fun x_50 =>
bindI (shlI .i64 x_19 (16 : Int)) fun z_51 =>
bindI (IntKind.i64.wrap (x_50 - z_51)) fun z_52 =>
ptr a0 fun a_53 =>
stV h_28 (a_53.add 5) (.int .i64 z_52) fun h_54 =>
ptr a0 fun a_55 =>
ldI h_54 (a_55.add 4) .i64 fun x_56 =>
bcase (decide (x_56 ≥ (32768 : Int))) (
K (.tuple #[.int .i64 x_23, .int .i64 0]) h_54) <|
ptr a0 fun a_57 =>
ldI h_54 (a_57.add 4) .i64 fun x_58 =>
bcase (decide (x_58 < x_19)) (
bindI (IntKind.i64.wrap ((1 : Int) - x_23)) fun z_59 =>
ptr a0 fun a_60 =>
C F_burinref4_side_other #[.pointer (some (a_60.add 0)), .int .i64 r_11] h_54 (fun v_61 h_62 =>
C F_burinref4_Decoder_renew #[.pointer a0] h_62 (fun v_63 h_64 =>
K (.tuple #[.int .i64 z_59, .int .i64 0]) h_64) (Kp)) (Kp)) <|
ptr a0 fun a_65 =>
C F_burinref4_side_likely #[.pointer (some (a_65.add 0)), .int .i64 r_11] h_54 (fun v_66 h_67 =>
C F_burinref4_Decoder_renew #[.pointer a0] h_67 (fun v_68 h_69 =>
K (.tuple #[.int .i64 x_23, .int .i64 0]) h_69) (Kp)) (Kp))) (Kp)

/- burin/burinref4.begun -/
set_option maxRecDepth 100000 in
def burinref4_begun (C : CallP) (contexts : Int) (h : Heap) (K : Value → Heap → Prop) (Kp : List PanicEntry → Heap → Prop) : Prop :=
newC h [.slice none 0 0, .slice none 0 0, .slice none 0 0, .int .i64 0] T_burinref4_side fun r_1 h_2 =>
(
C F_burinref4_table #[] h_2 (fun v_3 h_4 =>
∃ (r_5 : Option Addr) (r_5n : Nat) (r_5c : Nat), v_3 = .slice r_5 r_5n r_5c ∧ (
hext h_2 h_4 ∧ (
(
needs (0 ≤ contexts ∧ contexts ≤ contexts ∧ contexts ≤ 9223372036854775807 ∧ ((8 : Nat) : Int) * contexts ≤ 281474976710656) <|
newC h_4 (repZ [.int .i64 0] contexts.toNat) T_int fun r_6 h_7 =>
needs (0 ≤ contexts ∧ contexts ≤ contexts ∧ contexts ≤ 9223372036854775807 ∧ ((8 : Nat) : Int) * contexts ≤ 281474976710656) <|
newC h_7 (repZ [.int .i64 0] contexts.toNat) T_int fun r_8 h_9 =>
stV h_9 ((⟨r_1, 0, none⟩ : Addr).add 0) (.slice r_5 r_5n r_5c) fun h_10 =>
stV h_10 ((⟨r_1, 0, none⟩ : Addr).add 1) (.slice (some ⟨r_6, 0, none⟩) contexts.toNat contexts.toNat) fun h_11 =>
stV h_11 ((⟨r_1, 0, none⟩ : Addr).add 2) (.slice (some ⟨r_8, 0, none⟩) contexts.toNat contexts.toNat) fun h_12 =>
stV h_12 ((⟨r_1, 0, none⟩ : Addr).add 3) (.int .i64 0) fun h_13 =>
ldS h_13 ((⟨r_1, 0, none⟩ : Addr).add 0) fun r_14 r_14n r_14c =>
ldS h_13 ((⟨r_1, 0, none⟩ : Addr).add 1) fun r_15 r_15n r_15c =>
ldS h_13 ((⟨r_1, 0, none⟩ : Addr).add 2) fun r_16 r_16n r_16c =>
ldI h_13 ((⟨r_1, 0, none⟩ : Addr).add 3) .i64 fun r_17 =>
K (.agg #[.slice r_14 r_14n r_14c, .slice r_15 r_15n r_15c, .slice r_16 r_16n r_16c, .int .i64 r_17]) h_13) ∧ (
needs (0 ≤ contexts ∧ contexts ≤ contexts ∧ contexts ≤ 9223372036854775807 ∧ ((8 : Nat) : Int) * contexts ≤ 281474976710656) <|
newC h_4 (repZ [.int .i64 0] contexts.toNat) T_int fun r_18 h_19 =>
needs (0 ≤ contexts ∧ contexts ≤ contexts ∧ contexts ≤ 9223372036854775807 ∧ ((8 : Nat) : Int) * contexts ≤ 281474976710656) <|
newC h_19 (repZ [.int .i64 0] contexts.toNat) T_int fun r_20 h_21 =>
stV h_21 ((⟨r_1, 0, none⟩ : Addr).add 0) (.slice r_5 r_5n r_5c) fun h_22 =>
stV h_22 ((⟨r_1, 0, none⟩ : Addr).add 1) (.slice (some ⟨r_20, 0, none⟩) contexts.toNat contexts.toNat) fun h_23 =>
stV h_23 ((⟨r_1, 0, none⟩ : Addr).add 2) (.slice (some ⟨r_18, 0, none⟩) contexts.toNat contexts.toNat) fun h_24 =>
stV h_24 ((⟨r_1, 0, none⟩ : Addr).add 3) (.int .i64 0) fun h_25 =>
ldS h_25 ((⟨r_1, 0, none⟩ : Addr).add 0) fun r_26 r_26n r_26c =>
ldS h_25 ((⟨r_1, 0, none⟩ : Addr).add 1) fun r_27 r_27n r_27c =>
ldS h_25 ((⟨r_1, 0, none⟩ : Addr).add 2) fun r_28 r_28n r_28c =>
ldI h_25 ((⟨r_1, 0, none⟩ : Addr).add 3) .i64 fun r_29 =>
K (.agg #[.slice r_26 r_26n r_26c, .slice r_27 r_27n r_27c, .slice r_28 r_28n r_28c, .int .i64 r_29]) h_25)))) (Kp)) ∧ (
(
needs (0 ≤ contexts ∧ contexts ≤ contexts ∧ contexts ≤ 9223372036854775807 ∧ ((8 : Nat) : Int) * contexts ≤ 281474976710656) <|
newC h_2 (repZ [.int .i64 0] contexts.toNat) T_int fun r_30 h_31 =>
(
C F_burinref4_table #[] h_31 (fun v_32 h_33 =>
∃ (r_34 : Option Addr) (r_34n : Nat) (r_34c : Nat), v_32 = .slice r_34 r_34n r_34c ∧ (
hext h_31 h_33 ∧ (
needs (0 ≤ contexts ∧ contexts ≤ contexts ∧ contexts ≤ 9223372036854775807 ∧ ((8 : Nat) : Int) * contexts ≤ 281474976710656) <|
newC h_33 (repZ [.int .i64 0] contexts.toNat) T_int fun r_35 h_36 =>
stV h_36 ((⟨r_1, 0, none⟩ : Addr).add 0) (.slice r_34 r_34n r_34c) fun h_37 =>
stV h_37 ((⟨r_1, 0, none⟩ : Addr).add 1) (.slice (some ⟨r_30, 0, none⟩) contexts.toNat contexts.toNat) fun h_38 =>
stV h_38 ((⟨r_1, 0, none⟩ : Addr).add 2) (.slice (some ⟨r_35, 0, none⟩) contexts.toNat contexts.toNat) fun h_39 =>
stV h_39 ((⟨r_1, 0, none⟩ : Addr).add 3) (.int .i64 0) fun h_40 =>
ldS h_40 ((⟨r_1, 0, none⟩ : Addr).add 0) fun r_41 r_41n r_41c =>
ldS h_40 ((⟨r_1, 0, none⟩ : Addr).add 1) fun r_42 r_42n r_42c =>
ldS h_40 ((⟨r_1, 0, none⟩ : Addr).add 2) fun r_43 r_43n r_43c =>
ldI h_40 ((⟨r_1, 0, none⟩ : Addr).add 3) .i64 fun r_44 =>
K (.agg #[.slice r_41 r_41n r_41c, .slice r_42 r_42n r_42c, .slice r_43 r_43n r_43c, .int .i64 r_44]) h_40))) (Kp)) ∧ (
needs (0 ≤ contexts ∧ contexts ≤ contexts ∧ contexts ≤ 9223372036854775807 ∧ ((8 : Nat) : Int) * contexts ≤ 281474976710656) <|
newC h_31 (repZ [.int .i64 0] contexts.toNat) T_int fun r_45 h_46 =>
C F_burinref4_table #[] h_46 (fun v_47 h_48 =>
∃ (r_49 : Option Addr) (r_49n : Nat) (r_49c : Nat), v_47 = .slice r_49 r_49n r_49c ∧ (
hext h_46 h_48 ∧ (
stV h_48 ((⟨r_1, 0, none⟩ : Addr).add 0) (.slice r_49 r_49n r_49c) fun h_50 =>
stV h_50 ((⟨r_1, 0, none⟩ : Addr).add 1) (.slice (some ⟨r_30, 0, none⟩) contexts.toNat contexts.toNat) fun h_51 =>
stV h_51 ((⟨r_1, 0, none⟩ : Addr).add 2) (.slice (some ⟨r_45, 0, none⟩) contexts.toNat contexts.toNat) fun h_52 =>
stV h_52 ((⟨r_1, 0, none⟩ : Addr).add 3) (.int .i64 0) fun h_53 =>
ldS h_53 ((⟨r_1, 0, none⟩ : Addr).add 0) fun r_54 r_54n r_54c =>
ldS h_53 ((⟨r_1, 0, none⟩ : Addr).add 1) fun r_55 r_55n r_55c =>
ldS h_53 ((⟨r_1, 0, none⟩ : Addr).add 2) fun r_56 r_56n r_56c =>
ldI h_53 ((⟨r_1, 0, none⟩ : Addr).add 3) .i64 fun r_57 =>
K (.agg #[.slice r_54 r_54n r_54c, .slice r_55 r_55n r_55c, .slice r_56 r_56n r_56c, .int .i64 r_57]) h_53))) (Kp))) ∧ (
needs (0 ≤ contexts ∧ contexts ≤ contexts ∧ contexts ≤ 9223372036854775807 ∧ ((8 : Nat) : Int) * contexts ≤ 281474976710656) <|
newC h_2 (repZ [.int .i64 0] contexts.toNat) T_int fun r_58 h_59 =>
(
C F_burinref4_table #[] h_59 (fun v_60 h_61 =>
∃ (r_62 : Option Addr) (r_62n : Nat) (r_62c : Nat), v_60 = .slice r_62 r_62n r_62c ∧ (
hext h_59 h_61 ∧ (
needs (0 ≤ contexts ∧ contexts ≤ contexts ∧ contexts ≤ 9223372036854775807 ∧ ((8 : Nat) : Int) * contexts ≤ 281474976710656) <|
newC h_61 (repZ [.int .i64 0] contexts.toNat) T_int fun r_63 h_64 =>
stV h_64 ((⟨r_1, 0, none⟩ : Addr).add 0) (.slice r_62 r_62n r_62c) fun h_65 =>
stV h_65 ((⟨r_1, 0, none⟩ : Addr).add 1) (.slice (some ⟨r_63, 0, none⟩) contexts.toNat contexts.toNat) fun h_66 =>
stV h_66 ((⟨r_1, 0, none⟩ : Addr).add 2) (.slice (some ⟨r_58, 0, none⟩) contexts.toNat contexts.toNat) fun h_67 =>
stV h_67 ((⟨r_1, 0, none⟩ : Addr).add 3) (.int .i64 0) fun h_68 =>
ldS h_68 ((⟨r_1, 0, none⟩ : Addr).add 0) fun r_69 r_69n r_69c =>
ldS h_68 ((⟨r_1, 0, none⟩ : Addr).add 1) fun r_70 r_70n r_70c =>
ldS h_68 ((⟨r_1, 0, none⟩ : Addr).add 2) fun r_71 r_71n r_71c =>
ldI h_68 ((⟨r_1, 0, none⟩ : Addr).add 3) .i64 fun r_72 =>
K (.agg #[.slice r_69 r_69n r_69c, .slice r_70 r_70n r_70c, .slice r_71 r_71n r_71c, .int .i64 r_72]) h_68))) (Kp)) ∧ (
needs (0 ≤ contexts ∧ contexts ≤ contexts ∧ contexts ≤ 9223372036854775807 ∧ ((8 : Nat) : Int) * contexts ≤ 281474976710656) <|
newC h_59 (repZ [.int .i64 0] contexts.toNat) T_int fun r_73 h_74 =>
C F_burinref4_table #[] h_74 (fun v_75 h_76 =>
∃ (r_77 : Option Addr) (r_77n : Nat) (r_77c : Nat), v_75 = .slice r_77 r_77n r_77c ∧ (
hext h_74 h_76 ∧ (
stV h_76 ((⟨r_1, 0, none⟩ : Addr).add 0) (.slice r_77 r_77n r_77c) fun h_78 =>
stV h_78 ((⟨r_1, 0, none⟩ : Addr).add 1) (.slice (some ⟨r_73, 0, none⟩) contexts.toNat contexts.toNat) fun h_79 =>
stV h_79 ((⟨r_1, 0, none⟩ : Addr).add 2) (.slice (some ⟨r_58, 0, none⟩) contexts.toNat contexts.toNat) fun h_80 =>
stV h_80 ((⟨r_1, 0, none⟩ : Addr).add 3) (.int .i64 0) fun h_81 =>
ldS h_81 ((⟨r_1, 0, none⟩ : Addr).add 0) fun r_82 r_82n r_82c =>
ldS h_81 ((⟨r_1, 0, none⟩ : Addr).add 1) fun r_83 r_83n r_83c =>
ldS h_81 ((⟨r_1, 0, none⟩ : Addr).add 2) fun r_84 r_84n r_84c =>
ldI h_81 ((⟨r_1, 0, none⟩ : Addr).add 3) .i64 fun r_85 =>
K (.agg #[.slice r_82 r_82n r_82c, .slice r_83 r_83n r_83c, .slice r_84 r_84n r_84c, .int .i64 r_85]) h_81))) (Kp))))

/- (*burin/burinref4.side).Index -/
set_option maxRecDepth 100000 in
def burinref4_side_Index (C : CallP) (s : Option Addr) (context : Int) (h : Heap) (K : Value → Heap → Prop) (Kp : List PanicEntry → Heap → Prop) : Prop :=
ptr s fun a_1 =>
ldS h (a_1.add 1) fun x_2 x_2n x_2c =>
needs (IntKind.i64 = IntKind.i64 ∧ (x_2n : Int) ≠ 0) <|
bindI (context.tmod (x_2n : Int)) fun z_3 =>
bcase (decide (z_3 < (0 : Int))) (
ptr s fun a_4 =>
ldS h (a_4.add 1) fun x_5 x_5n x_5c =>
bindI (IntKind.i64.wrap (z_3 + (x_5n : Int))) fun z_6 =>
K (.int .i64 z_6) h) <|
K (.int .i64 z_3) h

/- (*burin/burinref4.side).likely -/
set_option maxRecDepth 100000 in
def burinref4_side_likely (C : CallP) (s : Option Addr) (k : Int) (h : Heap) (K : Value → Heap → Prop) (Kp : List PanicEntry → Heap → Prop) : Prop :=
ptr s fun a_1 =>
ptr s fun a_2 =>
ptr s fun a_3 =>
ldS h (a_1.add 1) fun x_4 x_4n x_4c =>
ldS h (a_2.add 0) fun x_5 x_5n x_5c =>
ldS h (a_3.add 1) fun x_6 x_6n x_6c =>
needs (0 ≤ k ∧ k < (x_6n : Int)) <|
ptr x_6 fun a_7 =>
ldI h (a_7.add (k.toNat * 1)) .i64 fun x_8 =>
needs (0 ≤ x_8 ∧ x_8 < (x_5n : Int)) <|
ptr x_5 fun a_9 =>
ldI h ((a_9.add (x_8.toNat * 4)).add 1) .i64 fun x_10 =>
needs (0 ≤ k ∧ k < (x_4n : Int)) <|
ptr x_4 fun a_11 =>
stV h (a_11.add (k.toNat * 1)) (.int .i64 x_10) fun h_12 =>
K (.tuple #[]) h_12

/- (*burin/burinref4.side).other -/
set_option maxRecDepth 100000 in
def burinref4_side_other (C : CallP) (s : Option Addr) (k : Int) (h : Heap) (K : Value → Heap → Prop) (Kp : List PanicEntry → Heap → Prop) : Prop :=
ptr s fun a_1 =>
ptr s fun a_2 =>
ldS h (a_1.add 0) fun x_3 x_3n x_3c =>
ldS h (a_2.add 1) fun x_4 x_4n x_4c =>
needs (0 ≤ k ∧ k < (x_4n : Int)) <|
ptr x_4 fun a_5 =>
ldI h (a_5.add (k.toNat * 1)) .i64 fun x_6 =>
needs (0 ≤ x_6 ∧ x_6 < (x_3n : Int)) <|
ptr x_3 fun a_7 =>
ldI h ((a_7.add (x_6.toNat * 4)).add 0) .i64 fun x_8 =>
ldI h ((a_7.add (x_6.toNat * 4)).add 1) .i64 fun x_9 =>
ldI h ((a_7.add (x_6.toNat * 4)).add 2) .i64 fun x_10 =>
ldB h ((a_7.add (x_6.toNat * 4)).add 3) fun x_11 =>
newC h [.int .i64 0, .int .i64 0, .int .i64 0, .bool false] T_burinref4_Row fun r_12 h_13 =>
stV h_13 ((⟨r_12, 0, none⟩ : Addr).add 0) (.int .i64 x_8) fun h_14 =>
stV h_14 ((⟨r_12, 0, none⟩ : Addr).add 1) (.int .i64 x_9) fun h_15 =>
stV h_15 ((⟨r_12, 0, none⟩ : Addr).add 2) (.int .i64 x_10) fun h_16 =>
stV h_16 ((⟨r_12, 0, none⟩ : Addr).add 3) (.bool x_11) fun h_17 =>
ldB h_17 ((⟨r_12, 0, none⟩ : Addr).add 3) fun x_18 =>
bcase x_18 (
ptr s fun a_19 =>
ptr s fun a_20 =>
ldS h_17 (a_19.add 2) fun x_21 x_21n x_21c =>
ldS h_17 (a_20.add 2) fun x_22 x_22n x_22c =>
needs (0 ≤ k ∧ k < (x_22n : Int)) <|
ptr x_22 fun a_23 =>
ldI h_17 (a_23.add (k.toNat * 1)) .i64 fun x_24 =>
bindI (IntKind.i64.wrap ((1 : Int) - x_24)) fun z_25 =>
needs (0 ≤ k ∧ k < (x_21n : Int)) <|
ptr x_21 fun a_26 =>
stV h_17 (a_26.add (k.toNat * 1)) (.int .i64 z_25) fun h_27 =>
ptr s fun a_28 =>
ldS h_27 (a_28.add 1) fun x_29 x_29n x_29c =>
ldI h_27 ((⟨r_12, 0, none⟩ : Addr).add 2) .i64 fun x_30 =>
needs (0 ≤ k ∧ k < (x_29n : Int)) <|
ptr x_29 fun a_31 =>
stV h_27 (a_31.add (k.toNat * 1)) (.int .i64 x_30) fun h_32 =>
K (.tuple #[]) h_32) <|
ptr s fun a_33 =>
ldS h_17 (a_33.add 1) fun x_34 x_34n x_34c =>
ldI h_17 ((⟨r_12, 0, none⟩ : Addr).add 2) .i64 fun x_35 =>
needs (0 ≤ k ∧ k < (x_34n : Int)) <|
ptr x_34 fun a_36 =>
stV h_17 (a_36.add (k.toNat * 1)) (.int .i64 x_35) fun h_37 =>
K (.tuple #[]) h_37

/- (*burin/burinref4.Coder).renew -/
set_option maxRecDepth 100000 in
def burinref4_Coder_renew (C : CallP) (c : Option Addr) (h : Heap) (K : Value → Heap → Prop) (Kp : List PanicEntry → Heap → Prop) : Prop :=
∃ J_1 : Nat → List Value → Heap → Prop, (∃ n_3, J_1 n_3 [.bool true] h) ∧ ∀ (n_3 : Nat) (h_4 : Heap) (u_5 : Nat → Value) (first_6 : Bool), J_1 n_3 [.bool first_6] h_4 → (
∃ K_7 : List Value → Heap → Prop, (
bcase first_6 (
K_7 [] h_4) <|
ptr c fun a_10 =>
ldI h_4 (a_10.add 4) .i64 fun x_11 =>
bcase (decide (x_11 < (32768 : Int))) (
K_7 [] h_4) <|
K (.tuple #[]) h_4) ∧ ∀ (h_8 : Heap) (u_9 : Nat → Value) , K_7 [] h_8 → (
ptr c fun a_12 =>
ldI h_8 (a_12.add 4) .i64 fun x_13 =>
bindI (IntKind.i64.wrap ((2 : Int) * x_13)) fun z_14 =>
ptr c fun a_15 =>
stV h_8 (a_15.add 4) (.int .i64 z_14) fun h_16 =>
ptr c fun a_17 =>
ldI h_16 (a_17.add 5) .i64 fun x_18 =>
bindI (IntKind.i64.wrap ((2 : Int) * x_18)) fun z_19 =>
bindI (bitI .and .i64 z_19 (4294967295 : Int)) fun z_20 =>
ptr c fun a_21 =>
stV h_16 (a_21.add 5) (.int .i64 z_20) fun h_22 =>
ptr c fun a_23 =>
ldI h_22 (a_23.add 6) .i64 fun x_24 =>
bindI (IntKind.i64.wrap (x_24 - (1 : Int))) fun z_25 =>
ptr c fun a_26 =>
stV h_22 (a_26.add 6) (.int .i64 z_25) fun h_27 =>
ptr c fun a_28 =>
ldI h_27 (a_28.add 6) .i64 fun x_29 =>
bcase (x_29 == (0 : Int)) (
C F_burinref4_Coder_out #[.pointer c] h_27 (fun v_30 h_31 =>
∃ m_2, m_2 < n_3 ∧ J_1 m_2 [.bool false] h_31) (Kp)) <|
∃ m_2, m_2 < n_3 ∧ J_1 m_2 [.bool false] h_27))

/- (*burin/burinref4.Coder).out -/
set_option maxRecDepth 100000 in
def burinref4_Coder_out (C : CallP) (a0 : Option Addr) (h : Heap) (K : Value → Heap → Prop) (Kp : List PanicEntry → Heap → Prop) : Prop :=
ptr a0 fun a_1 =>
ldS h (a_1.add 7) fun x_2 x_2n x_2c =>
bindI (IntKind.i64.wrap ((x_2n : Int) - (1 : Int))) fun z_3 =>
ptr a0 fun a_4 =>
ldS h (a_4.add 7) fun x_5 x_5n x_5c =>
needs (0 ≤ z_3 ∧ z_3 < (x_5n : Int)) <|
ptr x_5 fun a_6 =>
ldI h (a_6.add (z_3.toNat * 1)) .u8 fun x_7 =>
∃ K_8 : List Value → Heap → Prop, (
∃ K_11 : List Value → Heap → Prop, (
bcase (!(x_7 == (255 : Int))) (
ptr a0 fun a_14 =>
ldI h (a_14.add 5) .i64 fun x_15 =>
K_11 [.bool (decide (x_15 ≥ (134217728 : Int)))] h) <|
K_11 [.bool false] h) ∧ ∀ (h_12 : Heap) (u_13 : Nat → Value) (x_16 : Bool), K_11 [.bool x_16] h_12 → (
bcase x_16 (
ptr a0 fun a_17 =>
ldS h_12 (a_17.add 7) fun x_18 x_18n x_18c =>
needs (0 ≤ z_3 ∧ z_3 < (x_18n : Int)) <|
ptr x_18 fun a_19 =>
ldI h_12 (a_19.add (z_3.toNat * 1)) .u8 fun x_20 =>
bindI (IntKind.u8.wrap (x_20 + (1 : Int))) fun z_21 =>
needs (0 ≤ z_3 ∧ z_3 < (x_18n : Int)) <|
ptr x_18 fun a_22 =>
stV h_12 (a_22.add (z_3.toNat * 1)) (.int .u8 z_21) fun h_23 =>
ptr a0 fun a_24 =>
ldI h_23 (a_24.add 5) .i64 fun x_25 =>
bindI (bitI .and .i64 x_25 (134217727 : Int)) fun z_26 =>
ptr a0 fun a_27 =>
stV h_23 (a_27.add 5) (.int .i64 z_26) fun h_28 =>
ptr a0 fun a_29 =>
ldS h_28 (a_29.add 7) fun x_30 x_30n x_30c =>
needs (0 ≤ z_3 ∧ z_3 < (x_30n : Int)) <|
ptr x_30 fun a_31 =>
ldI h_28 (a_31.add (z_3.toNat * 1)) .u8 fun x_32 =>
K_8 [.bool (x_32 == (255 : Int))] h_28) <|
K_8 [.bool (x_7 == (255 : Int))] h_12)) ∧ ∀ (h_9 : Heap) (u_10 : Nat → Value) (x_33 : Bool), K_8 [.bool x_33] h_9 → (
bcase x_33 (
ptr a0 fun a_34 =>
ptr a0 fun a_35 =>
ldS h_9 (a_34.add 7) fun x_36 x_36n x_36c =>
ldI h_9 (a_35.add 5) .i64 fun x_37 =>
bindI (shrI .i64 x_37 (20 : Int)) fun z_38 =>
bindI (IntKind.u8.wrap z_38) fun z_39 =>
newC h_9 [.int .u8 z_39] T_uint8 fun r_40 h_41 =>
appC h_41 T_uint8 1 1 [.int .u8 0] x_36 (x_36n) (x_36c) (some ⟨r_40, 0, none⟩) (1) fun q_42 q_42n q_42c h_43 =>
ptr a0 fun a_44 =>
stV h_43 (a_44.add 7) (.slice q_42 q_42n q_42c) fun h_45 =>
ptr a0 fun a_46 =>
ldI h_45 (a_46.add 5) .i64 fun x_47 =>
bindI (bitI .and .i64 x_47 (1048575 : Int)) fun z_48 =>
ptr a0 fun a_49 =>
stV h_45 (a_49.add 5) (.int .i64 z_48) fun h_50 =>
ptr a0 fun a_51 =>
stV h_50 (a_51.add 6) (.int .i64 7) fun h_52 =>
K (.tuple #[]) h_52) <|
ptr a0 fun a_53 =>
ptr a0 fun a_54 =>
ldS h_9 (a_53.add 7) fun x_55 x_55n x_55c =>
ldI h_9 (a_54.add 5) .i64 fun x_56 =>
bindI (shrI .i64 x_56 (19 : Int)) fun z_57 =>
bindI (IntKind.u8.wrap z_57) fun z_58 =>
newC h_9 [.int .u8 z_58] T_uint8 fun r_59 h_60 =>
appC h_60 T_uint8 1 1 [.int .u8 0] x_55 (x_55n) (x_55c) (some ⟨r_59, 0, none⟩) (1) fun q_61 q_61n q_61c h_62 =>
ptr a0 fun a_63 =>
stV h_62 (a_63.add 7) (.slice q_61 q_61n q_61c) fun h_64 =>
ptr a0 fun a_65 =>
ldI h_64 (a_65.add 5) .i64 fun x_66 =>
bindI (bitI .and .i64 x_66 (524287 : Int)) fun z_67 =>
ptr a0 fun a_68 =>
stV h_64 (a_68.add 5) (.int .i64 z_67) fun h_69 =>
ptr a0 fun a_70 =>
stV h_69 (a_70.add 6) (.int .i64 8) fun h_71 =>
K (.tuple #[]) h_71)

/- (*burin/burinref4.Decoder).byte -/
set_option maxRecDepth 100000 in
def burinref4_Decoder_byte (C : CallP) (d : Option Addr) (atv : Int) (h : Heap) (K : Value → Heap → Prop) (Kp : List PanicEntry → Heap → Prop) : Prop :=
ptr d fun a_1 =>
ldS h (a_1.add 7) fun x_2 x_2n x_2c =>
bcase (decide (atv < (x_2n : Int))) (
ptr d fun a_3 =>
ldS h (a_3.add 7) fun x_4 x_4n x_4c =>
needs (0 ≤ atv ∧ atv < (x_4n : Int)) <|
ptr x_4 fun a_5 =>
ldI h (a_5.add (atv.toNat * 1)) .u8 fun x_6 =>
bindI (IntKind.i64.wrap x_6) fun z_7 =>
K (.int .i64 z_7) h) <|
K (.int .i64 255) h

/- (*burin/burinref4.Decoder).in -/
set_option maxRecDepth 100000 in
def burinref4_Decoder_in (C : CallP) (a0 : Option Addr) (h : Heap) (K : Value → Heap → Prop) (Kp : List PanicEntry → Heap → Prop) : Prop :=
ptr a0 fun a_1 =>
ldI h (a_1.add 8) .i64 fun x_2 =>
C F_burinref4_Decoder_byte #[.pointer a0, .int .i64 x_2] h (fun v_3 h_4 =>
∃ (r_5 : Int), v_3 = .int .i64 r_5 ∧ (
bcase (r_5 == (255 : Int)) (
ptr a0 fun a_6 =>
ldI h_4 (a_6.add 8) .i64 fun x_7 =>
bindI (IntKind.i64.wrap (x_7 + (1 : Int))) fun z_8 =>
C F_burinref4_Decoder_byte #[.pointer a0, .int .i64 z_8] h_4 (fun v_9 h_10 =>
∃ (r_11 : Int), v_9 = .int .i64 r_11 ∧ (
bcase (decide (r_11 > (143 : Int))) (
ptr a0 fun a_12 =>
ldI h_10 (a_12.add 5) .i64 fun x_13 =>
bindI (IntKind.i64.wrap (x_13 + (65280 : Int))) fun z_14 =>
ptr a0 fun a_15 =>
stV h_10 (a_15.add 5) (.int .i64 z_14) fun h_16 =>
ptr a0 fun a_17 =>
stV h_16 (a_17.add 6) (.int .i64 8) fun h_18 =>
ptr a0 fun a_19 =>
ldI h_18 (a_19.add 5) .i64 fun x_20 =>
bindI (bitI .and .i64 x_20 (4294967295 : Int)) fun z_21 =>
ptr a0 fun a_22 =>
stV h_18 (a_22.add 5) (.int .i64 z_21) fun h_23 =>
K (.tuple #[]) h_23) <|
ptr a0 fun a_24 =>
ldI h_10 (a_24.add 8) .i64 fun x_25 =>
bindI (IntKind.i64.wrap (x_25 + (1 : Int))) fun z_26 =>
ptr a0 fun a_27 =>
stV h_10 (a_27.add 8) (.int .i64 z_26) fun h_28 =>
ptr a0 fun a_29 =>
ldI h_28 (a_29.add 5) .i64 fun x_30 =>
bindI (shlI .i64 r_11 (9 : Int)) fun z_31 =>
bindI (IntKind.i64.wrap (x_30 + z_31)) fun z_32 =>
ptr a0 fun a_33 =>
stV h_28 (a_33.add 5) (.int .i64 z_32) fun h_34 =>
ptr a0 fun a_35 =>
stV h_34 (a_35.add 6) (.int .i64 7) fun h_36 =>
ptr a0 fun a_37 =>
ldI h_36 (a_37.add 5) .i64 fun x_38 =>
bindI (bitI .and .i64 x_38 (4294967295 : Int)) fun z_39 =>
ptr a0 fun a_40 =>
stV h_36 (a_40.add 5) (.int .i64 z_39) fun h_41 =>
K (.tuple #[]) h_41)) (Kp)) <|
ptr a0 fun a_42 =>
ldI h_4 (a_42.add 8) .i64 fun x_43 =>
bindI (IntKind.i64.wrap (x_43 + (1 : Int))) fun z_44 =>
ptr a0 fun a_45 =>
stV h_4 (a_45.add 8) (.int .i64 z_44) fun h_46 =>
ptr a0 fun a_47 =>
ptr a0 fun a_48 =>
ldI h_46 (a_47.add 5) .i64 fun x_49 =>
ldI h_46 (a_48.add 8) .i64 fun x_50 =>
C F_burinref4_Decoder_byte #[.pointer a0, .int .i64 x_50] h_46 (fun v_51 h_52 =>
∃ (r_53 : Int), v_51 = .int .i64 r_53 ∧ (
hext h_46 h_52 ∧ (
bindI (shlI .i64 r_53 (8 : Int)) fun z_54 =>
bindI (IntKind.i64.wrap (x_49 + z_54)) fun z_55 =>
ptr a0 fun a_56 =>
stV h_52 (a_56.add 5) (.int .i64 z_55) fun h_57 =>
ptr a0 fun a_58 =>
stV h_57 (a_58.add 6) (.int .i64 8) fun h_59 =>
ptr a0 fun a_60 =>
ldI h_59 (a_60.add 5) .i64 fun x_61 =>
bindI (bitI .and .i64 x_61 (4294967295 : Int)) fun z_62 =>
ptr a0 fun a_63 =>
stV h_59 (a_63.add 5) (.int .i64 z_62) fun h_64 =>
K (.tuple #[]) h_64))) (Kp))) (Kp)

/- (*burin/burinref4.Decoder).renew -/
set_option maxRecDepth 100000 in
def burinref4_Decoder_renew (C : CallP) (d : Option Addr) (h : Heap) (K : Value → Heap → Prop) (Kp : List PanicEntry → Heap → Prop) : Prop :=
∃ J_1 : Nat → List Value → Heap → Prop, (∃ n_3, J_1 n_3 [.bool true] h) ∧ ∀ (n_3 : Nat) (h_4 : Heap) (u_5 : Nat → Value) (first_6 : Bool), J_1 n_3 [.bool first_6] h_4 → (
∃ K_7 : List Value → Heap → Prop, (
bcase first_6 (
K_7 [] h_4) <|
ptr d fun a_10 =>
ldI h_4 (a_10.add 4) .i64 fun x_11 =>
bcase (decide (x_11 < (32768 : Int))) (
K_7 [] h_4) <|
K (.tuple #[]) h_4) ∧ ∀ (h_8 : Heap) (u_9 : Nat → Value) , K_7 [] h_8 → (
∃ K_12 : List Value → Heap → Prop, (
ptr d fun a_15 =>
ldI h_8 (a_15.add 6) .i64 fun x_16 =>
bcase (x_16 == (0 : Int)) (
C F_burinref4_Decoder_in #[.pointer d] h_8 (fun v_17 h_18 =>
K_12 [] h_18) (Kp)) <|
K_12 [] h_8) ∧ ∀ (h_13 : Heap) (u_14 : Nat → Value) , K_12 [] h_13 → (
ptr d fun a_19 =>
ldI h_13 (a_19.add 4) .i64 fun x_20 =>
bindI (IntKind.i64.wrap ((2 : Int) * x_20)) fun z_21 =>
ptr d fun a_22 =>
stV h_13 (a_22.add 4) (.int .i64 z_21) fun h_23 =>
ptr d fun a_24 =>
ldI h_23 (a_24.add 5) .i64 fun x_25 =>
bindI (IntKind.i64.wrap ((2 : Int) * x_25)) fun z_26 =>
bindI (bitI .and .i64 z_26 (4294967295 : Int)) fun z_27 =>
ptr d fun a_28 =>
stV h_23 (a_28.add 5) (.int .i64 z_27) fun h_29 =>
ptr d fun a_30 =>
ldI h_29 (a_30.add 6) .i64 fun x_31 =>
bindI (IntKind.i64.wrap (x_31 - (1 : Int))) fun z_32 =>
ptr d fun a_33 =>
stV h_29 (a_33.add 6) (.int .i64 z_32) fun h_34 =>
∃ m_2, m_2 < n_3 ∧ J_1 m_2 [.bool false] h_34)))

/- burin/burinref4.table -/
set_option maxRecDepth 100000 in
def burinref4_table (C : CallP)  (h : Heap) (K : Value → Heap → Prop) (Kp : List PanicEntry → Heap → Prop) : Prop :=
∃ J_1 : Nat → List Value → Heap → Prop, (∃ n_3, J_1 n_3 [.slice none 0 0, .int .i64 0] h) ∧ ∀ (n_3 : Nat) (h_4 : Heap) (u_5 : Nat → Value) (t_6 : Option Addr) (t_6n : Nat) (t_6c : Nat) (i_7 : Int), J_1 n_3 [.slice t_6 t_6n t_6c, .int .i64 i_7] h_4 → (
bcase (decide (i_7 < (47 : Int))) (
C F_burinref4_row #[.int .i64 i_7] h_4 (fun v_8 h_9 =>
∃ (r_10 : Int) (r_11 : Int) (r_12 : Int) (r_13 : Bool), v_8 = .agg #[.int .i64 r_10, .int .i64 r_11, .int .i64 r_12, .bool r_13] ∧ (
newC h_9 [.int .i64 r_10, .int .i64 r_11, .int .i64 r_12, .bool r_13] T_burinref4_Row fun r_14 h_15 =>
appC h_15 T_burinref4_Row 4 32 [.int .i64 0, .int .i64 0, .int .i64 0, .bool false] t_6 (t_6n) (t_6c) (some ⟨r_14, 0, none⟩) (1) fun q_16 q_16n q_16c h_17 =>
bindI (IntKind.i64.wrap (i_7 + (1 : Int))) fun z_18 =>
∃ m_2, m_2 < n_3 ∧ J_1 m_2 [.slice q_16 q_16n q_16c, .int .i64 z_18] h_17)) (Kp)) <|
K (.slice t_6 t_6n t_6c) h_4)

/- burin/burinref4.row -/
set_option maxRecDepth 100000 in
def burinref4_row (C : CallP) (n : Int) (h : Heap) (K : Value → Heap → Prop) (Kp : List PanicEntry → Heap → Prop) : Prop :=
newC h [.int .i64 0, .int .i64 0, .int .i64 0, .bool false] T_burinref4_Row fun r_1 h_2 =>
newC h_2 [.int .i64 22017, .int .i64 13313, .int .i64 6145, .int .i64 2753, .int .i64 1313, .int .i64 545, .int .i64 22017, .int .i64 21505, .int .i64 18433, .int .i64 14337, .int .i64 12289, .int .i64 9217, .int .i64 7169, .int .i64 5633, .int .i64 22017, .int .i64 21505, .int .i64 20737, .int .i64 18433, .int .i64 14337, .int .i64 13313, .int .i64 12289, .int .i64 10241, .int .i64 9217, .int .i64 8705, .int .i64 7169, .int .i64 6145, .int .i64 5633, .int .i64 5121, .int .i64 4609, .int .i64 4353, .int .i64 2753, .int .i64 2497, .int .i64 2209, .int .i64 1313, .int .i64 1089, .int .i64 673, .int .i64 545, .int .i64 321, .int .i64 273, .int .i64 133, .int .i64 73, .int .i64 37, .int .i64 21, .int .i64 9, .int .i64 5, .int .i64 1, .int .i64 22017] T_int fun r_3 h_4 =>
newC h_4 [.int .i64 1, .int .i64 2, .int .i64 3, .int .i64 4, .int .i64 5, .int .i64 38, .int .i64 7, .int .i64 8, .int .i64 9, .int .i64 10, .int .i64 11, .int .i64 12, .int .i64 13, .int .i64 29, .int .i64 15, .int .i64 16, .int .i64 17, .int .i64 18, .int .i64 19, .int .i64 20, .int .i64 21, .int .i64 22, .int .i64 23, .int .i64 24, .int .i64 25, .int .i64 26, .int .i64 27, .int .i64 28, .int .i64 29, .int .i64 30, .int .i64 31, .int .i64 32, .int .i64 33, .int .i64 34, .int .i64 35, .int .i64 36, .int .i64 37, .int .i64 38, .int .i64 39, .int .i64 40, .int .i64 41, .int .i64 42, .int .i64 43, .int .i64 44, .int .i64 45, .int .i64 45, .int .i64 46] T_int fun r_5 h_6 =>
newC h_6 [.int .i64 1, .int .i64 6, .int .i64 9, .int .i64 12, .int .i64 29, .int .i64 33, .int .i64 6, .int .i64 14, .int .i64 14, .int .i64 14, .int .i64 17, .int .i64 18, .int .i64 20, .int .i64 21, .int .i64 14, .int .i64 14, .int .i64 15, .int .i64 16, .int .i64 17, .int .i64 18, .int .i64 19, .int .i64 19, .int .i64 20, .int .i64 21, .int .i64 22, .int .i64 23, .int .i64 24, .int .i64 25, .int .i64 26, .int .i64 27, .int .i64 28, .int .i64 29, .int .i64 30, .int .i64 31, .int .i64 32, .int .i64 33, .int .i64 34, .int .i64 35, .int .i64 36, .int .i64 37, .int .i64 38, .int .i64 39, .int .i64 40, .int .i64 41, .int .i64 42, .int .i64 43, .int .i64 46] T_int fun r_7 h_8 =>
needs (0 ≤ n ∧ n < ((47 : Nat) : Int)) <|
needs (0 ≤ n ∧ n < ((47 : Nat) : Int)) <|
needs (0 ≤ n ∧ n < ((47 : Nat) : Int)) <|
bcase (n == (0 : Int)) (
ldI h_8 ((⟨r_3, 0, none⟩ : Addr).add (n.toNat * 1)) .i64 fun x_9 =>
ldI h_8 ((⟨r_5, 0, none⟩ : Addr).add (n.toNat * 1)) .i64 fun x_10 =>
ldI h_8 ((⟨r_7, 0, none⟩ : Addr).add (n.toNat * 1)) .i64 fun x_11 =>
stV h_8 ((⟨r_1, 0, none⟩ : Addr).add 0) (.int .i64 x_9) fun h_12 =>
stV h_12 ((⟨r_1, 0, none⟩ : Addr).add 1) (.int .i64 x_10) fun h_13 =>
stV h_13 ((⟨r_1, 0, none⟩ : Addr).add 2) (.int .i64 x_11) fun h_14 =>
stV h_14 ((⟨r_1, 0, none⟩ : Addr).add 3) (.bool true) fun h_15 =>
ldI h_15 ((⟨r_1, 0, none⟩ : Addr).add 0) .i64 fun r_16 =>
ldI h_15 ((⟨r_1, 0, none⟩ : Addr).add 1) .i64 fun r_17 =>
ldI h_15 ((⟨r_1, 0, none⟩ : Addr).add 2) .i64 fun r_18 =>
ldB h_15 ((⟨r_1, 0, none⟩ : Addr).add 3) fun r_19 =>
K (.agg #[.int .i64 r_16, .int .i64 r_17, .int .i64 r_18, .bool r_19]) h_15) <|
bcase (n == (6 : Int)) (
ldI h_8 ((⟨r_3, 0, none⟩ : Addr).add (n.toNat * 1)) .i64 fun x_20 =>
ldI h_8 ((⟨r_5, 0, none⟩ : Addr).add (n.toNat * 1)) .i64 fun x_21 =>
ldI h_8 ((⟨r_7, 0, none⟩ : Addr).add (n.toNat * 1)) .i64 fun x_22 =>
stV h_8 ((⟨r_1, 0, none⟩ : Addr).add 0) (.int .i64 x_20) fun h_23 =>
stV h_23 ((⟨r_1, 0, none⟩ : Addr).add 1) (.int .i64 x_21) fun h_24 =>
stV h_24 ((⟨r_1, 0, none⟩ : Addr).add 2) (.int .i64 x_22) fun h_25 =>
stV h_25 ((⟨r_1, 0, none⟩ : Addr).add 3) (.bool true) fun h_26 =>
ldI h_26 ((⟨r_1, 0, none⟩ : Addr).add 0) .i64 fun r_27 =>
ldI h_26 ((⟨r_1, 0, none⟩ : Addr).add 1) .i64 fun r_28 =>
ldI h_26 ((⟨r_1, 0, none⟩ : Addr).add 2) .i64 fun r_29 =>
ldB h_26 ((⟨r_1, 0, none⟩ : Addr).add 3) fun r_30 =>
K (.agg #[.int .i64 r_27, .int .i64 r_28, .int .i64 r_29, .bool r_30]) h_26) <|
ldI h_8 ((⟨r_3, 0, none⟩ : Addr).add (n.toNat * 1)) .i64 fun x_31 =>
ldI h_8 ((⟨r_5, 0, none⟩ : Addr).add (n.toNat * 1)) .i64 fun x_32 =>
ldI h_8 ((⟨r_7, 0, none⟩ : Addr).add (n.toNat * 1)) .i64 fun x_33 =>
stV h_8 ((⟨r_1, 0, none⟩ : Addr).add 0) (.int .i64 x_31) fun h_34 =>
stV h_34 ((⟨r_1, 0, none⟩ : Addr).add 1) (.int .i64 x_32) fun h_35 =>
stV h_35 ((⟨r_1, 0, none⟩ : Addr).add 2) (.int .i64 x_33) fun h_36 =>
stV h_36 ((⟨r_1, 0, none⟩ : Addr).add 3) (.bool (n == (14 : Int))) fun h_37 =>
ldI h_37 ((⟨r_1, 0, none⟩ : Addr).add 0) .i64 fun r_38 =>
ldI h_37 ((⟨r_1, 0, none⟩ : Addr).add 1) .i64 fun r_39 =>
ldI h_37 ((⟨r_1, 0, none⟩ : Addr).add 2) .i64 fun r_40 =>
ldB h_37 ((⟨r_1, 0, none⟩ : Addr).add 3) fun r_41 =>
K (.agg #[.int .i64 r_38, .int .i64 r_39, .int .i64 r_40, .bool r_41]) h_37

end Go.Den.Ytlmopdohgipbeaa
