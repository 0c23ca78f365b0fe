/- Written by gen.py: the conditions of the functions of burinref0. -/
import Derived.Test.YtlmopdohgipbeaaNums
set_option linter.unusedVariables false
set_option linter.unusedSimpArgs false
namespace Go.Den.Ytlmopdohgipbeaa
open Go Go.Den

/- burin/burinref0.EqBitmap -/
set_option maxRecDepth 100000 in
def burinref0_EqBitmap (C : CallP) (a_1 : Int) (a_2 : Int) (a_3 : Option Addr) (a_3n : Nat) (a_3c : Nat) (b_4 : Int) (b_5 : Int) (b_6 : Option Addr) (b_6n : Nat) (b_6c : Nat) (h : Heap) (K : Value → Heap → Prop) (Kp : List PanicEntry → Heap → Prop) : Prop :=
newC h [.int .i64 a_1, .int .i64 a_2, .slice a_3 a_3n a_3c] T_api_Bitmap fun r_7 h_8 =>
newC h_8 [.int .i64 b_4, .int .i64 b_5, .slice b_6 b_6n b_6c] T_api_Bitmap fun r_9 h_10 =>
ldI h_10 ((⟨r_7, 0, none⟩ : Addr).add 0) .i64 fun x_11 =>
ldI h_10 ((⟨r_9, 0, none⟩ : Addr).add 0) .i64 fun x_12 =>
bcase (x_11 == x_12) (
ldI h_10 ((⟨r_7, 0, none⟩ : Addr).add 1) .i64 fun x_13 =>
ldI h_10 ((⟨r_9, 0, none⟩ : Addr).add 1) .i64 fun x_14 =>
bcase (x_13 == x_14) (
ldS h_10 ((⟨r_7, 0, none⟩ : Addr).add 2) fun x_15 x_15n x_15c =>
ldS h_10 ((⟨r_9, 0, none⟩ : Addr).add 2) fun x_16 x_16n x_16c =>
C F_burinref0_EqWords #[.slice x_15 x_15n x_15c, .slice x_16 x_16n x_16c] h_10 (fun v_17 h_18 =>
∃ (r_19 : Bool), v_17 = .bool r_19 ∧ (
K (.bool r_19) h_18)) (Kp)) <|
K (.bool false) h_10) <|
K (.bool false) h_10

/- burin/burinref0.May -/
set_option maxRecDepth 100000 in
def burinref0_May (C : CallP) (b_1 : Int) (b_2 : Int) (b_3 : Option Addr) (b_3n : Nat) (b_3c : Nat) (h : Heap) (K : Value → Heap → Prop) (Kp : List PanicEntry → Heap → Prop) : Prop :=
newC h [.int .i64 b_1, .int .i64 b_2, .slice b_3 b_3n b_3c] T_api_Bitmap fun r_4 h_5 =>
ldI h_5 ((⟨r_4, 0, none⟩ : Addr).add 0) .i64 fun x_6 =>
ldI h_5 ((⟨r_4, 0, none⟩ : Addr).add 1) .i64 fun x_7 =>
C F_burinref0_Size #[.int .i64 x_6, .int .i64 x_7] h_5 (fun v_8 h_9 =>
∃ (r_10 : Bool), v_8 = .bool r_10 ∧ (
bcase (!r_10) (
hext h_9 h_9 ∧ (
K (.bool false) h_9)) <|
ldS h_9 ((⟨r_4, 0, none⟩ : Addr).add 2) fun x_11 x_11n x_11c =>
ldI h_9 ((⟨r_4, 0, none⟩ : Addr).add 1) .i64 fun x_12 =>
ldI h_9 ((⟨r_4, 0, none⟩ : Addr).add 0) .i64 fun x_13 =>
C F_burinref0_words #[.int .i64 x_13] h_9 (fun v_14 h_15 =>
∃ (r_16 : Int), v_14 = .int .i64 r_16 ∧ (
hext h_9 h_15 ∧ (
bindI (IntKind.i64.wrap (x_12 * r_16)) fun z_17 =>
bcase ((x_11n : Int) != z_17) (
K (.bool false) h_15) <|
ldI h_15 ((⟨r_4, 0, none⟩ : Addr).add 0) .i64 fun x_18 =>
bindI (x_18.tmod (64 : Int)) fun z_19 =>
bcase (z_19 == (0 : Int)) (
K (.bool true) h_15) <|
∃ J_20 : Nat → List Value → Heap → Prop, (∃ n_22, J_20 n_22 [.int .i64 0] h_15) ∧ ∀ (n_22 : Nat) (h_23 : Heap) (u_24 : Nat → Value) (y_25 : Int), J_20 n_22 [.int .i64 y_25] h_23 → (
ldI h_23 ((⟨r_4, 0, none⟩ : Addr).add 1) .i64 fun x_26 =>
bcase (decide (y_25 < x_26)) (
bindI (IntKind.i64.wrap (y_25 + (1 : Int))) fun z_27 =>
ldS h_23 ((⟨r_4, 0, none⟩ : Addr).add 2) fun x_28 x_28n x_28c =>
ldI h_23 ((⟨r_4, 0, none⟩ : Addr).add 0) .i64 fun x_29 =>
ldI h_23 ((⟨r_4, 0, none⟩ : Addr).add 0) .i64 fun x_30 =>
bindI (x_30.tmod (64 : Int)) fun z_31 =>
bindI (IntKind.u64.wrap z_31) fun z_32 =>
C F_burinref0_words #[.int .i64 x_29] h_23 (fun v_33 h_34 =>
∃ (r_35 : Int), v_33 = .int .i64 r_35 ∧ (
hext h_23 h_34 ∧ (
bindI (IntKind.i64.wrap (z_27 * r_35)) fun z_36 =>
bindI (IntKind.i64.wrap (z_36 - (1 : Int))) fun z_37 =>
needs (0 ≤ z_37 ∧ z_37 < (x_28n : Int)) <|
ptr x_28 fun a_38 =>
ldI h_34 (a_38.add (z_37.toNat * 1)) .u64 fun x_39 =>
needs (0 ≤ z_32) <|
bindI (shlI .u64 x_39 z_32) fun z_40 =>
bcase (z_40 != (0 : Int)) (
K (.bool false) h_34) <|
bindI (IntKind.i64.wrap (y_25 + (1 : Int))) fun z_41 =>
∃ m_21, m_21 < n_22 ∧ J_20 m_21 [.int .i64 z_41] h_34))) (Kp)) <|
K (.bool true) h_23)))) (Kp))) (Kp)

/- burin/burinref0.White -/
set_option maxRecDepth 100000 in
def burinref0_White (C : CallP) (w : Int) (h' : Int) (h : Heap) (K : Value → Heap → Prop) (Kp : List PanicEntry → Heap → Prop) : Prop :=
newC h [.int .i64 0, .int .i64 0, .slice none 0 0] T_api_Bitmap fun r_1 h_2 =>
C F_burinref0_words #[.int .i64 w] h_2 (fun v_3 h_4 =>
∃ (r_5 : Int), v_3 = .int .i64 r_5 ∧ (
bindI (IntKind.i64.wrap (h' * r_5)) fun z_6 =>
needs (0 ≤ z_6 ∧ z_6 ≤ z_6 ∧ z_6 ≤ 9223372036854775807 ∧ ((8 : Nat) : Int) * z_6 ≤ 281474976710656) <|
newC h_4 (repZ [.int .u64 0] z_6.toNat) T_uint64 fun r_7 h_8 =>
stV h_8 ((⟨r_1, 0, none⟩ : Addr).add 0) (.int .i64 w) fun h_9 =>
stV h_9 ((⟨r_1, 0, none⟩ : Addr).add 1) (.int .i64 h') fun h_10 =>
stV h_10 ((⟨r_1, 0, none⟩ : Addr).add 2) (.slice (some ⟨r_7, 0, none⟩) z_6.toNat z_6.toNat) fun h_11 =>
ldI h_11 ((⟨r_1, 0, none⟩ : Addr).add 0) .i64 fun r_12 =>
ldI h_11 ((⟨r_1, 0, none⟩ : Addr).add 1) .i64 fun r_13 =>
ldS h_11 ((⟨r_1, 0, none⟩ : Addr).add 2) fun r_14 r_14n r_14c =>
K (.agg #[.int .i64 r_12, .int .i64 r_13, .slice r_14 r_14n r_14c]) h_11)) (Kp)

/- burin/burinref0.Lay -/
set_option maxRecDepth 100000 in
def burinref0_Lay (C : CallP) (a0_1 : Int) (a0_2 : Int) (a0_3 : Option Addr) (a0_3n : Nat) (a0_3c : Nat) (a1 : Int) (a2 : Int) (a3 : Int) (a4_4 : Int) (a4_5 : Int) (a4_6 : Option Addr) (a4_6n : Nat) (a4_6c : Nat) (h : Heap) (K : Value → Heap → Prop) (Kp : List PanicEntry → Heap → Prop) : Prop :=
newC h [.int .i64 a0_1, .int .i64 a0_2, .slice a0_3 a0_3n a0_3c] T_api_Bitmap fun r_7 h_8 =>
newC h_8 [.int .i64 a4_4, .int .i64 a4_5, .slice a4_6 a4_6n a4_6c] T_api_Bitmap fun r_9 h_10 =>
ldI h_10 ((⟨r_7, 0, none⟩ : Addr).add 0) .i64 fun x_11 =>
bcase (decide (a1 ≥ x_11)) (
K (.tuple #[]) h_10) <|
ldI h_10 ((⟨r_7, 0, none⟩ : Addr).add 1) .i64 fun x_12 =>
bcase (decide (a2 ≥ x_12)) (
K (.tuple #[]) h_10) <|
ldI h_10 ((⟨r_9, 0, none⟩ : Addr).add 0) .i64 fun x_13 =>
bindI (IntKind.i64.wrap (0 - x_13)) fun z_14 =>
bcase (decide (a1 ≤ z_14)) (
K (.tuple #[]) h_10) <|
ldI h_10 ((⟨r_9, 0, none⟩ : Addr).add 1) .i64 fun x_15 =>
bindI (IntKind.i64.wrap (0 - x_15)) fun z_16 =>
bcase (decide (a2 ≤ z_16)) (
K (.tuple #[]) h_10) <|
∃ J_17 : Nat → List Value → Heap → Prop, (∃ n_19, J_17 n_19 [.int .i64 0] h_10) ∧ ∀ (n_19 : Nat) (h_20 : Heap) (u_21 : Nat → Value) (x_22 : Int), J_17 n_19 [.int .i64 x_22] h_20 → (
ldI h_20 ((⟨r_9, 0, none⟩ : Addr).add 1) .i64 fun x_23 =>
bcase (decide (x_22 < x_23)) (
∃ J_24 : Nat → List Value → Heap → Prop, (∃ n_26, J_24 n_26 [.int .i64 0] h_20) ∧ ∀ (n_26 : Nat) (h_27 : Heap) (u_28 : Nat → Value) (x_29 : Int), J_24 n_26 [.int .i64 x_29] h_27 → (
ldI h_27 ((⟨r_9, 0, none⟩ : Addr).add 0) .i64 fun x_30 =>
bcase (decide (x_29 < x_30)) (
∃ K_31 : List Value → Heap → Prop, (
bindI (IntKind.i64.wrap (a1 + x_29)) fun z_34 =>
bcase (decide (z_34 ≥ (0 : Int))) (
bindI (IntKind.i64.wrap (a1 + x_29)) fun z_35 =>
ldI h_27 ((⟨r_7, 0, none⟩ : Addr).add 0) .i64 fun x_36 =>
bcase (decide (z_35 < x_36)) (
bindI (IntKind.i64.wrap (a2 + x_22)) fun z_37 =>
bcase (decide (z_37 ≥ (0 : Int))) (
bindI (IntKind.i64.wrap (a2 + x_22)) fun z_38 =>
ldI h_27 ((⟨r_7, 0, none⟩ : Addr).add 1) .i64 fun x_39 =>
K_31 [.bool (decide (z_38 < x_39))] h_27) <|
K_31 [.bool false] h_27) <|
K_31 [.bool false] h_27) <|
K_31 [.bool false] h_27) ∧ ∀ (h_32 : Heap) (u_33 : Nat → Value) (x_40 : Bool), K_31 [.bool x_40] h_32 → (
bcase x_40 (
bindI (IntKind.i64.wrap (a1 + x_29)) fun z_41 =>
bindI (IntKind.i64.wrap (a2 + x_22)) fun z_42 =>
bindI (IntKind.i64.wrap (a1 + x_29)) fun z_43 =>
bindI (IntKind.i64.wrap (a2 + x_22)) fun z_44 =>
ldI h_32 ((⟨r_7, 0, none⟩ : Addr).add 0) .i64 fun x_45 =>
ldI h_32 ((⟨r_7, 0, none⟩ : Addr).add 1) .i64 fun x_46 =>
ldS h_32 ((⟨r_7, 0, none⟩ : Addr).add 2) fun x_47 x_47n x_47c =>
ldI h_32 ((⟨r_7, 0, none⟩ : Addr).add 0) .i64 fun x_48 =>
ldI h_32 ((⟨r_7, 0, none⟩ : Addr).add 1) .i64 fun x_49 =>
ldS h_32 ((⟨r_7, 0, none⟩ : Addr).add 2) fun x_50 x_50n x_50c =>
ldI h_32 ((⟨r_9, 0, none⟩ : Addr).add 0) .i64 fun x_51 =>
ldI h_32 ((⟨r_9, 0, none⟩ : Addr).add 1) .i64 fun x_52 =>
ldS h_32 ((⟨r_9, 0, none⟩ : Addr).add 2) fun x_53 x_53n x_53c =>
C F_burinref0_Get #[.agg #[.int .i64 x_48, .int .i64 x_49, .slice x_50 x_50n x_50c], .int .i64 z_43, .int .i64 z_44] h_32 (fun v_54 h_55 =>
∃ (r_56 : Int), v_54 = .int .i64 r_56 ∧ (
hext h_32 h_55 ∧ (
C F_burinref0_Get #[.agg #[.int .i64 x_51, .int .i64 x_52, .slice x_53 x_53n x_53c], .int .i64 x_29, .int .i64 x_22] h_55 (fun v_57 h_58 =>
∃ (r_59 : Int), v_57 = .int .i64 r_59 ∧ (
hext h_55 h_58 ∧ (
C F_burinref0_Do #[.int .i64 a3, .int .i64 r_56, .int .i64 r_59] h_58 (fun v_60 h_61 =>
∃ (r_62 : Int), v_60 = .int .i64 r_62 ∧ (
hext h_58 h_61 ∧ (
C F_burinref0_Put #[.agg #[.int .i64 x_45, .int .i64 x_46, .slice x_47 x_47n x_47c], .int .i64 z_41, .int .i64 z_42, .int .i64 r_62] h_61 (fun v_63 h_64 =>
bindI (IntKind.i64.wrap (x_29 + (1 : Int))) fun z_65 =>
∃ m_25, m_25 < n_26 ∧ J_24 m_25 [.int .i64 z_65] h_64) (Kp)))) (Kp)))) (Kp)))) (Kp)) <|
bindI (IntKind.i64.wrap (x_29 + (1 : Int))) fun z_66 =>
∃ m_25, m_25 < n_26 ∧ J_24 m_25 [.int .i64 z_66] h_32)) <|
bindI (IntKind.i64.wrap (x_22 + (1 : Int))) fun z_67 =>
∃ m_18, m_18 < n_19 ∧ J_17 m_18 [.int .i64 z_67] h_27)) <|
K (.tuple #[]) h_20)

/- burin/burinref0.Size -/
set_option maxRecDepth 100000 in
def burinref0_Size (C : CallP) (w : Int) (h' : Int) (h : Heap) (K : Value → Heap → Prop) (Kp : List PanicEntry → Heap → Prop) : Prop :=
bcase (decide (w ≥ (1 : Int))) (
bcase (decide (h' ≥ (1 : Int))) (
bcase (decide (w ≤ (1048576 : Int))) (
needs (IntKind.i64 = IntKind.i64 ∧ w ≠ 0) <|
bindI (IntKind.i64.wrap ((1048576 : Int).tdiv w)) fun z_1 =>
K (.bool (decide (h' ≤ z_1))) h) <|
K (.bool false) h) <|
K (.bool false) h) <|
K (.bool false) h

/- burin/burinref0.Eq -/
set_option maxRecDepth 100000 in
def burinref0_Eq (C : CallP) (a : Option Addr) (an : Nat) (ac : Nat) (b : Option Addr) (bn : Nat) (bc : Nat) (h : Heap) (K : Value → Heap → Prop) (Kp : List PanicEntry → Heap → Prop) : Prop :=
bcase ((an : Int) != (bn : Int)) (
K (.bool false) h) <|
∃ J_1 : Nat → List Value → Heap → Prop, (∃ n_3, J_1 n_3 [.int .i64 0] h) ∧ ∀ (n_3 : Nat) (h_4 : Heap) (u_5 : Nat → Value) (i_6 : Int), J_1 n_3 [.int .i64 i_6] h_4 → (
bcase (decide (i_6 < (an : Int))) (
needs (0 ≤ i_6 ∧ i_6 < (an : Int)) <|
ptr a fun a_7 =>
needs (0 ≤ i_6 ∧ i_6 < (bn : Int)) <|
ptr b fun a_8 =>
ldI h_4 (a_7.add (i_6.toNat * 1)) .u8 fun x_9 =>
ldI h_4 (a_8.add (i_6.toNat * 1)) .u8 fun x_10 =>
bcase (x_9 != x_10) (
K (.bool false) h_4) <|
bindI (IntKind.i64.wrap (i_6 + (1 : Int))) fun z_11 =>
∃ m_2, m_2 < n_3 ∧ J_1 m_2 [.int .i64 z_11] h_4) <|
K (.bool true) h_4)

/- burin/burinref0.Put -/
set_option maxRecDepth 100000 in
def burinref0_Put (C : CallP) (b_1 : Int) (b_2 : Int) (b_3 : Option Addr) (b_3n : Nat) (b_3c : Nat) (x : Int) (y : Int) (bit : Int) (h : Heap) (K : Value → Heap → Prop) (Kp : List PanicEntry → Heap → Prop) : Prop :=
newC h [.int .i64 b_1, .int .i64 b_2, .slice b_3 b_3n b_3c] T_api_Bitmap fun r_4 h_5 =>
ldI h_5 ((⟨r_4, 0, none⟩ : Addr).add 0) .i64 fun x_6 =>
C F_burinref0_words #[.int .i64 x_6] h_5 (fun v_7 h_8 =>
∃ (r_9 : Int), v_7 = .int .i64 r_9 ∧ (
bindI (IntKind.i64.wrap (y * r_9)) fun z_10 =>
bindI (IntKind.i64.wrap (x.tdiv (64 : Int))) fun z_11 =>
bindI (IntKind.i64.wrap (z_10 + z_11)) fun z_12 =>
bindI (x.tmod (64 : Int)) fun z_13 =>
bindI (IntKind.i64.wrap ((63 : Int) - z_13)) fun z_14 =>
bindI (IntKind.u64.wrap z_14) fun z_15 =>
needs (0 ≤ z_15) <|
bindI (shlI .u64 (1 : Int) z_15) fun z_16 =>
ldS h_8 ((⟨r_4, 0, none⟩ : Addr).add 2) fun x_17 x_17n x_17c =>
ldS h_8 ((⟨r_4, 0, none⟩ : Addr).add 2) fun x_18 x_18n x_18c =>
needs (0 ≤ z_12 ∧ z_12 < (x_18n : Int)) <|
ptr x_18 fun a_19 =>
ldI h_8 (a_19.add (z_12.toNat * 1)) .u64 fun x_20 =>
bindI (bitI .andNot .u64 x_20 z_16) fun z_21 =>
needs (0 ≤ z_12 ∧ z_12 < (x_17n : Int)) <|
ptr x_17 fun a_22 =>
stV h_8 (a_22.add (z_12.toNat * 1)) (.int .u64 z_21) fun h_23 =>
bcase (bit == (1 : Int)) (
ldS h_23 ((⟨r_4, 0, none⟩ : Addr).add 2) fun x_24 x_24n x_24c =>
ldS h_23 ((⟨r_4, 0, none⟩ : Addr).add 2) fun x_25 x_25n x_25c =>
needs (0 ≤ z_12 ∧ z_12 < (x_25n : Int)) <|
ptr x_25 fun a_26 =>
ldI h_23 (a_26.add (z_12.toNat * 1)) .u64 fun x_27 =>
bindI (bitI .or .u64 x_27 z_16) fun z_28 =>
needs (0 ≤ z_12 ∧ z_12 < (x_24n : Int)) <|
ptr x_24 fun a_29 =>
stV h_23 (a_29.add (z_12.toNat * 1)) (.int .u64 z_28) fun h_30 =>
K (.tuple #[]) h_30) <|
K (.tuple #[]) h_23)) (Kp)

/- burin/burinref0.CopyBitmap -/
set_option maxRecDepth 100000 in
def burinref0_CopyBitmap (C : CallP) (b_1 : Int) (b_2 : Int) (b_3 : Option Addr) (b_3n : Nat) (b_3c : Nat) (h : Heap) (K : Value → Heap → Prop) (Kp : List PanicEntry → Heap → Prop) : Prop :=
newC h [.int .i64 b_1, .int .i64 b_2, .slice b_3 b_3n b_3c] T_api_Bitmap fun r_4 h_5 =>
newC h_5 [.int .i64 0, .int .i64 0, .slice none 0 0] T_api_Bitmap fun r_6 h_7 =>
ldI h_7 ((⟨r_4, 0, none⟩ : Addr).add 0) .i64 fun x_8 =>
ldI h_7 ((⟨r_4, 0, none⟩ : Addr).add 1) .i64 fun x_9 =>
ldS h_7 ((⟨r_4, 0, none⟩ : Addr).add 2) fun x_10 x_10n x_10c =>
appC h_7 T_uint64 1 8 [.int .u64 0] none (0) (0) x_10 (x_10n) fun q_11 q_11n q_11c h_12 =>
hext h_7 h_12 ∧ (
stV h_12 ((⟨r_6, 0, none⟩ : Addr).add 0) (.int .i64 x_8) fun h_13 =>
stV h_13 ((⟨r_6, 0, none⟩ : Addr).add 1) (.int .i64 x_9) fun h_14 =>
stV h_14 ((⟨r_6, 0, none⟩ : Addr).add 2) (.slice q_11 q_11n q_11c) fun h_15 =>
ldI h_15 ((⟨r_6, 0, none⟩ : Addr).add 0) .i64 fun r_16 =>
ldI h_15 ((⟨r_6, 0, none⟩ : Addr).add 1) .i64 fun r_17 =>
ldS h_15 ((⟨r_6, 0, none⟩ : Addr).add 2) fun r_18 r_18n r_18c =>
K (.agg #[.int .i64 r_16, .int .i64 r_17, .slice r_18 r_18n r_18c]) h_15)

/- burin/burinref0.EqWords -/
set_option maxRecDepth 100000 in
def burinref0_EqWords (C : CallP) (a : Option Addr) (an : Nat) (ac : Nat) (b : Option Addr) (bn : Nat) (bc : Nat) (h : Heap) (K : Value → Heap → Prop) (Kp : List PanicEntry → Heap → Prop) : Prop :=
bcase ((an : Int) != (bn : Int)) (
K (.bool false) h) <|
∃ J_1 : Nat → List Value → Heap → Prop, (∃ n_3, J_1 n_3 [.int .i64 0] h) ∧ ∀ (n_3 : Nat) (h_4 : Heap) (u_5 : Nat → Value) (i_6 : Int), J_1 n_3 [.int .i64 i_6] h_4 → (
bcase (decide (i_6 < (an : Int))) (
needs (0 ≤ i_6 ∧ i_6 < (an : Int)) <|
ptr a fun a_7 =>
needs (0 ≤ i_6 ∧ i_6 < (bn : Int)) <|
ptr b fun a_8 =>
ldI h_4 (a_7.add (i_6.toNat * 1)) .u64 fun x_9 =>
ldI h_4 (a_8.add (i_6.toNat * 1)) .u64 fun x_10 =>
bcase (x_9 != x_10) (
K (.bool false) h_4) <|
bindI (IntKind.i64.wrap (i_6 + (1 : Int))) fun z_11 =>
∃ m_2, m_2 < n_3 ∧ J_1 m_2 [.int .i64 z_11] h_4) <|
K (.bool true) h_4)

/- burin/burinref0.words -/
set_option maxRecDepth 100000 in
def burinref0_words (C : CallP) (w : Int) (h : Heap) (K : Value → Heap → Prop) (Kp : List PanicEntry → Heap → Prop) : Prop :=
bindI (IntKind.i64.wrap (w + (63 : Int))) fun z_1 =>
bindI (IntKind.i64.wrap (z_1.tdiv (64 : Int))) fun z_2 =>
K (.int .i64 z_2) h

/- burin/burinref0.Do -/
set_option maxRecDepth 100000 in
def burinref0_Do (C : CallP) (op : Int) (d : Int) (s : Int) (h : Heap) (K : Value → Heap → Prop) (Kp : List PanicEntry → Heap → Prop) : Prop :=
bcase (op == (0 : Int)) (
bindI (bitI .or .i64 d s) fun z_1 =>
K (.int .i64 z_1) h) <|
bcase (op == (1 : Int)) (
bindI (bitI .and .i64 d s) fun z_2 =>
K (.int .i64 z_2) h) <|
bcase (op == (2 : Int)) (
bindI (bitI .xor .i64 d s) fun z_3 =>
K (.int .i64 z_3) h) <|
bcase (op == (3 : Int)) (
bindI (bitI .xor .i64 d s) fun z_4 =>
bindI (IntKind.i64.wrap ((1 : Int) - z_4)) fun z_5 =>
K (.int .i64 z_5) h) <|
K (.int .i64 s) h

/- burin/burinref0.Get -/
set_option maxRecDepth 100000 in
def burinref0_Get (C : CallP) (b_1 : Int) (b_2 : Int) (b_3 : Option Addr) (b_3n : Nat) (b_3c : Nat) (x : Int) (y : Int) (h : Heap) (K : Value → Heap → Prop) (Kp : List PanicEntry → Heap → Prop) : Prop :=
newC h [.int .i64 b_1, .int .i64 b_2, .slice b_3 b_3n b_3c] T_api_Bitmap fun r_4 h_5 =>
bcase (decide (x < (0 : Int))) (
K (.int .i64 0) h_5) <|
bcase (decide (y < (0 : Int))) (
K (.int .i64 0) h_5) <|
ldI h_5 ((⟨r_4, 0, none⟩ : Addr).add 0) .i64 fun x_6 =>
bcase (decide (x ≥ x_6)) (
K (.int .i64 0) h_5) <|
ldI h_5 ((⟨r_4, 0, none⟩ : Addr).add 1) .i64 fun x_7 =>
bcase (decide (y ≥ x_7)) (
K (.int .i64 0) h_5) <|
bindI (IntKind.i64.wrap (x.tdiv (64 : Int))) fun z_8 =>
bindI (x.tmod (64 : Int)) fun z_9 =>
bindI (IntKind.i64.wrap ((63 : Int) - z_9)) fun z_10 =>
bindI (IntKind.u64.wrap z_10) fun z_11 =>
ldS h_5 ((⟨r_4, 0, none⟩ : Addr).add 2) fun x_12 x_12n x_12c =>
ldI h_5 ((⟨r_4, 0, none⟩ : Addr).add 0) .i64 fun x_13 =>
C F_burinref0_words #[.int .i64 x_13] h_5 (fun v_14 h_15 =>
∃ (r_16 : Int), v_14 = .int .i64 r_16 ∧ (
hext h_5 h_15 ∧ (
bindI (IntKind.i64.wrap (y * r_16)) fun z_17 =>
bindI (IntKind.i64.wrap (z_17 + z_8)) fun z_18 =>
needs (0 ≤ z_18 ∧ z_18 < (x_12n : Int)) <|
ptr x_12 fun a_19 =>
ldI h_15 (a_19.add (z_18.toNat * 1)) .u64 fun x_20 =>
needs (0 ≤ z_11) <|
bindI (shrI .u64 x_20 z_11) fun z_21 =>
bindI (bitI .and .u64 z_21 (1 : Int)) fun z_22 =>
bindI (IntKind.i64.wrap z_22) fun z_23 =>
K (.int .i64 z_23) h_15))) (Kp)

end Go.Den.Ytlmopdohgipbeaa
