/- Written by gen.py: the conditions of the functions of burinkit. -/
import Derived.Test.YtlmopdohgipbeaaNums
set_option linter.unusedVariables false
set_option linter.unusedSimpArgs false
namespace Go.Den.Ytlmopdohgipbeaa
open Go Go.Den

/- burin/burinkit.LendBitmap -/
set_option maxRecDepth 100000 in
def burinkit_LendBitmap (C : CallP) (b_1 : Int) (b_2 : Int) (b_3 : Option Addr) (b_3n : Nat) (b_3c : Nat) (h : Heap) (K : Value → Heap → Prop) (Kp : List PanicEntry → Heap → Prop) : Prop :=
newC h [.int .i64 b_1, .int .i64 b_2, .slice b_3 b_3n b_3c] T_api_Bitmap fun r_4 h_5 =>
newC h_5 [.int .i64 0, .int .i64 0, .slice none 0 0] T_api_Bitmap fun r_6 h_7 =>
ldS h_7 ((⟨r_4, 0, none⟩ : Addr).add 2) fun x_8 x_8n x_8c =>
bindI (IntKind.i64.wrap ((x_8n : Int) + (7 : Int))) fun z_9 =>
needs (0 ≤ (0 : Int) ∧ (0 : Int) ≤ z_9 ∧ z_9 ≤ 9223372036854775807 ∧ ((8 : Nat) : Int) * z_9 ≤ 281474976710656) <|
newC h_7 (repZ [.int .u64 0] z_9.toNat) T_uint64 fun r_10 h_11 =>
ldS h_11 ((⟨r_4, 0, none⟩ : Addr).add 2) fun x_12 x_12n x_12c =>
appC h_11 T_uint64 1 8 [.int .u64 0] (some ⟨r_10, 0, none⟩) ((0 : Int).toNat) (z_9.toNat) x_12 (x_12n) fun q_13 q_13n q_13c h_14 =>
∃ J_15 : Nat → List Value → Heap → Prop, (∃ n_17, J_15 n_17 [.slice q_13 q_13n q_13c, .int .i64 0] h_14) ∧ ∀ (n_17 : Nat) (h_18 : Heap) (u_19 : Nat → Value) (x_20 : Option Addr) (x_20n : Nat) (x_20c : Nat) (i_21 : Int), J_15 n_17 [.slice x_20 x_20n x_20c, .int .i64 i_21] h_18 → (
bcase (decide (i_21 < (7 : Int))) (
newC h_18 [.int .u64 42405] T_uint64 fun r_22 h_23 =>
appC h_23 T_uint64 1 8 [.int .u64 0] x_20 (x_20n) (x_20c) (some ⟨r_22, 0, none⟩) (1) fun q_24 q_24n q_24c h_25 =>
bindI (IntKind.i64.wrap (i_21 + (1 : Int))) fun z_26 =>
∃ m_16, m_16 < n_17 ∧ J_15 m_16 [.slice q_24 q_24n q_24c, .int .i64 z_26] h_25) <|
ldI h_18 ((⟨r_4, 0, none⟩ : Addr).add 0) .i64 fun x_27 =>
ldI h_18 ((⟨r_4, 0, none⟩ : Addr).add 1) .i64 fun x_28 =>
ldS h_18 ((⟨r_4, 0, none⟩ : Addr).add 2) fun x_29 x_29n x_29c =>
needs (0 ≤ (x_29n : Int) ∧ (x_29n : Int) ≤ ((x_20c : Nat) : Int)) <|
stV h_18 ((⟨r_6, 0, none⟩ : Addr).add 0) (.int .i64 x_27) fun h_30 =>
stV h_30 ((⟨r_6, 0, none⟩ : Addr).add 1) (.int .i64 x_28) fun h_31 =>
stV h_31 ((⟨r_6, 0, none⟩ : Addr).add 2) (.slice (subA x_20 (x_20c) (0) 1) ((x_29n : Int).toNat - 0) (x_20c - 0)) fun h_32 =>
ldI h_32 ((⟨r_6, 0, none⟩ : Addr).add 0) .i64 fun r_33 =>
ldI h_32 ((⟨r_6, 0, none⟩ : Addr).add 1) .i64 fun r_34 =>
ldS h_32 ((⟨r_6, 0, none⟩ : Addr).add 2) fun r_35 r_35n r_35c =>
K (.agg #[.int .i64 r_33, .int .i64 r_34, .slice r_35 r_35n r_35c]) h_32)

/- burin/burinkit.BackBitmap -/
set_option maxRecDepth 100000 in
def burinkit_BackBitmap (C : CallP) (x_1 : Int) (x_2 : Int) (x_3 : Option Addr) (x_3n : Nat) (x_3c : Nat) (b_4 : Int) (b_5 : Int) (b_6 : Option Addr) (b_6n : Nat) (b_6c : Nat) (h : Heap) (K : Value → Heap → Prop) (Kp : List PanicEntry → Heap → Prop) : Prop :=
newC h [.int .i64 x_1, .int .i64 x_2, .slice x_3 x_3n x_3c] T_api_Bitmap fun r_7 h_8 =>
newC h_8 [.int .i64 b_4, .int .i64 b_5, .slice b_6 b_6n b_6c] T_api_Bitmap fun r_9 h_10 =>
ldI h_10 ((⟨r_7, 0, none⟩ : Addr).add 0) .i64 fun x_11 =>
ldI h_10 ((⟨r_7, 0, none⟩ : Addr).add 1) .i64 fun x_12 =>
ldS h_10 ((⟨r_7, 0, none⟩ : Addr).add 2) fun x_13 x_13n x_13c =>
ldI h_10 ((⟨r_9, 0, none⟩ : Addr).add 0) .i64 fun x_14 =>
ldI h_10 ((⟨r_9, 0, none⟩ : Addr).add 1) .i64 fun x_15 =>
ldS h_10 ((⟨r_9, 0, none⟩ : Addr).add 2) fun x_16 x_16n x_16c =>
C F_burinref0_EqBitmap #[.agg #[.int .i64 x_11, .int .i64 x_12, .slice x_13 x_13n x_13c], .agg #[.int .i64 x_14, .int .i64 x_15, .slice x_16 x_16n x_16c]] h_10 (fun v_17 h_18 =>
∃ (r_19 : Bool), v_17 = .bool r_19 ∧ (
ldS h_18 ((⟨r_7, 0, none⟩ : Addr).add 2) fun x_20 x_20n x_20c =>
ldS h_18 ((⟨r_9, 0, none⟩ : Addr).add 2) fun x_21 x_21n x_21c =>
bindI (IntKind.i64.wrap ((x_21n : Int) + (7 : Int))) fun z_22 =>
needs (0 ≤ z_22 ∧ z_22 ≤ ((x_20c : Nat) : Int)) <|
ldS h_18 ((⟨r_9, 0, none⟩ : Addr).add 2) fun x_23 x_23n x_23c =>
∃ J_24 : Nat → List Value → Heap → Prop, (∃ n_26, J_24 n_26 [.bool r_19, .int .i64 (x_23n : Int)] h_18) ∧ ∀ (n_26 : Nat) (h_27 : Heap) (u_28 : Nat → Value) (ok_29 : Bool) (i_30 : Int), J_24 n_26 [.bool ok_29, .int .i64 i_30] h_27 → (
bcase (decide (i_30 < (((z_22.toNat - 0) : Nat) : Int))) (
bcase ok_29 (
needs (0 ≤ i_30 ∧ i_30 < (((z_22.toNat - 0) : Nat) : Int)) <|
ptr (subA x_20 (x_20c) (0) 1) fun a_31 =>
ldI h_27 (a_31.add (i_30.toNat * 1)) .u64 fun x_32 =>
bindI (IntKind.i64.wrap (i_30 + (1 : Int))) fun z_33 =>
∃ m_25, m_25 < n_26 ∧ J_24 m_25 [.bool (x_32 == (42405 : Int)), .int .i64 z_33] h_27) <|
bindI (IntKind.i64.wrap (i_30 + (1 : Int))) fun z_34 =>
∃ m_25, m_25 < n_26 ∧ J_24 m_25 [.bool false, .int .i64 z_34] h_27) <|
∃ J_35 : Nat → List Value → Heap → Prop, (∃ n_37, J_35 n_37 [.int .i64 0] h_27) ∧ ∀ (n_37 : Nat) (h_38 : Heap) (u_39 : Nat → Value) (i_40 : Int), J_35 n_37 [.int .i64 i_40] h_38 → (
bcase (decide (i_40 < (((z_22.toNat - 0) : Nat) : Int))) (
needs (0 ≤ i_40 ∧ i_40 < (((z_22.toNat - 0) : Nat) : Int)) <|
ptr (subA x_20 (x_20c) (0) 1) fun a_41 =>
stV h_38 (a_41.add (i_40.toNat * 1)) (.int .u64 1515870810) fun h_42 =>
bindI (IntKind.i64.wrap (i_40 + (1 : Int))) fun z_43 =>
∃ m_36, m_36 < n_37 ∧ J_35 m_36 [.int .i64 z_43] h_42) <|
K (.bool ok_29) h_38)))) (Kp)

/- burin/burinkit.OverWords -/
set_option maxRecDepth 100000 in
def burinkit_OverWords (C : CallP) (l : Option Addr) (ln : Nat) (lc : Nat) (h : Heap) (K : Value → Heap → Prop) (Kp : List PanicEntry → Heap → Prop) : Prop :=
∃ J_1 : Nat → List Value → Heap → Prop, (∃ n_3, J_1 n_3 [.int .i64 0] h) ∧ ∀ (n_3 : Nat) (h_4 : Heap) (u_5 : Nat → Value) (i_6 : Int), J_1 n_3 [.int .i64 i_6] h_4 → (
bcase (decide (i_6 < (ln : Int))) (
needs (0 ≤ i_6 ∧ i_6 < (ln : Int)) <|
ptr l fun a_7 =>
stV h_4 (a_7.add (i_6.toNat * 1)) (.int .u64 23130) fun h_8 =>
bindI (IntKind.i64.wrap (i_6 + (1 : Int))) fun z_9 =>
∃ m_2, m_2 < n_3 ∧ J_1 m_2 [.int .i64 z_9] h_8) <|
newC h_4 [.int .u64 1, .int .u64 2] T_uint64 fun r_10 h_11 =>
appC h_11 T_uint64 1 8 [.int .u64 0] l (ln) (lc) (some ⟨r_10, 0, none⟩) (2) fun q_12 q_12n q_12c h_13 =>
needs (0 ≤ (ln : Int) ∧ (ln : Int) < (q_12n : Int)) <|
ptr q_12 fun a_14 =>
stV h_13 (a_14.add ((ln : Int).toNat * 1)) (.int .u64 23130) fun h_15 =>
K (.tuple #[]) h_15)

/- burin/burinkit.Within -/
set_option maxRecDepth 100000 in
def burinkit_Within (C : CallP) (i : Int) (n : Int) (h : Heap) (K : Value → Heap → Prop) (Kp : List PanicEntry → Heap → Prop) : Prop :=
needs (IntKind.i64 = IntKind.i64 ∧ n ≠ 0) <|
bindI (i.tmod n) fun z_1 =>
bcase (decide (z_1 < (0 : Int))) (
bindI (IntKind.i64.wrap (z_1 + n)) fun z_2 =>
K (.int .i64 z_2) h) <|
K (.int .i64 z_1) h

/- burin/burinkit.Over -/
set_option maxRecDepth 100000 in
def burinkit_Over (C : CallP) (b : Option Addr) (bn : Nat) (bc : Nat) (h : Heap) (K : Value → Heap → Prop) (Kp : List PanicEntry → Heap → Prop) : Prop :=
∃ J_1 : Nat → List Value → Heap → Prop, (∃ n_3, J_1 n_3 [.int .i64 0] h) ∧ ∀ (n_3 : Nat) (h_4 : Heap) (u_5 : Nat → Value) (i_6 : Int), J_1 n_3 [.int .i64 i_6] h_4 → (
bcase (decide (i_6 < (bn : Int))) (
needs (0 ≤ i_6 ∧ i_6 < (bn : Int)) <|
ptr b fun a_7 =>
stV h_4 (a_7.add (i_6.toNat * 1)) (.int .u8 90) fun h_8 =>
bindI (IntKind.i64.wrap (i_6 + (1 : Int))) fun z_9 =>
∃ m_2, m_2 < n_3 ∧ J_1 m_2 [.int .i64 z_9] h_8) <|
newC h_4 [.int .u8 1, .int .u8 2, .int .u8 3] T_uint8 fun r_10 h_11 =>
appC h_11 T_uint8 1 1 [.int .u8 0] b (bn) (bc) (some ⟨r_10, 0, none⟩) (3) fun q_12 q_12n q_12c h_13 =>
needs (0 ≤ (bn : Int) ∧ (bn : Int) < (q_12n : Int)) <|
ptr q_12 fun a_14 =>
stV h_13 (a_14.add ((bn : Int).toNat * 1)) (.int .u8 90) fun h_15 =>
K (.tuple #[]) h_15)

/- burin/burinkit.Lend -/
set_option maxRecDepth 100000 in
def burinkit_Lend (C : CallP) (b : Option Addr) (bn : Nat) (bc : Nat) (h : Heap) (K : Value → Heap → Prop) (Kp : List PanicEntry → Heap → Prop) : Prop :=
bindI (IntKind.i64.wrap ((bn : Int) + (7 : Int))) fun z_1 =>
needs (0 ≤ (0 : Int) ∧ (0 : Int) ≤ z_1 ∧ z_1 ≤ 9223372036854775807 ∧ ((1 : Nat) : Int) * z_1 ≤ 281474976710656) <|
newC h (repZ [.int .u8 0] z_1.toNat) T_uint8 fun r_2 h_3 =>
appC h_3 T_uint8 1 1 [.int .u8 0] (some ⟨r_2, 0, none⟩) ((0 : Int).toNat) (z_1.toNat) b (bn) fun q_4 q_4n q_4c h_5 =>
∃ J_6 : Nat → List Value → Heap → Prop, (∃ n_8, J_6 n_8 [.slice q_4 q_4n q_4c, .int .i64 0] h_5) ∧ ∀ (n_8 : Nat) (h_9 : Heap) (u_10 : Nat → Value) (x_11 : Option Addr) (x_11n : Nat) (x_11c : Nat) (i_12 : Int), J_6 n_8 [.slice x_11 x_11n x_11c, .int .i64 i_12] h_9 → (
bcase (decide (i_12 < (7 : Int))) (
newC h_9 [.int .u8 165] T_uint8 fun r_13 h_14 =>
appC h_14 T_uint8 1 1 [.int .u8 0] x_11 (x_11n) (x_11c) (some ⟨r_13, 0, none⟩) (1) fun q_15 q_15n q_15c h_16 =>
bindI (IntKind.i64.wrap (i_12 + (1 : Int))) fun z_17 =>
∃ m_7, m_7 < n_8 ∧ J_6 m_7 [.slice q_15 q_15n q_15c, .int .i64 z_17] h_16) <|
needs (0 ≤ (bn : Int) ∧ (bn : Int) ≤ ((x_11c : Nat) : Int)) <|
K (.slice (subA x_11 (x_11c) (0) 1) ((bn : Int).toNat - 0) (x_11c - 0)) h_9)

/- burin/burinkit.Back -/
set_option maxRecDepth 100000 in
def burinkit_Back (C : CallP) (x : Option Addr) (xn : Nat) (xc : Nat) (b : Option Addr) (bn : Nat) (bc : Nat) (h : Heap) (K : Value → Heap → Prop) (Kp : List PanicEntry → Heap → Prop) : Prop :=
C F_burinref0_Eq #[.slice x xn xc, .slice b bn bc] h (fun v_1 h_2 =>
∃ (r_3 : Bool), v_1 = .bool r_3 ∧ (
bindI (IntKind.i64.wrap ((bn : Int) + (7 : Int))) fun z_4 =>
needs (0 ≤ z_4 ∧ z_4 ≤ ((xc : Nat) : Int)) <|
∃ J_5 : Nat → List Value → Heap → Prop, (∃ n_7, J_5 n_7 [.bool r_3, .int .i64 (bn : Int)] h_2) ∧ ∀ (n_7 : Nat) (h_8 : Heap) (u_9 : Nat → Value) (ok_10 : Bool) (i_11 : Int), J_5 n_7 [.bool ok_10, .int .i64 i_11] h_8 → (
bcase (decide (i_11 < (((z_4.toNat - 0) : Nat) : Int))) (
bcase ok_10 (
needs (0 ≤ i_11 ∧ i_11 < (((z_4.toNat - 0) : Nat) : Int)) <|
ptr (subA x (xc) (0) 1) fun a_12 =>
ldI h_8 (a_12.add (i_11.toNat * 1)) .u8 fun x_13 =>
bindI (IntKind.i64.wrap (i_11 + (1 : Int))) fun z_14 =>
∃ m_6, m_6 < n_7 ∧ J_5 m_6 [.bool (x_13 == (165 : Int)), .int .i64 z_14] h_8) <|
bindI (IntKind.i64.wrap (i_11 + (1 : Int))) fun z_15 =>
∃ m_6, m_6 < n_7 ∧ J_5 m_6 [.bool false, .int .i64 z_15] h_8) <|
∃ J_16 : Nat → List Value → Heap → Prop, (∃ n_18, J_16 n_18 [.int .i64 0] h_8) ∧ ∀ (n_18 : Nat) (h_19 : Heap) (u_20 : Nat → Value) (i_21 : Int), J_16 n_18 [.int .i64 i_21] h_19 → (
bcase (decide (i_21 < (((z_4.toNat - 0) : Nat) : Int))) (
needs (0 ≤ i_21 ∧ i_21 < (((z_4.toNat - 0) : Nat) : Int)) <|
ptr (subA x (xc) (0) 1) fun a_22 =>
stV h_19 (a_22.add (i_21.toNat * 1)) (.int .u8 90) fun h_23 =>
bindI (IntKind.i64.wrap (i_21 + (1 : Int))) fun z_24 =>
∃ m_17, m_17 < n_18 ∧ J_16 m_17 [.int .i64 z_24] h_23) <|
K (.bool ok_10) h_19)))) (Kp)

end Go.Den.Ytlmopdohgipbeaa
