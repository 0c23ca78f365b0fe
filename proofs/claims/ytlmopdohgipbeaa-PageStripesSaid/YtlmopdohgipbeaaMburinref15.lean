/- Written by gen.py: the conditions of the functions of burinref15. -/
import Derived.Test.YtlmopdohgipbeaaNums
set_option linter.unusedVariables false
set_option linter.unusedSimpArgs false
namespace Go.Den.Ytlmopdohgipbeaa
open Go Go.Den

/- burin/burinref15.MaySheet -/
set_option maxRecDepth 100000 in
def burinref15_MaySheet (C : CallP) (s_1 : Int) (s_2 : Int) (s_3 : Int) (s_4 : Int) (h : Heap) (K : Value → Heap → Prop) (Kp : List PanicEntry → Heap → Prop) : Prop :=
newC h [.int .i64 s_1, .int .i64 s_2, .int .i64 s_3, .int .i64 s_4] T_api_Sheet fun r_5 h_6 =>
ldI h_6 ((⟨r_5, 0, none⟩ : Addr).add 0) .i64 fun x_7 =>
ldI h_6 ((⟨r_5, 0, none⟩ : Addr).add 1) .i64 fun x_8 =>
C F_burinref0_Size #[.int .i64 x_7, .int .i64 x_8] h_6 (fun v_9 h_10 =>
∃ (r_11 : Bool), v_9 = .bool r_11 ∧ (
bcase r_11 (
ldI h_10 ((⟨r_5, 0, none⟩ : Addr).add 2) .i64 fun x_12 =>
bcase (x_12 == (0 : Int)) (
ldI h_10 ((⟨r_5, 0, none⟩ : Addr).add 3) .i64 fun x_13 =>
bcase (decide (x_13 ≥ (0 : Int))) (
ldI h_10 ((⟨r_5, 0, none⟩ : Addr).add 3) .i64 fun x_14 =>
K (.bool (decide (x_14 ≤ (1048576 : Int)))) h_10) <|
K (.bool false) h_10) <|
ldI h_10 ((⟨r_5, 0, none⟩ : Addr).add 2) .i64 fun x_15 =>
bcase (x_15 == (1 : Int)) (
ldI h_10 ((⟨r_5, 0, none⟩ : Addr).add 3) .i64 fun x_16 =>
bcase (decide (x_16 ≥ (0 : Int))) (
ldI h_10 ((⟨r_5, 0, none⟩ : Addr).add 3) .i64 fun x_17 =>
K (.bool (decide (x_17 ≤ (1048576 : Int)))) h_10) <|
K (.bool false) h_10) <|
K (.bool false) h_10) <|
K (.bool false) h_10)) (Kp)

/- burin/burinref15.New -/
set_option maxRecDepth 100000 in
def burinref15_New (C : CallP) (s_1 : Int) (s_2 : Int) (s_3 : Int) (s_4 : Int) (h : Heap) (K : Value → Heap → Prop) (Kp : List PanicEntry → Heap → Prop) : Prop :=
newC h [.int .i64 s_1, .int .i64 s_2, .int .i64 s_3, .int .i64 s_4] T_api_Sheet fun r_5 h_6 =>
ldI h_6 ((⟨r_5, 0, none⟩ : Addr).add 0) .i64 fun x_7 =>
ldI h_6 ((⟨r_5, 0, none⟩ : Addr).add 1) .i64 fun x_8 =>
ldI h_6 ((⟨r_5, 0, none⟩ : Addr).add 2) .i64 fun x_9 =>
ldI h_6 ((⟨r_5, 0, none⟩ : Addr).add 3) .i64 fun x_10 =>
ldI h_6 ((⟨r_5, 0, none⟩ : Addr).add 0) .i64 fun x_11 =>
ldI h_6 ((⟨r_5, 0, none⟩ : Addr).add 1) .i64 fun x_12 =>
C F_burinref0_White #[.int .i64 x_11, .int .i64 x_12] h_6 (fun v_13 h_14 =>
∃ (r_15 : Int) (r_16 : Int) (r_17 : Option Addr) (r_17n : Nat) (r_17c : Nat), v_13 = .agg #[.int .i64 r_15, .int .i64 r_16, .slice r_17 r_17n r_17c] ∧ (
hext h_6 h_14 ∧ (
newC h_14 [.int .i64 x_7, .int .i64 x_8, .int .i64 x_9, .int .i64 x_10, .int .i64 r_15, .int .i64 r_16, .slice r_17 r_17n r_17c, .int .i64 0, .bool false] T_burinref15_Page fun r_18 h_19 =>
∃ J_20 : Nat → List Value → Heap → Prop, (∃ n_22, J_20 n_22 [.int .i64 0] h_19) ∧ ∀ (n_22 : Nat) (h_23 : Heap) (u_24 : Nat → Value) (y_25 : Int), J_20 n_22 [.int .i64 y_25] h_23 → (
ldI h_23 ((⟨r_5, 0, none⟩ : Addr).add 1) .i64 fun x_26 =>
bcase (decide (y_25 < x_26)) (
ldI h_23 ((⟨r_5, 0, none⟩ : Addr).add 2) .i64 fun x_27 =>
bcase (x_27 == (1 : Int)) (
∃ J_28 : Nat → List Value → Heap → Prop, (∃ n_30, J_28 n_30 [.int .i64 0] h_23) ∧ ∀ (n_30 : Nat) (h_31 : Heap) (u_32 : Nat → Value) (x_33 : Int), J_28 n_30 [.int .i64 x_33] h_31 → (
ldI h_31 ((⟨r_5, 0, none⟩ : Addr).add 0) .i64 fun x_34 =>
bcase (decide (x_33 < x_34)) (
ldI h_31 (((⟨r_18, 0, none⟩ : Addr).add 4).add 0) .i64 fun x_35 =>
ldI h_31 (((⟨r_18, 0, none⟩ : Addr).add 4).add 1) .i64 fun x_36 =>
ldS h_31 (((⟨r_18, 0, none⟩ : Addr).add 4).add 2) fun x_37 x_37n x_37c =>
C F_burinref0_Put #[.agg #[.int .i64 x_35, .int .i64 x_36, .slice x_37 x_37n x_37c], .int .i64 x_33, .int .i64 y_25, .int .i64 1] h_31 (fun v_38 h_39 =>
bindI (IntKind.i64.wrap (x_33 + (1 : Int))) fun z_40 =>
∃ m_29, m_29 < n_30 ∧ J_28 m_29 [.int .i64 z_40] h_39) (Kp)) <|
bindI (IntKind.i64.wrap (y_25 + (1 : Int))) fun z_41 =>
∃ m_21, m_21 < n_22 ∧ J_20 m_21 [.int .i64 z_41] h_31)) <|
K (.pointer (some ⟨r_18, 0, none⟩)) h_23) <|
K (.pointer (some ⟨r_18, 0, none⟩)) h_23)))) (Kp)

/- (*burin/burinref15.Page).Add -/
set_option maxRecDepth 100000 in
def burinref15_Page_Add (C : CallP) (a0 : Option Addr) (a1 : Int) (a2 : Int) (a3 : Int) (a4_1 : Int) (a4_2 : Int) (a4_3 : Option Addr) (a4_3n : Nat) (a4_3c : Nat) (h : Heap) (K : Value → Heap → Prop) (Kp : List PanicEntry → Heap → Prop) : Prop :=
newC h [.int .i64 a4_1, .int .i64 a4_2, .slice a4_3 a4_3n a4_3c] T_api_Bitmap fun r_4 h_5 =>
C F_burinref15_mayOp #[.int .i64 a3] h_5 (fun v_6 h_7 =>
∃ (r_8 : Bool), v_6 = .bool r_8 ∧ (
bcase (!r_8) (
K (.int .i64 150) h_7) <|
ldI h_7 ((⟨r_4, 0, none⟩ : Addr).add 0) .i64 fun x_9 =>
ldI h_7 ((⟨r_4, 0, none⟩ : Addr).add 1) .i64 fun x_10 =>
ldS h_7 ((⟨r_4, 0, none⟩ : Addr).add 2) fun x_11 x_11n x_11c =>
C F_burinref0_May #[.agg #[.int .i64 x_9, .int .i64 x_10, .slice x_11 x_11n x_11c]] h_7 (fun v_12 h_13 =>
∃ (r_14 : Bool), v_12 = .bool r_14 ∧ (
bcase (!r_14) (
K (.int .i64 150) h_13) <|
∃ K_15 : List Value → Heap → Prop, (
ptr a0 fun a_18 =>
ldB h_13 (a_18.add 8) fun x_19 =>
bcase x_19 (
K_15 [.bool true] h_13) <|
ptr a0 fun a_20 =>
ldI h_13 (a_20.add 7) .i64 fun x_21 =>
bcase (decide (a2 < x_21)) (
K_15 [.bool true] h_13) <|
ptr a0 fun a_22 =>
ldI h_13 ((a_22.add 0).add 3) .i64 fun x_23 =>
bcase (decide (x_23 > (0 : Int))) (
ptr a0 fun a_24 =>
ptr a0 fun a_25 =>
ldI h_13 (a_24.add 7) .i64 fun x_26 =>
ldI h_13 ((a_25.add 0).add 3) .i64 fun x_27 =>
bindI (IntKind.i64.wrap (x_26 + x_27)) fun z_28 =>
ldI h_13 ((⟨r_4, 0, none⟩ : Addr).add 1) .i64 fun x_29 =>
bindI (IntKind.i64.wrap (z_28 - x_29)) fun z_30 =>
K_15 [.bool (decide (a2 > z_30))] h_13) <|
K_15 [.bool false] h_13) ∧ ∀ (h_16 : Heap) (u_17 : Nat → Value) (x_31 : Bool), K_15 [.bool x_31] h_16 → (
bcase x_31 (
K (.int .i64 151) h_16) <|
ptr a0 fun a_32 =>
ldI h_16 ((a_32.add 4).add 0) .i64 fun x_33 =>
ldI h_16 ((a_32.add 4).add 1) .i64 fun x_34 =>
ldS h_16 ((a_32.add 4).add 2) fun x_35 x_35n x_35c =>
ldI h_16 ((⟨r_4, 0, none⟩ : Addr).add 0) .i64 fun x_36 =>
ldI h_16 ((⟨r_4, 0, none⟩ : Addr).add 1) .i64 fun x_37 =>
ldS h_16 ((⟨r_4, 0, none⟩ : Addr).add 2) fun x_38 x_38n x_38c =>
C F_burinref0_Lay #[.agg #[.int .i64 x_33, .int .i64 x_34, .slice x_35 x_35n x_35c], .int .i64 a1, .int .i64 a2, .int .i64 a3, .agg #[.int .i64 x_36, .int .i64 x_37, .slice x_38 x_38n x_38c]] h_16 (fun v_39 h_40 =>
K (.int .i64 0) h_40) (Kp)))) (Kp))) (Kp)

/- (*burin/burinref15.Page).Stripe -/
set_option maxRecDepth 100000 in
def burinref15_Page_Stripe (C : CallP) (a0 : Option Addr) (a1 : Int) (h : Heap) (K : Value → Heap → Prop) (Kp : List PanicEntry → Heap → Prop) : Prop :=
ptr a0 fun a_1 =>
ptr a0 fun a_2 =>
ldI h (a_1.add 7) .i64 fun x_3 =>
ldI h ((a_2.add 0).add 3) .i64 fun x_4 =>
bindI (IntKind.i64.wrap (x_3 + x_4)) fun z_5 =>
bindI (IntKind.i64.wrap (z_5 - (1 : Int))) fun z_6 =>
∃ K_7 : List Value → Heap → Prop, (
ptr a0 fun a_10 =>
ldI h ((a_10.add 0).add 1) .i64 fun x_11 =>
bindI (IntKind.i64.wrap (x_11 - (1 : Int))) fun z_12 =>
bcase (decide (z_6 > z_12)) (
ptr a0 fun a_13 =>
ldI h ((a_13.add 0).add 1) .i64 fun x_14 =>
bindI (IntKind.i64.wrap (x_14 - (1 : Int))) fun z_15 =>
K_7 [.int .i64 z_15] h) <|
K_7 [.int .i64 z_6] h) ∧ ∀ (h_8 : Heap) (u_9 : Nat → Value) (x_16 : Int), K_7 [.int .i64 x_16] h_8 → (
ptr a0 fun a_17 =>
ldB h_8 (a_17.add 8) fun x_18 =>
bcase x_18 (
K (.int .i64 151) h_8) <|
ptr a0 fun a_19 =>
ldI h_8 ((a_19.add 0).add 3) .i64 fun x_20 =>
bcase (x_20 == (0 : Int)) (
K (.int .i64 151) h_8) <|
ptr a0 fun a_21 =>
ptr a0 fun a_22 =>
ldI h_8 (a_21.add 7) .i64 fun x_23 =>
ldI h_8 ((a_22.add 0).add 1) .i64 fun x_24 =>
bcase (x_23 == x_24) (
K (.int .i64 151) h_8) <|
bcase (a1 != x_16) (
K (.int .i64 151) h_8) <|
bindI (IntKind.i64.wrap (a1 + (1 : Int))) fun z_25 =>
ptr a0 fun a_26 =>
stV h_8 (a_26.add 7) (.int .i64 z_25) fun h_27 =>
K (.int .i64 0) h_27)

/- (*burin/burinref15.Page).End -/
set_option maxRecDepth 100000 in
def burinref15_Page_End (C : CallP) (p : Option Addr) (h : Heap) (K : Value → Heap → Prop) (Kp : List PanicEntry → Heap → Prop) : Prop :=
newC h [.int .i64 0, .int .i64 0, .slice none 0 0] T_api_Bitmap fun r_1 h_2 =>
∃ K_3 : List Value → Heap → Prop, (
ptr p fun a_6 =>
ldB h_2 (a_6.add 8) fun x_7 =>
bcase x_7 (
stV h_2 ((⟨r_1, 0, none⟩ : Addr).add 0) (.int .i64 0) fun h_8 =>
stV h_8 ((⟨r_1, 0, none⟩ : Addr).add 1) (.int .i64 0) fun h_9 =>
stV h_9 ((⟨r_1, 0, none⟩ : Addr).add 2) (.slice none 0 0) fun h_10 =>
ldI h_10 ((⟨r_1, 0, none⟩ : Addr).add 0) .i64 fun r_11 =>
ldI h_10 ((⟨r_1, 0, none⟩ : Addr).add 1) .i64 fun r_12 =>
ldS h_10 ((⟨r_1, 0, none⟩ : Addr).add 2) fun r_13 r_13n r_13c =>
K (.tuple #[.agg #[.int .i64 r_11, .int .i64 r_12, .slice r_13 r_13n r_13c], .int .i64 151]) h_10) <|
ptr p fun a_14 =>
ldI h_2 ((a_14.add 0).add 3) .i64 fun x_15 =>
bcase (decide (x_15 > (0 : Int))) (
ptr p fun a_16 =>
ptr p fun a_17 =>
ldI h_2 (a_16.add 7) .i64 fun x_18 =>
ldI h_2 ((a_17.add 0).add 1) .i64 fun x_19 =>
bcase (decide (x_18 < x_19)) (
stV h_2 ((⟨r_1, 0, none⟩ : Addr).add 0) (.int .i64 0) fun h_20 =>
stV h_20 ((⟨r_1, 0, none⟩ : Addr).add 1) (.int .i64 0) fun h_21 =>
stV h_21 ((⟨r_1, 0, none⟩ : Addr).add 2) (.slice none 0 0) fun h_22 =>
ldI h_22 ((⟨r_1, 0, none⟩ : Addr).add 0) .i64 fun r_23 =>
ldI h_22 ((⟨r_1, 0, none⟩ : Addr).add 1) .i64 fun r_24 =>
ldS h_22 ((⟨r_1, 0, none⟩ : Addr).add 2) fun r_25 r_25n r_25c =>
K (.tuple #[.agg #[.int .i64 r_23, .int .i64 r_24, .slice r_25 r_25n r_25c], .int .i64 151]) h_22) <|
K_3 [] h_2) <|
K_3 [] h_2) ∧ ∀ (h_4 : Heap) (u_5 : Nat → Value) , K_3 [] h_4 → (
ptr p fun a_26 =>
stV h_4 (a_26.add 8) (.bool true) fun h_27 =>
ptr p fun a_28 =>
ldI h_27 ((a_28.add 0).add 1) .i64 fun x_29 =>
ptr p fun a_30 =>
stV h_27 (a_30.add 7) (.int .i64 x_29) fun h_31 =>
ptr p fun a_32 =>
ldI h_31 ((a_32.add 4).add 0) .i64 fun x_33 =>
ldI h_31 ((a_32.add 4).add 1) .i64 fun x_34 =>
ldS h_31 ((a_32.add 4).add 2) fun x_35 x_35n x_35c =>
C F_burinref0_CopyBitmap #[.agg #[.int .i64 x_33, .int .i64 x_34, .slice x_35 x_35n x_35c]] h_31 (fun v_36 h_37 =>
∃ (r_38 : Int) (r_39 : Int) (r_40 : Option Addr) (r_40n : Nat) (r_40c : Nat), v_36 = .agg #[.int .i64 r_38, .int .i64 r_39, .slice r_40 r_40n r_40c] ∧ (
stV h_37 ((⟨r_1, 0, none⟩ : Addr).add 0) (.int .i64 r_38) fun h_41 =>
stV h_41 ((⟨r_1, 0, none⟩ : Addr).add 1) (.int .i64 r_39) fun h_42 =>
stV h_42 ((⟨r_1, 0, none⟩ : Addr).add 2) (.slice r_40 r_40n r_40c) fun h_43 =>
ldI h_43 ((⟨r_1, 0, none⟩ : Addr).add 0) .i64 fun r_44 =>
ldI h_43 ((⟨r_1, 0, none⟩ : Addr).add 1) .i64 fun r_45 =>
ldS h_43 ((⟨r_1, 0, none⟩ : Addr).add 2) fun r_46 r_46n r_46c =>
K (.tuple #[.agg #[.int .i64 r_44, .int .i64 r_45, .slice r_46 r_46n r_46c], .int .i64 0]) h_43)) (Kp))

/- burin/burinref15.mayOp -/
set_option maxRecDepth 100000 in
def burinref15_mayOp (C : CallP) (op : Int) (h : Heap) (K : Value → Heap → Prop) (Kp : List PanicEntry → Heap → Prop) : Prop :=
bcase (decide (op ≥ (0 : Int))) (
K (.bool (decide (op ≤ (4 : Int)))) h) <|
K (.bool false) h

end Go.Den.Ytlmopdohgipbeaa
