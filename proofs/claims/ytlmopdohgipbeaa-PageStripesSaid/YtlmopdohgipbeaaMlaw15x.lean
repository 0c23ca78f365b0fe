/- Written by gen.py: the conditions of the functions of law15x. -/
import Derived.Test.YtlmopdohgipbeaaNums
set_option linter.unusedVariables false
set_option linter.unusedSimpArgs false
namespace Go.Den.Ytlmopdohgipbeaa
open Go Go.Den

/- burin/burinlaw15.wakes -/
set_option maxRecDepth 100000 in
def burinlaw15_wakes (C : CallP)  (h : Heap) (K : Value → Heap → Prop) (Kp : List PanicEntry → Heap → Prop) : Prop :=
C F_page_New #[.agg #[.int .i64 3, .int .i64 3, .int .i64 0, .int .i64 2]] h (fun v_1 h_2 =>
∃ (r_3 : Option Addr), ∃ (r_4 : Int), v_1 = .tuple #[.pointer r_3, .int .i64 r_4] ∧ (
bcase (r_4 != (0 : Int)) (
K (.bool false) h_2) <|
bcase r_3.isNone (
K (.bool false) h_2) <|
newC h_2 [.int .u64 9223372036854775808] T_uint64 fun r_5 h_6 =>
C F_page_Page_Add #[.pointer r_3, .int .i64 0, .int .i64 0, .int .i64 0, .agg #[.int .i64 1, .int .i64 1, .slice (some ⟨r_5, 0, none⟩) 1 1]] h_6 (fun v_7 h_8 =>
∃ (r_9 : Int), v_7 = .int .i64 r_9 ∧ (
bcase (r_9 != (0 : Int)) (
K (.bool false) h_8) <|
C F_page_Page_Stripe #[.pointer r_3, .int .i64 2] h_8 (fun v_10 h_11 =>
∃ (r_12 : Int), v_10 = .int .i64 r_12 ∧ (
bcase (r_12 != (151 : Int)) (
K (.bool false) h_11) <|
C F_page_Page_Stripe #[.pointer r_3, .int .i64 1] h_11 (fun v_13 h_14 =>
∃ (r_15 : Int), v_13 = .int .i64 r_15 ∧ (
bcase (r_15 != (0 : Int)) (
K (.bool false) h_14) <|
C F_page_Page_Next #[.pointer r_3] h_14 (fun v_16 h_17 =>
∃ (r_18 : Int), v_16 = .int .i64 r_18 ∧ (
bcase (r_18 != (2 : Int)) (
K (.bool false) h_17) <|
C F_page_Page_Stripe #[.pointer r_3, .int .i64 2] h_17 (fun v_19 h_20 =>
∃ (r_21 : Int), v_19 = .int .i64 r_21 ∧ (
bcase (r_21 != (0 : Int)) (
K (.bool false) h_20) <|
C F_page_Page_End #[.pointer r_3] h_20 (fun v_22 h_23 =>
∃ (r_24 : Int) (r_25 : Int) (r_26 : Option Addr) (r_26n : Nat) (r_26c : Nat), ∃ (r_27 : Int), v_22 = .tuple #[.agg #[.int .i64 r_24, .int .i64 r_25, .slice r_26 r_26n r_26c], .int .i64 r_27] ∧ (
newC h_23 [.int .i64 0, .int .i64 0, .slice none 0 0] T_api_Bitmap fun r_28 h_29 =>
stV h_29 ((⟨r_28, 0, none⟩ : Addr).add 0) (.int .i64 r_24) fun h_30 =>
stV h_30 ((⟨r_28, 0, none⟩ : Addr).add 1) (.int .i64 r_25) fun h_31 =>
stV h_31 ((⟨r_28, 0, none⟩ : Addr).add 2) (.slice r_26 r_26n r_26c) fun h_32 =>
bcase (r_27 == (0 : Int)) (
ldI h_32 ((⟨r_28, 0, none⟩ : Addr).add 0) .i64 fun x_33 =>
ldI h_32 ((⟨r_28, 0, none⟩ : Addr).add 1) .i64 fun x_34 =>
ldS h_32 ((⟨r_28, 0, none⟩ : Addr).add 2) fun x_35 x_35n x_35c =>
newC h_32 [.int .u64 9223372036854775808, .int .u64 0, .int .u64 0] T_uint64 fun r_36 h_37 =>
C F_burinref0_EqBitmap #[.agg #[.int .i64 x_33, .int .i64 x_34, .slice x_35 x_35n x_35c], .agg #[.int .i64 3, .int .i64 3, .slice (some ⟨r_36, 0, none⟩) 3 3]] h_37 (fun v_38 h_39 =>
∃ (r_40 : Bool), v_38 = .bool r_40 ∧ (
K (.bool r_40) h_39)) (Kp)) <|
K (.bool false) h_32)) (Kp))) (Kp))) (Kp))) (Kp))) (Kp))) (Kp))) (Kp)

end Go.Den.Ytlmopdohgipbeaa
