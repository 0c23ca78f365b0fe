/- Written by gen.py: the conditions of the functions of page. -/
import Derived.Test.YtlmopdohgipbeaaNums
set_option linter.unusedVariables false
set_option linter.unusedSimpArgs false
namespace Go.Den.Ytlmopdohgipbeaa
open Go Go.Den

/- burin/page.New -/
set_option maxRecDepth 100000 in
def page_New (C : CallP) (s_1 : Int) (s_2 : Int) (s_3 : Int) (s_4 : Int) (h : Heap) (K : Value → Heap → Prop) (Kp : List PanicEntry → Heap → Prop) : Prop :=
newC h [.int .i64 s_1, .int .i64 s_2, .int .i64 s_3, .int .i64 s_4] T_api_Sheet fun r_5 h_6 =>
ldI h_6 ((⟨r_5, 0, none⟩ : Addr).add 0) .i64 fun x_7 =>
ldI h_6 ((⟨r_5, 0, none⟩ : Addr).add 1) .i64 fun x_8 =>
ldI h_6 ((⟨r_5, 0, none⟩ : Addr).add 2) .i64 fun x_9 =>
ldI h_6 ((⟨r_5, 0, none⟩ : Addr).add 3) .i64 fun x_10 =>
C F_page_sheet #[.agg #[.int .i64 x_7, .int .i64 x_8, .int .i64 x_9, .int .i64 x_10]] h_6 (fun v_11 h_12 =>
∃ (r_13 : Bool), v_11 = .bool r_13 ∧ (
bcase (!r_13) (
K (.tuple #[.pointer none, .int .i64 150]) h_12) <|
ldI h_12 ((⟨r_5, 0, none⟩ : Addr).add 0) .i64 fun x_14 =>
ldI h_12 ((⟨r_5, 0, none⟩ : Addr).add 1) .i64 fun x_15 =>
C F_bitmap_New #[.int .i64 x_14, .int .i64 x_15] h_12 (fun v_16 h_17 =>
∃ (r_18 : Option Addr), ∃ (r_19 : Int), v_16 = .tuple #[.pointer r_18, .int .i64 r_19] ∧ (
bcase (r_19 != (0 : Int)) (
K (.tuple #[.pointer none, .int .i64 150]) h_17) <|
ldI h_17 ((⟨r_5, 0, none⟩ : Addr).add 0) .i64 fun x_20 =>
ldI h_17 ((⟨r_5, 0, none⟩ : Addr).add 1) .i64 fun x_21 =>
ldI h_17 ((⟨r_5, 0, none⟩ : Addr).add 2) .i64 fun x_22 =>
C F_bitmap_Map_Fill #[.pointer r_18, .int .i64 0, .int .i64 0, .int .i64 x_20, .int .i64 x_21, .int .i64 x_22] h_17 (fun v_23 h_24 =>
∃ (r_25 : Int), v_23 = .int .i64 r_25 ∧ (
ldI h_24 ((⟨r_5, 0, none⟩ : Addr).add 0) .i64 fun x_26 =>
ldI h_24 ((⟨r_5, 0, none⟩ : Addr).add 1) .i64 fun x_27 =>
ldI h_24 ((⟨r_5, 0, none⟩ : Addr).add 2) .i64 fun x_28 =>
ldI h_24 ((⟨r_5, 0, none⟩ : Addr).add 3) .i64 fun x_29 =>
newC h_24 [.int .i64 x_26, .int .i64 x_27, .int .i64 x_28, .int .i64 x_29, .pointer r_18, .int .i64 0, .bool false] T_page_Page fun r_30 h_31 =>
K (.tuple #[.pointer (some ⟨r_30, 0, none⟩), .int .i64 0]) h_31)) (Kp))) (Kp))) (Kp)

/- (*burin/page.Page).Add -/
set_option maxRecDepth 100000 in
def page_Page_Add (C : CallP) (a0 : Option Addr) (a1 : Int) (a2 : Int) (a3 : Int) (a4_1 : Int) (a4_2 : Int) (a4_3 : Option Addr) (a4_3n : Nat) (a4_3c : Nat) (h : Heap) (K : Value → Heap → Prop) (Kp : List PanicEntry → Heap → Prop) : Prop :=
newC h [.int .i64 a4_1, .int .i64 a4_2, .slice a4_3 a4_3n a4_3c] T_api_Bitmap fun r_4 h_5 =>
ldI h_5 ((⟨r_4, 0, none⟩ : Addr).add 0) .i64 fun x_6 =>
ldI h_5 ((⟨r_4, 0, none⟩ : Addr).add 1) .i64 fun x_7 =>
ldS h_5 ((⟨r_4, 0, none⟩ : Addr).add 2) fun x_8 x_8n x_8c =>
C F_bitmap_From #[.agg #[.int .i64 x_6, .int .i64 x_7, .slice x_8 x_8n x_8c]] h_5 (fun v_9 h_10 =>
∃ (r_11 : Option Addr), ∃ (r_12 : Int), v_9 = .tuple #[.pointer r_11, .int .i64 r_12] ∧ (
∃ K_13 : List Value → Heap → Prop, (
∃ K_16 : List Value → Heap → Prop, (
C F_page_operation #[.int .i64 a3] h_10 (fun v_19 h_20 =>
∃ (r_21 : Bool), v_19 = .bool r_21 ∧ (
bcase (!r_21) (
K_16 [.bool (!r_21)] h_20) <|
K_16 [.bool (r_12 != (0 : Int))] h_20)) (Kp)) ∧ ∀ (h_17 : Heap) (u_18 : Nat → Value) (x_22 : Bool), K_16 [.bool x_22] h_17 → (
bcase x_22 (
K (.int .i64 150) h_17) <|
ptr a0 fun a_23 =>
ldB h_17 (a_23.add 6) fun x_24 =>
bcase x_24 (
bcase x_24 (
K (.int .i64 151) h_17) <|
K_13 [] h_17) <|
ptr a0 fun a_25 =>
ldI h_17 (a_25.add 5) .i64 fun x_26 =>
bcase (decide (a2 < x_26)) (
bcase (decide (a2 < x_26)) (
K (.int .i64 151) h_17) <|
K_13 [] h_17) <|
ptr a0 fun a_27 =>
ldI h_17 ((a_27.add 0).add 3) .i64 fun x_28 =>
bcase (x_28 != (0 : Int)) (
ptr a0 fun a_29 =>
ptr a0 fun a_30 =>
ldI h_17 (a_29.add 5) .i64 fun x_31 =>
bindI (IntKind.i64.wrap (a2 - x_31)) fun z_32 =>
ldI h_17 ((a_30.add 0).add 3) .i64 fun x_33 =>
ldI h_17 ((⟨r_4, 0, none⟩ : Addr).add 1) .i64 fun x_34 =>
bindI (IntKind.i64.wrap (x_33 - x_34)) fun z_35 =>
bcase (decide (z_32 > z_35)) (
K (.int .i64 151) h_17) <|
K_13 [] h_17) <|
K_13 [] h_17)) ∧ ∀ (h_14 : Heap) (u_15 : Nat → Value) , K_13 [] h_14 → (
ptr a0 fun a_36 =>
ldP h_14 (a_36.add 4) fun x_37 =>
ldI h_14 ((⟨r_4, 0, none⟩ : Addr).add 0) .i64 fun x_38 =>
ldI h_14 ((⟨r_4, 0, none⟩ : Addr).add 1) .i64 fun x_39 =>
C F_bitmap_Map_Blit #[.pointer x_37, .pointer r_11, .int .i64 0, .int .i64 0, .int .i64 x_38, .int .i64 x_39, .int .i64 a1, .int .i64 a2, .int .i64 a3] h_14 (fun v_40 h_41 =>
∃ (r_42 : Int), v_40 = .int .i64 r_42 ∧ (
K (.int .i64 r_42) h_41)) (Kp)))) (Kp)

/- (*burin/page.Page).Stripe -/
set_option maxRecDepth 100000 in
def page_Page_Stripe (C : CallP) (p : Option Addr) (last : Int) (h : Heap) (K : Value → Heap → Prop) (Kp : List PanicEntry → Heap → Prop) : Prop :=
ptr p fun a_1 =>
ldB h (a_1.add 6) fun x_2 =>
bcase x_2 (
K (.int .i64 151) h) <|
ptr p fun a_3 =>
ldI h ((a_3.add 0).add 3) .i64 fun x_4 =>
bcase (x_4 == (0 : Int)) (
K (.int .i64 151) h) <|
ptr p fun a_5 =>
ptr p fun a_6 =>
ldI h (a_5.add 5) .i64 fun x_7 =>
ldI h ((a_6.add 0).add 1) .i64 fun x_8 =>
bcase (x_7 == x_8) (
K (.int .i64 151) h) <|
ptr p fun a_9 =>
ptr p fun a_10 =>
ptr p fun a_11 =>
ldI h (a_9.add 5) .i64 fun x_12 =>
ldI h ((a_10.add 0).add 3) .i64 fun x_13 =>
bindI (IntKind.i64.wrap (x_12 + x_13)) fun z_14 =>
ldI h ((a_11.add 0).add 1) .i64 fun x_15 =>
bindI (minI z_14 x_15) fun z_16 =>
bindI (IntKind.i64.wrap (z_16 - (1 : Int))) fun z_17 =>
bcase (last != z_17) (
K (.int .i64 151) h) <|
bindI (IntKind.i64.wrap (last + (1 : Int))) fun z_18 =>
ptr p fun a_19 =>
stV h (a_19.add 5) (.int .i64 z_18) fun h_20 =>
K (.int .i64 0) h_20

/- (*burin/page.Page).End -/
set_option maxRecDepth 100000 in
def page_Page_End (C : CallP) (p : Option Addr) (h : Heap) (K : Value → Heap → Prop) (Kp : List PanicEntry → Heap → Prop) : Prop :=
newC h [.int .i64 0, .int .i64 0, .slice none 0 0] T_api_Bitmap fun r_1 h_2 =>
∃ K_3 : List Value → Heap → Prop, (
ptr p fun a_6 =>
ldB h_2 (a_6.add 6) fun x_7 =>
bcase x_7 (
stV h_2 ((⟨r_1, 0, none⟩ : Addr).add 0) (.int .i64 0) fun h_8 =>
stV h_8 ((⟨r_1, 0, none⟩ : Addr).add 1) (.int .i64 0) fun h_9 =>
stV h_9 ((⟨r_1, 0, none⟩ : Addr).add 2) (.slice none 0 0) fun h_10 =>
ldI h_10 ((⟨r_1, 0, none⟩ : Addr).add 0) .i64 fun r_11 =>
ldI h_10 ((⟨r_1, 0, none⟩ : Addr).add 1) .i64 fun r_12 =>
ldS h_10 ((⟨r_1, 0, none⟩ : Addr).add 2) fun r_13 r_13n r_13c =>
K (.tuple #[.agg #[.int .i64 r_11, .int .i64 r_12, .slice r_13 r_13n r_13c], .int .i64 151]) h_10) <|
ptr p fun a_14 =>
ldI h_2 ((a_14.add 0).add 3) .i64 fun x_15 =>
bcase (x_15 != (0 : Int)) (
ptr p fun a_16 =>
ptr p fun a_17 =>
ldI h_2 (a_16.add 5) .i64 fun x_18 =>
ldI h_2 ((a_17.add 0).add 1) .i64 fun x_19 =>
bcase (decide (x_18 < x_19)) (
stV h_2 ((⟨r_1, 0, none⟩ : Addr).add 0) (.int .i64 0) fun h_20 =>
stV h_20 ((⟨r_1, 0, none⟩ : Addr).add 1) (.int .i64 0) fun h_21 =>
stV h_21 ((⟨r_1, 0, none⟩ : Addr).add 2) (.slice none 0 0) fun h_22 =>
ldI h_22 ((⟨r_1, 0, none⟩ : Addr).add 0) .i64 fun r_23 =>
ldI h_22 ((⟨r_1, 0, none⟩ : Addr).add 1) .i64 fun r_24 =>
ldS h_22 ((⟨r_1, 0, none⟩ : Addr).add 2) fun r_25 r_25n r_25c =>
K (.tuple #[.agg #[.int .i64 r_23, .int .i64 r_24, .slice r_25 r_25n r_25c], .int .i64 151]) h_22) <|
K_3 [] h_2) <|
K_3 [] h_2) ∧ ∀ (h_4 : Heap) (u_5 : Nat → Value) , K_3 [] h_4 → (
ptr p fun a_26 =>
ldI h_4 ((a_26.add 0).add 1) .i64 fun x_27 =>
ptr p fun a_28 =>
stV h_4 (a_28.add 6) (.bool true) fun h_29 =>
ptr p fun a_30 =>
stV h_29 (a_30.add 5) (.int .i64 x_27) fun h_31 =>
ptr p fun a_32 =>
ldP h_31 (a_32.add 4) fun x_33 =>
C F_bitmap_Map_Plain #[.pointer x_33] h_31 (fun v_34 h_35 =>
∃ (r_36 : Int) (r_37 : Int) (r_38 : Option Addr) (r_38n : Nat) (r_38c : Nat), v_34 = .agg #[.int .i64 r_36, .int .i64 r_37, .slice r_38 r_38n r_38c] ∧ (
stV h_35 ((⟨r_1, 0, none⟩ : Addr).add 0) (.int .i64 r_36) fun h_39 =>
stV h_39 ((⟨r_1, 0, none⟩ : Addr).add 1) (.int .i64 r_37) fun h_40 =>
stV h_40 ((⟨r_1, 0, none⟩ : Addr).add 2) (.slice r_38 r_38n r_38c) fun h_41 =>
ldI h_41 ((⟨r_1, 0, none⟩ : Addr).add 0) .i64 fun r_42 =>
ldI h_41 ((⟨r_1, 0, none⟩ : Addr).add 1) .i64 fun r_43 =>
ldS h_41 ((⟨r_1, 0, none⟩ : Addr).add 2) fun r_44 r_44n r_44c =>
K (.tuple #[.agg #[.int .i64 r_42, .int .i64 r_43, .slice r_44 r_44n r_44c], .int .i64 0]) h_41)) (Kp))

/- (*burin/page.Page).Next -/
set_option maxRecDepth 100000 in
def page_Page_Next (C : CallP) (p : Option Addr) (h : Heap) (K : Value → Heap → Prop) (Kp : List PanicEntry → Heap → Prop) : Prop :=
ptr p fun a_1 =>
ldI h (a_1.add 5) .i64 fun x_2 =>
K (.int .i64 x_2) h

/- burin/page.sheet -/
set_option maxRecDepth 100000 in
def page_sheet (C : CallP) (s_1 : Int) (s_2 : Int) (s_3 : Int) (s_4 : Int) (h : Heap) (K : Value → Heap → Prop) (Kp : List PanicEntry → Heap → Prop) : Prop :=
newC h [.int .i64 s_1, .int .i64 s_2, .int .i64 s_3, .int .i64 s_4] T_api_Sheet fun r_5 h_6 =>
ldI h_6 ((⟨r_5, 0, none⟩ : Addr).add 0) .i64 fun x_7 =>
ldI h_6 ((⟨r_5, 0, none⟩ : Addr).add 1) .i64 fun x_8 =>
C F_page_sized #[.int .i64 x_7, .int .i64 x_8] h_6 (fun v_9 h_10 =>
∃ (r_11 : Bool), v_9 = .bool r_11 ∧ (
bcase r_11 (
ldI h_10 ((⟨r_5, 0, none⟩ : Addr).add 2) .i64 fun x_12 =>
bcase (x_12 == (0 : Int)) (
ldI h_10 ((⟨r_5, 0, none⟩ : Addr).add 3) .i64 fun x_13 =>
C F_page_within #[.int .i64 x_13] h_10 (fun v_14 h_15 =>
∃ (r_16 : Bool), v_14 = .bool r_16 ∧ (
K (.bool r_16) h_15)) (Kp)) <|
ldI h_10 ((⟨r_5, 0, none⟩ : Addr).add 2) .i64 fun x_17 =>
bcase (x_17 == (1 : Int)) (
ldI h_10 ((⟨r_5, 0, none⟩ : Addr).add 3) .i64 fun x_18 =>
C F_page_within #[.int .i64 x_18] h_10 (fun v_19 h_20 =>
∃ (r_21 : Bool), v_19 = .bool r_21 ∧ (
K (.bool r_21) h_20)) (Kp)) <|
K (.bool false) h_10) <|
K (.bool false) h_10)) (Kp)

/- burin/page.operation -/
set_option maxRecDepth 100000 in
def page_operation (C : CallP) (op : Int) (h : Heap) (K : Value → Heap → Prop) (Kp : List PanicEntry → Heap → Prop) : Prop :=
bcase (decide (op ≥ (0 : Int))) (
K (.bool (decide (op ≤ (4 : Int)))) h) <|
K (.bool false) h

/- burin/page.sized -/
set_option maxRecDepth 100000 in
def page_sized (C : CallP) (w : Int) (h' : Int) (h : Heap) (K : Value → Heap → Prop) (Kp : List PanicEntry → Heap → Prop) : Prop :=
bcase (decide (w ≥ (1 : Int))) (
bcase (decide (h' ≥ (1 : Int))) (
bcase (decide (w ≤ (1048576 : Int))) (
bcase (decide (h' ≤ (1048576 : Int))) (
bindI (IntKind.i64.wrap (w * h')) fun z_1 =>
K (.bool (decide (z_1 ≤ (1048576 : Int)))) h) <|
K (.bool false) h) <|
K (.bool false) h) <|
K (.bool false) h) <|
K (.bool false) h

/- burin/page.within -/
set_option maxRecDepth 100000 in
def page_within (C : CallP) (n : Int) (h : Heap) (K : Value → Heap → Prop) (Kp : List PanicEntry → Heap → Prop) : Prop :=
bcase (decide (n ≥ (0 : Int))) (
K (.bool (decide (n ≤ (1048576 : Int)))) h) <|
K (.bool false) h

end Go.Den.Ytlmopdohgipbeaa
