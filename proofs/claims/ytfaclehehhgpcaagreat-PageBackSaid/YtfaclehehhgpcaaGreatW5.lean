/- W5: put together by wip/tools/bundle.py: Mgeneric Bgeneric Mburinref6 Bburinref6 GnA GnB GnC GnS GnD GnE GnF RdA Mburinref7 Bburinref7 GnG RfR RfS GnH GnI PbH Mburinref1 Bburinref1 PbI PbJ PbJb GnJa GnJ GnK PbC Mlaw15PageEncodes Blaw15PageEncodes PbD. -/
import Derived.Test.YtfaclehehhgpcaaGreatW1
import Derived.Test.YtfaclehehhgpcaaGreatW2
import Derived.Test.YtfaclehehhgpcaaGreatW3
import Derived.Test.YtfaclehehhgpcaaGreatW4
import Derived.Test.YtfaclehehhgpcaaGreatProg

/- Written by gen.py: the conditions of the functions of generic. -/
set_option linter.unusedVariables false
set_option linter.unusedSimpArgs false
namespace Go.Den.YtfaclehehhgpcaaGreat
open Go Go.Den

/- burin/generic.Encode -/
set_option maxRecDepth 100000 in
def generic_Encode (C : CallP) (b_1 : Int) (b_2 : Int) (b_3 : Option Addr) (b_3n : Nat) (b_3c : Nat) (template : Int) (skip : Bool) (h : Heap) (K : Value → Heap → Prop) (Kp : List PanicEntry → Heap → Prop) : Prop :=
newC h [.int .i64 b_1, .int .i64 b_2, .slice b_3 b_3n b_3c] T_api_Bitmap fun r_4 h_5 =>
C F_context_Size #[.int .i64 template] h_5 (fun v_6 h_7 =>
∃ (r_8 : Int), ∃ (r_9 : Int), v_6 = .tuple #[.int .i64 r_8, .int .i64 r_9] ∧ (
bcase (r_9 != (0 : Int)) (
K (.tuple #[.slice none 0 0, .int .i64 r_9]) h_7) <|
bindI (IntKind.i64.wrap (r_8 + (1 : Int))) fun z_10 =>
C F_arith_New #[.int .i64 z_10] h_7 (fun v_11 h_12 =>
∃ (r_13 : Option Addr), ∃ (r_14 : Int), v_11 = .tuple #[.pointer r_13, .int .i64 r_14] ∧ (
bcase (r_14 != (0 : Int)) (
K (.tuple #[.slice none 0 0, .int .i64 r_14]) h_12) <|
ldI h_12 ((⟨r_4, 0, none⟩ : Addr).add 0) .i64 fun x_15 =>
ldI h_12 ((⟨r_4, 0, none⟩ : Addr).add 1) .i64 fun x_16 =>
ldS h_12 ((⟨r_4, 0, none⟩ : Addr).add 2) fun x_17 x_17n x_17c =>
C F_generic_Put #[.pointer r_13, .int .i64 0, .agg #[.int .i64 x_15, .int .i64 x_16, .slice x_17 x_17n x_17c], .int .i64 template, .bool skip] h_12 (fun v_18 h_19 =>
∃ (r_20 : Int), v_18 = .int .i64 r_20 ∧ (
bcase (r_20 != (0 : Int)) (
K (.tuple #[.slice none 0 0, .int .i64 r_20]) h_19) <|
C F_arith_Coder_Flush #[.pointer r_13] h_19 (fun v_21 h_22 =>
∃ (r_23 : Option Addr) (r_23n : Nat) (r_23c : Nat), ∃ (r_24 : Int), v_21 = .tuple #[.slice r_23 r_23n r_23c, .int .i64 r_24] ∧ (
K (.tuple #[.slice r_23 r_23n r_23c, .int .i64 r_24]) h_22)) (Kp))) (Kp))) (Kp))) (Kp)

/- burin/generic.Decode -/
set_option maxRecDepth 100000 in
def generic_Decode (C : CallP) (f : Option Addr) (fn : Nat) (fc : Nat) (w : Int) (h' : Int) (template : Int) (skip : Bool) (h : Heap) (K : Value → Heap → Prop) (Kp : List PanicEntry → Heap → Prop) : Prop :=
newC h [.int .i64 0, .int .i64 0, .slice none 0 0] T_api_Bitmap fun r_1 h_2 =>
C F_context_Size #[.int .i64 template] h_2 (fun v_3 h_4 =>
∃ (r_5 : Int), ∃ (r_6 : Int), v_3 = .tuple #[.int .i64 r_5, .int .i64 r_6] ∧ (
bcase (r_6 != (0 : Int)) (
stV h_4 ((⟨r_1, 0, none⟩ : Addr).add 0) (.int .i64 0) fun h_7 =>
stV h_7 ((⟨r_1, 0, none⟩ : Addr).add 1) (.int .i64 0) fun h_8 =>
stV h_8 ((⟨r_1, 0, none⟩ : Addr).add 2) (.slice none 0 0) fun h_9 =>
ldI h_9 ((⟨r_1, 0, none⟩ : Addr).add 0) .i64 fun r_10 =>
ldI h_9 ((⟨r_1, 0, none⟩ : Addr).add 1) .i64 fun r_11 =>
ldS h_9 ((⟨r_1, 0, none⟩ : Addr).add 2) fun r_12 r_12n r_12c =>
K (.tuple #[.agg #[.int .i64 r_10, .int .i64 r_11, .slice r_12 r_12n r_12c], .int .i64 r_6]) h_9) <|
bindI (IntKind.i64.wrap (r_5 + (1 : Int))) fun z_13 =>
C F_arith_NewDecoder #[.slice f fn fc, .int .i64 z_13] h_4 (fun v_14 h_15 =>
∃ (r_16 : Option Addr), ∃ (r_17 : Int), v_14 = .tuple #[.pointer r_16, .int .i64 r_17] ∧ (
bcase (r_17 != (0 : Int)) (
stV h_15 ((⟨r_1, 0, none⟩ : Addr).add 0) (.int .i64 0) fun h_18 =>
stV h_18 ((⟨r_1, 0, none⟩ : Addr).add 1) (.int .i64 0) fun h_19 =>
stV h_19 ((⟨r_1, 0, none⟩ : Addr).add 2) (.slice none 0 0) fun h_20 =>
ldI h_20 ((⟨r_1, 0, none⟩ : Addr).add 0) .i64 fun r_21 =>
ldI h_20 ((⟨r_1, 0, none⟩ : Addr).add 1) .i64 fun r_22 =>
ldS h_20 ((⟨r_1, 0, none⟩ : Addr).add 2) fun r_23 r_23n r_23c =>
K (.tuple #[.agg #[.int .i64 r_21, .int .i64 r_22, .slice r_23 r_23n r_23c], .int .i64 r_17]) h_20) <|
C F_generic_Get #[.pointer r_16, .int .i64 0, .int .i64 w, .int .i64 h', .int .i64 template, .bool skip] h_15 (fun v_24 h_25 =>
∃ (r_26 : Int) (r_27 : Int) (r_28 : Option Addr) (r_28n : Nat) (r_28c : Nat), ∃ (r_29 : Int), v_24 = .tuple #[.agg #[.int .i64 r_26, .int .i64 r_27, .slice r_28 r_28n r_28c], .int .i64 r_29] ∧ (
stV h_25 ((⟨r_1, 0, none⟩ : Addr).add 0) (.int .i64 r_26) fun h_30 =>
stV h_30 ((⟨r_1, 0, none⟩ : Addr).add 1) (.int .i64 r_27) fun h_31 =>
stV h_31 ((⟨r_1, 0, none⟩ : Addr).add 2) (.slice r_28 r_28n r_28c) fun h_32 =>
ldI h_32 ((⟨r_1, 0, none⟩ : Addr).add 0) .i64 fun r_33 =>
ldI h_32 ((⟨r_1, 0, none⟩ : Addr).add 1) .i64 fun r_34 =>
ldS h_32 ((⟨r_1, 0, none⟩ : Addr).add 2) fun r_35 r_35n r_35c =>
K (.tuple #[.agg #[.int .i64 r_33, .int .i64 r_34, .slice r_35 r_35n r_35c], .int .i64 r_29]) h_32)) (Kp))) (Kp))) (Kp)

/- burin/generic.Put -/
set_option maxRecDepth 100000 in
def generic_Put (C : CallP) (c : Option Addr) (base : Int) (b_1 : Int) (b_2 : Int) (b_3 : Option Addr) (b_3n : Nat) (b_3c : Nat) (template : Int) (skip : Bool) (h : Heap) (K : Value → Heap → Prop) (Kp : List PanicEntry → Heap → Prop) : Prop :=
newC h [.int .i64 b_1, .int .i64 b_2, .slice b_3 b_3n b_3c] T_api_Bitmap fun r_4 h_5 =>
bcase c.isNone (
K (.int .i64 53) h_5) <|
C F_context_Size #[.int .i64 template] h_5 (fun v_6 h_7 =>
∃ (r_8 : Int), ∃ (r_9 : Int), v_6 = .tuple #[.int .i64 r_8, .int .i64 r_9] ∧ (
newC h_7 [.int .i64 0] T_int fun r_10 h_11 =>
stV h_11 (⟨r_10, 0, none⟩ : Addr) (.int .i64 r_8) fun h_12 =>
bcase (r_9 != (0 : Int)) (
K (.int .i64 r_9) h_12) <|
ldI h_12 ((⟨r_4, 0, none⟩ : Addr).add 0) .i64 fun x_13 =>
ldI h_12 ((⟨r_4, 0, none⟩ : Addr).add 1) .i64 fun x_14 =>
ldS h_12 ((⟨r_4, 0, none⟩ : Addr).add 2) fun x_15 x_15n x_15c =>
C F_bitmap_From #[.agg #[.int .i64 x_13, .int .i64 x_14, .slice x_15 x_15n x_15c]] h_12 (fun v_16 h_17 =>
∃ (r_18 : Option Addr), ∃ (r_19 : Int), v_16 = .tuple #[.pointer r_18, .int .i64 r_19] ∧ (
bcase (r_19 != (0 : Int)) (
K (.int .i64 62) h_17) <|
ptr c fun a_20 =>
ldI h_17 (⟨r_10, 0, none⟩ : Addr) .i64 fun x_21 =>
bindI (IntKind.i64.wrap (x_21 + (1 : Int))) fun z_22 =>
C F_arith_table_Contexts #[.pointer (some (a_20.add 0))] h_17 (fun v_23 h_24 =>
∃ (r_25 : Int), v_23 = .int .i64 r_25 ∧ (
hext h_17 h_24 ∧ (
C F_generic_fits #[.int .i64 base, .int .i64 z_22, .int .i64 r_25] h_24 (fun v_26 h_27 =>
∃ (r_28 : Bool), v_26 = .bool r_28 ∧ (
bcase (!r_28) (
K (.int .i64 51) h_27) <|
newC h_27 [.iface T_generic_coding (.agg #[.pointer c]), .pointer r_18, .int .i64 base, .int .i64 template, .bool skip] T_generic_procedure fun r_29 h_30 =>
newC h_30 [.pointer none] T_p_generic_procedure fun r_31 h_32 =>
stV h_32 (⟨r_31, 0, none⟩ : Addr) (.pointer (some ⟨r_29, 0, none⟩)) fun h_33 =>
C F_generic_caught #[.func (.func F_generic_Put_c1) #[] #[.pointer (some ⟨r_31, 0, none⟩), .pointer (some ⟨r_10, 0, none⟩)]] h_33 (fun v_34 h_35 =>
∃ (r_36 : Int), v_34 = .int .i64 r_36 ∧ (
K (.int .i64 r_36) h_35)) (Kp))) (Kp)))) (Kp))) (Kp))) (Kp)

/- burin/generic.Get -/
set_option maxRecDepth 100000 in
def generic_Get (C : CallP) (a0 : Option Addr) (a1 : Int) (a2 : Int) (a3 : Int) (a4 : Int) (a5 : Bool) (h : Heap) (K : Value → Heap → Prop) (Kp : List PanicEntry → Heap → Prop) : Prop :=
newC h [.int .i64 0, .int .i64 0, .slice none 0 0] T_api_Bitmap fun r_1 h_2 =>
bcase a0.isNone (
stV h_2 ((⟨r_1, 0, none⟩ : Addr).add 0) (.int .i64 0) fun h_3 =>
stV h_3 ((⟨r_1, 0, none⟩ : Addr).add 1) (.int .i64 0) fun h_4 =>
stV h_4 ((⟨r_1, 0, none⟩ : Addr).add 2) (.slice none 0 0) fun h_5 =>
ldI h_5 ((⟨r_1, 0, none⟩ : Addr).add 0) .i64 fun r_6 =>
ldI h_5 ((⟨r_1, 0, none⟩ : Addr).add 1) .i64 fun r_7 =>
ldS h_5 ((⟨r_1, 0, none⟩ : Addr).add 2) fun r_8 r_8n r_8c =>
K (.tuple #[.agg #[.int .i64 r_6, .int .i64 r_7, .slice r_8 r_8n r_8c], .int .i64 53]) h_5) <|
C F_context_Size #[.int .i64 a4] h_2 (fun v_9 h_10 =>
∃ (r_11 : Int), ∃ (r_12 : Int), v_9 = .tuple #[.int .i64 r_11, .int .i64 r_12] ∧ (
newC h_10 [.int .i64 0] T_int fun r_13 h_14 =>
stV h_14 (⟨r_13, 0, none⟩ : Addr) (.int .i64 r_11) fun h_15 =>
bcase (r_12 != (0 : Int)) (
stV h_15 ((⟨r_1, 0, none⟩ : Addr).add 0) (.int .i64 0) fun h_16 =>
stV h_16 ((⟨r_1, 0, none⟩ : Addr).add 1) (.int .i64 0) fun h_17 =>
stV h_17 ((⟨r_1, 0, none⟩ : Addr).add 2) (.slice none 0 0) fun h_18 =>
ldI h_18 ((⟨r_1, 0, none⟩ : Addr).add 0) .i64 fun r_19 =>
ldI h_18 ((⟨r_1, 0, none⟩ : Addr).add 1) .i64 fun r_20 =>
ldS h_18 ((⟨r_1, 0, none⟩ : Addr).add 2) fun r_21 r_21n r_21c =>
K (.tuple #[.agg #[.int .i64 r_19, .int .i64 r_20, .slice r_21 r_21n r_21c], .int .i64 r_12]) h_18) <|
C F_bitmap_New #[.int .i64 a2, .int .i64 a3] h_15 (fun v_22 h_23 =>
∃ (r_24 : Option Addr), ∃ (r_25 : Int), v_22 = .tuple #[.pointer r_24, .int .i64 r_25] ∧ (
bcase (r_25 != (0 : Int)) (
stV h_23 ((⟨r_1, 0, none⟩ : Addr).add 0) (.int .i64 0) fun h_26 =>
stV h_26 ((⟨r_1, 0, none⟩ : Addr).add 1) (.int .i64 0) fun h_27 =>
stV h_27 ((⟨r_1, 0, none⟩ : Addr).add 2) (.slice none 0 0) fun h_28 =>
ldI h_28 ((⟨r_1, 0, none⟩ : Addr).add 0) .i64 fun r_29 =>
ldI h_28 ((⟨r_1, 0, none⟩ : Addr).add 1) .i64 fun r_30 =>
ldS h_28 ((⟨r_1, 0, none⟩ : Addr).add 2) fun r_31 r_31n r_31c =>
K (.tuple #[.agg #[.int .i64 r_29, .int .i64 r_30, .slice r_31 r_31n r_31c], .int .i64 63]) h_28) <|
ptr a0 fun a_32 =>
ldI h_23 (⟨r_13, 0, none⟩ : Addr) .i64 fun x_33 =>
bindI (IntKind.i64.wrap (x_33 + (1 : Int))) fun z_34 =>
C F_arith_table_Contexts #[.pointer (some (a_32.add 0))] h_23 (fun v_35 h_36 =>
∃ (r_37 : Int), v_35 = .int .i64 r_37 ∧ (
hext h_23 h_36 ∧ (
C F_generic_fits #[.int .i64 a1, .int .i64 z_34, .int .i64 r_37] h_36 (fun v_38 h_39 =>
∃ (r_40 : Bool), v_38 = .bool r_40 ∧ (
bcase (!r_40) (
stV h_39 ((⟨r_1, 0, none⟩ : Addr).add 0) (.int .i64 0) fun h_41 =>
stV h_41 ((⟨r_1, 0, none⟩ : Addr).add 1) (.int .i64 0) fun h_42 =>
stV h_42 ((⟨r_1, 0, none⟩ : Addr).add 2) (.slice none 0 0) fun h_43 =>
ldI h_43 ((⟨r_1, 0, none⟩ : Addr).add 0) .i64 fun r_44 =>
ldI h_43 ((⟨r_1, 0, none⟩ : Addr).add 1) .i64 fun r_45 =>
ldS h_43 ((⟨r_1, 0, none⟩ : Addr).add 2) fun r_46 r_46n r_46c =>
K (.tuple #[.agg #[.int .i64 r_44, .int .i64 r_45, .slice r_46 r_46n r_46c], .int .i64 51]) h_43) <|
newC h_39 [.iface T_generic_decoding (.agg #[.pointer a0]), .pointer r_24, .int .i64 a1, .int .i64 a4, .bool a5] T_generic_procedure fun r_47 h_48 =>
newC h_48 [.pointer none] T_p_generic_procedure fun r_49 h_50 =>
stV h_50 (⟨r_49, 0, none⟩ : Addr) (.pointer (some ⟨r_47, 0, none⟩)) fun h_51 =>
C F_generic_caught #[.func (.func F_generic_Get_c1) #[] #[.pointer (some ⟨r_49, 0, none⟩), .pointer (some ⟨r_13, 0, none⟩)]] h_51 (fun v_52 h_53 =>
∃ (r_54 : Int), v_52 = .int .i64 r_54 ∧ (
bcase (r_54 != (0 : Int)) (
stV h_53 ((⟨r_1, 0, none⟩ : Addr).add 0) (.int .i64 0) fun h_55 =>
stV h_55 ((⟨r_1, 0, none⟩ : Addr).add 1) (.int .i64 0) fun h_56 =>
stV h_56 ((⟨r_1, 0, none⟩ : Addr).add 2) (.slice none 0 0) fun h_57 =>
ldI h_57 ((⟨r_1, 0, none⟩ : Addr).add 0) .i64 fun r_58 =>
ldI h_57 ((⟨r_1, 0, none⟩ : Addr).add 1) .i64 fun r_59 =>
ldS h_57 ((⟨r_1, 0, none⟩ : Addr).add 2) fun r_60 r_60n r_60c =>
K (.tuple #[.agg #[.int .i64 r_58, .int .i64 r_59, .slice r_60 r_60n r_60c], .int .i64 r_54]) h_57) <|
C F_bitmap_Map_Plain #[.pointer r_24] h_53 (fun v_61 h_62 =>
∃ (r_63 : Int) (r_64 : Int) (r_65 : Option Addr) (r_65n : Nat) (r_65c : Nat), v_61 = .agg #[.int .i64 r_63, .int .i64 r_64, .slice r_65 r_65n r_65c] ∧ (
stV h_62 ((⟨r_1, 0, none⟩ : Addr).add 0) (.int .i64 r_63) fun h_66 =>
stV h_66 ((⟨r_1, 0, none⟩ : Addr).add 1) (.int .i64 r_64) fun h_67 =>
stV h_67 ((⟨r_1, 0, none⟩ : Addr).add 2) (.slice r_65 r_65n r_65c) fun h_68 =>
ldI h_68 ((⟨r_1, 0, none⟩ : Addr).add 0) .i64 fun r_69 =>
ldI h_68 ((⟨r_1, 0, none⟩ : Addr).add 1) .i64 fun r_70 =>
ldS h_68 ((⟨r_1, 0, none⟩ : Addr).add 2) fun r_71 r_71n r_71c =>
K (.tuple #[.agg #[.int .i64 r_69, .int .i64 r_70, .slice r_71 r_71n r_71c], .int .i64 0]) h_68)) (Kp))) (Kp))) (Kp)))) (Kp))) (Kp))) (Kp)

/- burin/generic.fits -/
set_option maxRecDepth 100000 in
def generic_fits (C : CallP) (base : Int) (many : Int) (all : Int) (h : Heap) (K : Value → Heap → Prop) (Kp : List PanicEntry → Heap → Prop) : Prop :=
bcase (decide (base ≥ (0 : Int))) (
bindI (IntKind.i64.wrap (all - many)) fun z_1 =>
K (.bool (decide (base ≤ z_1))) h) <|
K (.bool false) h

/- burin/generic.caught -/
set_option maxRecDepth 100000 in
def generic_caught (C : CallP) (D : CallDP) (run : Value) (h : Heap) (K : Value → Heap → Prop) (Kp : List PanicEntry → Heap → Prop) : Prop :=
newC h [.int .i64 0] T_api_Errno fun r_1 h_2 =>
callD C (fun c_10 h_11 => leaveD D (fun h_8 =>
ldI h_8 (⟨r_1, 0, none⟩ : Addr) .i64 fun r_9 =>
K (.int .i64 r_9) h_8) Kp [{ target := .fn (.func F_generic_caught_c1) #[.pointer (some ⟨r_1, 0, none⟩)], args := #[] }] (.panicking c_10) h_11) run [] h_2 fun v_3 h_4 =>
stV h_4 (⟨r_1, 0, none⟩ : Addr) (.int .i64 0) fun h_5 =>
leaveD D (fun h_6 =>
ldI h_6 (⟨r_1, 0, none⟩ : Addr) .i64 fun r_7 =>
K (.int .i64 r_7) h_6) Kp [{ target := .fn (.func F_generic_caught_c1) #[.pointer (some ⟨r_1, 0, none⟩)], args := #[] }] .returning h_5

/- burin/generic.Put$1 -/
set_option maxRecDepth 100000 in
def generic_Put_c1 (C : CallP) (cap0 : Addr) (cap1 : Addr) (h : Heap) (K : Value → Heap → Prop) (Kp : List PanicEntry → Heap → Prop) : Prop :=
ldP h cap0 fun x_1 =>
ldI h cap1 .i64 fun x_2 =>
C F_generic_procedure_run #[.pointer x_1, .int .i64 x_2] h (fun v_3 h_4 =>
K (.tuple #[]) h_4) (Kp)

/- (*burin/generic.procedure).run -/
set_option maxRecDepth 100000 in
def generic_procedure_run (C : CallP) (I : InvP) (p : Option Addr) (size : Int) (h : Heap) (K : Value → Heap → Prop) (Kp : List PanicEntry → Heap → Prop) : Prop :=
ptr p fun a_1 =>
ldP h (a_1.add 1) fun x_2 =>
C F_bitmap_Map_Size #[.pointer x_2] h (fun v_3 h_4 =>
∃ (r_5 : Int), ∃ (r_6 : Int), v_3 = .tuple #[.int .i64 r_5, .int .i64 r_6] ∧ (
∃ J_7 : Nat → List Value → Heap → Prop, (∃ n_9, J_7 n_9 [.int .i64 0] h_4) ∧ ∀ (n_9 : Nat) (h_10 : Heap) (u_11 : Nat → Value) (x_12 : Int), J_7 n_9 [.int .i64 x_12] h_10 → (
bcase (decide (x_12 < r_6)) (
ptr p fun a_13 =>
ldB h_10 (a_13.add 4) fun x_14 =>
bcase x_14 (
∃ K_15 : List Value → Heap → Prop, (
C F_generic_procedure_same #[.pointer p, .int .i64 r_5, .int .i64 x_12] h_10 (fun v_18 h_19 =>
∃ (r_20 : Bool), v_18 = .bool r_20 ∧ (
bcase r_20 (
K_15 [.int .i64 1] h_19) <|
K_15 [.int .i64 0] h_19)) (Kp)) ∧ ∀ (h_16 : Heap) (u_17 : Nat → Value) (bit_21 : Int), K_15 [.int .i64 bit_21] h_16 → (
ptr p fun a_22 =>
ptr p fun a_23 =>
ldV h_16 (a_22.add 0) fun x_24 =>
nilD x_24 fun w_25 =>
ldI h_16 (a_23.add 2) .i64 fun x_26 =>
bindI (IntKind.i64.wrap (x_26 + size)) fun z_27 =>
I (x_24) "burin/generic.decide" ([.int .i64 z_27, .int .i64 bit_21] : List Value) h_16 (fun v_28 h_29 =>
∃ (r_30 : Int), v_28 = .int .i64 r_30 ∧ (
bcase (r_30 == (1 : Int)) (
ptr p fun a_31 =>
ptr p fun a_32 =>
bindI (IntKind.i64.wrap (x_12 - (1 : Int))) fun z_33 =>
ldP h_29 (a_31.add 1) fun x_34 =>
ldP h_29 (a_32.add 1) fun x_35 =>
C F_bitmap_Map_Blit #[.pointer x_34, .pointer x_35, .int .i64 0, .int .i64 z_33, .int .i64 r_5, .int .i64 1, .int .i64 0, .int .i64 x_12, .int .i64 4] h_29 (fun v_36 h_37 =>
∃ (r_38 : Int), v_36 = .int .i64 r_38 ∧ (
bindI (IntKind.i64.wrap (x_12 + (1 : Int))) fun z_39 =>
∃ m_8, m_8 < n_9 ∧ J_7 m_8 [.int .i64 z_39] h_37)) (Kp)) <|
C F_generic_procedure_row #[.pointer p, .int .i64 r_5, .int .i64 x_12] h_29 (fun v_40 h_41 =>
bindI (IntKind.i64.wrap (x_12 + (1 : Int))) fun z_42 =>
∃ m_8, m_8 < n_9 ∧ J_7 m_8 [.int .i64 z_42] h_41) (Kp))) (Kp))) <|
C F_generic_procedure_row #[.pointer p, .int .i64 r_5, .int .i64 x_12] h_10 (fun v_43 h_44 =>
bindI (IntKind.i64.wrap (x_12 + (1 : Int))) fun z_45 =>
∃ m_8, m_8 < n_9 ∧ J_7 m_8 [.int .i64 z_45] h_44) (Kp)) <|
K (.tuple #[]) h_10))) (Kp)

/- burin/generic.Get$1 -/
set_option maxRecDepth 100000 in
def generic_Get_c1 (C : CallP) (cap0 : Addr) (cap1 : Addr) (h : Heap) (K : Value → Heap → Prop) (Kp : List PanicEntry → Heap → Prop) : Prop :=
ldP h cap0 fun x_1 =>
ldI h cap1 .i64 fun x_2 =>
C F_generic_procedure_run #[.pointer x_1, .int .i64 x_2] h (fun v_3 h_4 =>
K (.tuple #[]) h_4) (Kp)

/- burin/generic.caught$1 -/
set_option maxRecDepth 100000 in
def generic_caught_c1 (C : CallP) (cap0 : Addr) (u : FrameMode) (h : Heap) (Kd : FrameMode → Heap → Prop) (Kdp : FrameMode → List PanicEntry → Heap → Prop) : Prop :=
recD u (fun u_1 =>
Kd u_1 h) (fun t_2 x_3 u_4 =>
bcase (Nat.beq t_2 T_generic_fault) (
∃ (r_5 : Int), x_3 = .agg #[.int .i64 r_5] ∧ (
newC h [.int .i64 0] T_generic_fault fun r_6 h_7 =>
stV h_7 ((⟨r_6, 0, none⟩ : Addr).add 0) (.int .i64 r_5) fun h_8 =>
ldI h_8 ((⟨r_6, 0, none⟩ : Addr).add 0) .i64 fun x_9 =>
stV h_8 cap0 (.int .i64 x_9) fun h_10 =>
Kd u_4 h_10)) <|
newC h [.int .i64 0] T_generic_fault fun r_11 h_12 =>
stV h_12 ((⟨r_11, 0, none⟩ : Addr).add 0) (.int .i64 0) fun h_13 =>
Kdp u_4 [{ v := .iface t_2 (x_3), recovered := false }] h_13)

/- (*burin/generic.procedure).same -/
set_option maxRecDepth 100000 in
def generic_procedure_same (C : CallP) (p : Option Addr) (w : Int) (y : Int) (h : Heap) (K : Value → Heap → Prop) (Kp : List PanicEntry → Heap → Prop) : Prop :=
∃ J_1 : Nat → List Value → Heap → Prop, (∃ n_3, J_1 n_3 [.int .i64 0] h) ∧ ∀ (n_3 : Nat) (h_4 : Heap) (u_5 : Nat → Value) (x_6 : Int), J_1 n_3 [.int .i64 x_6] h_4 → (
bcase (decide (x_6 < w)) (
ptr p fun a_7 =>
ptr p fun a_8 =>
bindI (IntKind.i64.wrap (y - (1 : Int))) fun z_9 =>
ldP h_4 (a_7.add 1) fun x_10 =>
ldP h_4 (a_8.add 1) fun x_11 =>
C F_bitmap_Map_Get #[.pointer x_10, .int .i64 x_6, .int .i64 y] h_4 (fun v_12 h_13 =>
∃ (r_14 : Int), v_12 = .int .i64 r_14 ∧ (
hext h_4 h_13 ∧ (
C F_bitmap_Map_Get #[.pointer x_11, .int .i64 x_6, .int .i64 z_9] h_13 (fun v_15 h_16 =>
∃ (r_17 : Int), v_15 = .int .i64 r_17 ∧ (
bcase (r_14 != r_17) (
K (.bool false) h_16) <|
bindI (IntKind.i64.wrap (x_6 + (1 : Int))) fun z_18 =>
∃ m_2, m_2 < n_3 ∧ J_1 m_2 [.int .i64 z_18] h_16)) (Kp)))) (Kp)) <|
K (.bool true) h_4)

/- (*burin/generic.procedure).row -/
set_option maxRecDepth 100000 in
def generic_procedure_row (C : CallP) (I : InvP) (a0 : Option Addr) (a1 : Int) (a2 : Int) (h : Heap) (K : Value → Heap → Prop) (Kp : List PanicEntry → Heap → Prop) : Prop :=
ptr a0 fun a_1 =>
ldI h (a_1.add 3) .i64 fun x_2 =>
C F_generic_spans #[.int .i64 x_2] h (fun v_3 h_4 =>
∃ (r_5 : Option Addr) (r_5n : Nat) (r_5c : Nat), v_3 = .slice r_5 r_5n r_5c ∧ (
∃ J_6 : Nat → List Value → Heap → Prop, (∃ n_8, J_6 n_8 [.slice none 0 0, .int .i64 0] h_4) ∧ ∀ (n_8 : Nat) (h_9 : Heap) (u_10 : Nat → Value) (x_11 : Option Addr) (x_11n : Nat) (x_11c : Nat) (x_12 : Int), J_6 n_8 [.slice x_11 x_11n x_11c, .int .i64 x_12] h_9 → (
bcase (decide (x_12 < (r_5n : Int))) (
needs (0 ≤ x_12 ∧ x_12 < (r_5n : Int)) <|
ptr r_5 fun a_13 =>
ldI h_9 ((a_13.add (x_12.toNat * 3)).add 0) .i64 fun x_14 =>
ldI h_9 ((a_13.add (x_12.toNat * 3)).add 1) .i64 fun x_15 =>
ldI h_9 ((a_13.add (x_12.toNat * 3)).add 2) .i64 fun x_16 =>
newC h_9 [.int .i64 0, .int .i64 0, .int .i64 0] T_generic_span fun r_17 h_18 =>
stV h_18 ((⟨r_17, 0, none⟩ : Addr).add 0) (.int .i64 x_14) fun h_19 =>
stV h_19 ((⟨r_17, 0, none⟩ : Addr).add 1) (.int .i64 x_15) fun h_20 =>
stV h_20 ((⟨r_17, 0, none⟩ : Addr).add 2) (.int .i64 x_16) fun h_21 =>
ldI h_21 ((⟨r_17, 0, none⟩ : Addr).add 0) .i64 fun x_22 =>
ldI h_21 ((⟨r_17, 0, none⟩ : Addr).add 1) .i64 fun x_23 =>
ldI h_21 ((⟨r_17, 0, none⟩ : Addr).add 2) .i64 fun x_24 =>
ldI h_21 ((⟨r_17, 0, none⟩ : Addr).add 2) .i64 fun x_25 =>
ldI h_21 ((⟨r_17, 0, none⟩ : Addr).add 1) .i64 fun x_26 =>
bindI (IntKind.i64.wrap (x_25 - x_26)) fun z_27 =>
bindI (IntKind.i64.wrap (z_27 + (1 : Int))) fun z_28 =>
needs (0 ≤ z_28) <|
bindI (shlI .i64 (1 : Int) z_28) fun z_29 =>
bindI (IntKind.i64.wrap (z_29 - (1 : Int))) fun z_30 =>
newC h_21 [.int .i64 0, .int .i64 0, .int .i64 0, .int .i64 0, .int .i64 0] T_generic_window fun r_31 h_32 =>
stV h_32 ((⟨r_31, 0, none⟩ : Addr).add 0) (.int .i64 x_22) fun h_33 =>
stV h_33 ((⟨r_31, 0, none⟩ : Addr).add 1) (.int .i64 x_23) fun h_34 =>
stV h_34 ((⟨r_31, 0, none⟩ : Addr).add 2) (.int .i64 x_24) fun h_35 =>
stV h_35 ((⟨r_31, 0, none⟩ : Addr).add 3) (.int .i64 0) fun h_36 =>
stV h_36 ((⟨r_31, 0, none⟩ : Addr).add 4) (.int .i64 z_30) fun h_37 =>
ldI h_37 ((⟨r_17, 0, none⟩ : Addr).add 1) .i64 fun x_38 =>
∃ J_39 : Nat → List Value → Heap → Prop, (∃ n_41, J_39 n_41 [.int .i64 x_38] h_37) ∧ ∀ (n_41 : Nat) (h_42 : Heap) (u_43 : Nat → Value) (x_44 : Int), J_39 n_41 [.int .i64 x_44] h_42 → (
ldI h_42 ((⟨r_17, 0, none⟩ : Addr).add 2) .i64 fun x_45 =>
bcase (decide (x_44 < x_45)) (
∃ R_46 : Nat → Prop, (
ptr a0 fun a_47 =>
ldI h_42 ((⟨r_31, 0, none⟩ : Addr).add 3) .i64 fun x_48 =>
R_46 (((⟨r_31, 0, none⟩ : Addr).add 3) : Addr).block ∧ (
bindI (shlI .i64 x_48 (1 : Int)) fun z_49 =>
ldP h_42 (a_47.add 1) fun x_50 =>
R_46 ((a_47.add 1) : Addr).block ∧ (
ldI h_42 ((⟨r_17, 0, none⟩ : Addr).add 0) .i64 fun x_51 =>
R_46 (((⟨r_17, 0, none⟩ : Addr).add 0) : Addr).block ∧ (
bindI (IntKind.i64.wrap (a2 + x_51)) fun z_52 =>
C F_bitmap_Map_Get #[.pointer x_50, .int .i64 x_44, .int .i64 z_52] h_42 (fun v_53 h_54 =>
∃ (r_55 : Int), v_53 = .int .i64 r_55 ∧ (
hkeep R_46 h_42 h_54 ∧ (
bindI (bitI .or .i64 z_49 r_55) fun z_56 =>
stV h_54 ((⟨r_31, 0, none⟩ : Addr).add 3) (.int .i64 z_56) fun h_57 =>
bindI (IntKind.i64.wrap (x_44 + (1 : Int))) fun z_58 =>
∃ m_40, m_40 < n_41 ∧ J_39 m_40 [.int .i64 z_58] h_57))) (Kp)))))) <|
ldI h_42 ((⟨r_31, 0, none⟩ : Addr).add 0) .i64 fun x_59 =>
ldI h_42 ((⟨r_31, 0, none⟩ : Addr).add 1) .i64 fun x_60 =>
ldI h_42 ((⟨r_31, 0, none⟩ : Addr).add 2) .i64 fun x_61 =>
ldI h_42 ((⟨r_31, 0, none⟩ : Addr).add 3) .i64 fun x_62 =>
ldI h_42 ((⟨r_31, 0, none⟩ : Addr).add 4) .i64 fun x_63 =>
newC h_42 [.int .i64 x_59, .int .i64 x_60, .int .i64 x_61, .int .i64 x_62, .int .i64 x_63] T_generic_window fun r_64 h_65 =>
appC h_65 T_generic_window 5 40 [.int .i64 0, .int .i64 0, .int .i64 0, .int .i64 0, .int .i64 0] x_11 (x_11n) (x_11c) (some ⟨r_64, 0, none⟩) (1) fun q_66 q_66n q_66c h_67 =>
bindI (IntKind.i64.wrap (x_12 + (1 : Int))) fun z_68 =>
∃ m_7, m_7 < n_8 ∧ J_6 m_7 [.slice q_66 q_66n q_66c, .int .i64 z_68] h_67)) <|
∃ J_69 : Nat → List Value → Heap → Prop, (∃ n_71, J_69 n_71 [.int .i64 0] h_9) ∧ ∀ (n_71 : Nat) (h_72 : Heap) (u_73 : Nat → Value) (x_74 : Int), J_69 n_71 [.int .i64 x_74] h_72 → (
bcase (decide (x_74 < a1)) (
∃ J_75 : Nat → List Value → Heap → Prop, (∃ n_77, J_75 n_77 [.int .i64 0, .int .i64 0] h_72) ∧ ∀ (n_77 : Nat) (h_78 : Heap) (u_79 : Nat → Value) (x_80 : Int) (x_81 : Int), J_75 n_77 [.int .i64 x_80, .int .i64 x_81] h_78 → (
bcase (decide (x_81 < (x_11n : Int))) (
needs (0 ≤ x_81 ∧ x_81 < (x_11n : Int)) <|
ptr x_11 fun a_82 =>
∃ R_83 : Nat → Prop, (
ptr a0 fun a_84 =>
ldI h_78 ((a_82.add (x_81.toNat * 5)).add 3) .i64 fun x_85 =>
R_83 (((a_82.add (x_81.toNat * 5)).add 3) : Addr).block ∧ (
bindI (shlI .i64 x_85 (1 : Int)) fun z_86 =>
ldP h_78 (a_84.add 1) fun x_87 =>
R_83 ((a_84.add 1) : Addr).block ∧ (
ldI h_78 (((a_82.add (x_81.toNat * 5)).add 0).add 2) .i64 fun x_88 =>
R_83 ((((a_82.add (x_81.toNat * 5)).add 0).add 2) : Addr).block ∧ (
bindI (IntKind.i64.wrap (x_74 + x_88)) fun z_89 =>
ldI h_78 (((a_82.add (x_81.toNat * 5)).add 0).add 0) .i64 fun x_90 =>
R_83 ((((a_82.add (x_81.toNat * 5)).add 0).add 0) : Addr).block ∧ (
bindI (IntKind.i64.wrap (a2 + x_90)) fun z_91 =>
ldI h_78 ((a_82.add (x_81.toNat * 5)).add 4) .i64 fun x_92 =>
R_83 (((a_82.add (x_81.toNat * 5)).add 4) : Addr).block ∧ (
C F_bitmap_Map_Get #[.pointer x_87, .int .i64 z_89, .int .i64 z_91] h_78 (fun v_93 h_94 =>
∃ (r_95 : Int), v_93 = .int .i64 r_95 ∧ (
hkeep R_83 h_78 h_94 ∧ (
bindI (bitI .or .i64 z_86 r_95) fun z_96 =>
bindI (bitI .and .i64 z_96 x_92) fun z_97 =>
stV h_94 ((a_82.add (x_81.toNat * 5)).add 3) (.int .i64 z_97) fun h_98 =>
ldI h_98 ((a_82.add (x_81.toNat * 5)).add 4) .i64 fun x_99 =>
bindI (IntKind.i64.wrap (x_99 + (1 : Int))) fun z_100 =>
bindI (IntKind.i64.wrap (x_80 * z_100)) fun z_101 =>
ldI h_98 ((a_82.add (x_81.toNat * 5)).add 3) .i64 fun x_102 =>
bindI (IntKind.i64.wrap (z_101 + x_102)) fun z_103 =>
bindI (IntKind.i64.wrap (x_81 + (1 : Int))) fun z_104 =>
∃ m_76, m_76 < n_77 ∧ J_75 m_76 [.int .i64 z_103, .int .i64 z_104] h_98))) (Kp)))))))) <|
∃ R_105 : Nat → Prop, (
ptr a0 fun a_106 =>
ptr a0 fun a_107 =>
ptr a0 fun a_108 =>
ptr a0 fun a_109 =>
ldP h_78 (a_106.add 1) fun x_110 =>
R_105 ((a_106.add 1) : Addr).block ∧ (
ldV h_78 (a_107.add 0) fun x_111 =>
R_105 ((a_107.add 0) : Addr).block ∧ (
nilD x_111 fun w_112 =>
ldI h_78 (a_108.add 2) .i64 fun x_113 =>
R_105 ((a_108.add 2) : Addr).block ∧ (
bindI (IntKind.i64.wrap (x_113 + x_80)) fun z_114 =>
ldP h_78 (a_109.add 1) fun x_115 =>
R_105 ((a_109.add 1) : Addr).block ∧ (
C F_bitmap_Map_Get #[.pointer x_115, .int .i64 x_74, .int .i64 a2] h_78 (fun v_116 h_117 =>
∃ (r_118 : Int), v_116 = .int .i64 r_118 ∧ (
hkeep R_105 h_78 h_117 ∧ (
I (x_111) "burin/generic.decide" ([.int .i64 z_114, .int .i64 r_118] : List Value) h_117 (fun v_119 h_120 =>
∃ (r_121 : Int), v_119 = .int .i64 r_121 ∧ (
hkeep R_105 h_117 h_120 ∧ (
C F_bitmap_Map_Set #[.pointer x_110, .int .i64 x_74, .int .i64 a2, .int .i64 r_121] h_120 (fun v_122 h_123 =>
∃ (r_124 : Int), v_122 = .int .i64 r_124 ∧ (
bindI (IntKind.i64.wrap (x_74 + (1 : Int))) fun z_125 =>
∃ m_70, m_70 < n_71 ∧ J_69 m_70 [.int .i64 z_125] h_123)) (Kp)))) (Kp)))) (Kp)))))))) <|
K (.tuple #[]) h_72)))) (Kp)

/- burin/generic.spans -/
set_option maxRecDepth 100000 in
def generic_spans (C : CallP) (template : Int) (h : Heap) (K : Value → Heap → Prop) (Kp : List PanicEntry → Heap → Prop) : Prop :=
bcase (template == (0 : Int)) (
newC h [.int .i64 (-2), .int .i64 (-2), .int .i64 2, .int .i64 (-1), .int .i64 (-3), .int .i64 3, .int .i64 0, .int .i64 (-4), .int .i64 (-1)] T_generic_span fun r_1 h_2 =>
K (.slice (some ⟨r_1, 0, none⟩) 3 3) h_2) <|
bcase (template == (1 : Int)) (
newC h [.int .i64 (-2), .int .i64 (-1), .int .i64 2, .int .i64 (-1), .int .i64 (-2), .int .i64 3, .int .i64 0, .int .i64 (-3), .int .i64 (-1)] T_generic_span fun r_3 h_4 =>
K (.slice (some ⟨r_3, 0, none⟩) 3 3) h_4) <|
bcase (template == (2 : Int)) (
newC h [.int .i64 (-2), .int .i64 (-1), .int .i64 1, .int .i64 (-1), .int .i64 (-2), .int .i64 2, .int .i64 0, .int .i64 (-2), .int .i64 (-1)] T_generic_span fun r_5 h_6 =>
K (.slice (some ⟨r_5, 0, none⟩) 3 3) h_6) <|
newC h [.int .i64 (-1), .int .i64 (-3), .int .i64 2, .int .i64 0, .int .i64 (-4), .int .i64 (-1)] T_generic_span fun r_7 h_8 =>
K (.slice (some ⟨r_7, 0, none⟩) 2 2) h_8

/- (burin/generic.coding).decide -/
set_option maxRecDepth 100000 in
def generic_coding_decide (C : CallP) (x_1 : Option Addr) (context : Int) (bit : Int) (h : Heap) (K : Value → Heap → Prop) (Kp : List PanicEntry → Heap → Prop) : Prop :=
newC h [.pointer x_1] T_generic_coding fun r_2 h_3 =>
ldP h_3 ((⟨r_2, 0, none⟩ : Addr).add 0) fun x_4 =>
C F_arith_Coder_Put #[.pointer x_4, .int .i64 context, .int .i64 bit] h_3 (fun v_5 h_6 =>
∃ (r_7 : Int), v_5 = .int .i64 r_7 ∧ (
bcase (r_7 != (0 : Int)) (
Kp [{ v := .iface T_generic_fault (.agg #[.int .i64 r_7]), recovered := false }] h_6) <|
K (.int .i64 bit) h_6)) (Kp)

/- (burin/generic.decoding).decide -/
set_option maxRecDepth 100000 in
def generic_decoding_decide (C : CallP) (x_1 : Option Addr) (context : Int) (a2 : Int) (h : Heap) (K : Value → Heap → Prop) (Kp : List PanicEntry → Heap → Prop) : Prop :=
newC h [.pointer x_1] T_generic_decoding fun r_2 h_3 =>
ldP h_3 ((⟨r_2, 0, none⟩ : Addr).add 0) fun x_4 =>
C F_arith_Decoder_Get #[.pointer x_4, .int .i64 context] h_3 (fun v_5 h_6 =>
∃ (r_7 : Int), ∃ (r_8 : Int), v_5 = .tuple #[.int .i64 r_7, .int .i64 r_8] ∧ (
bcase (r_8 != (0 : Int)) (
Kp [{ v := .iface T_generic_fault (.agg #[.int .i64 r_8]), recovered := false }] h_6) <|
K (.int .i64 r_7) h_6)) (Kp)

end Go.Den.YtfaclehehhgpcaaGreat

/- Written by gen.py: each condition of the functions of generic is the one of its body; so it is enough for its call. -/
set_option linter.unusedVariables false
set_option linter.unusedSimpArgs false
namespace Go.Den.YtfaclehehhgpcaaGreat
open Go Go.Den

noncomputable def hints_generic_Encode : Hints := Hints.mk (fun i => none)
  (fun i => none)
  (fun i => none) []
set_option maxRecDepth 100000 in
theorem eq_generic_Encode (C : CallP) (b_1 : Int) (b_2 : Int) (b_3 : Option Addr) (b_3n : Nat) (b_3c : Nat) (template : Int) (skip : Bool) (h : Heap) (K : Value → Heap → Prop) (Kp : List PanicEntry → Heap → Prop) :
    fnD Go.Proofs.Tryz.prog C hints_generic_Encode Go.Proofs.Tryz.f57 [.agg #[.int .i64 b_1, .int .i64 b_2, .slice b_3 b_3n b_3c], .int .i64 template, .bool skip] h K Kp = generic_Encode C b_1 b_2 b_3 b_3n b_3c template skip h K Kp := by kernel_rfl

theorem call_generic_Encode {b_1 : Int} {b_2 : Int} {b_3 : Option Addr} {b_3n : Nat} {b_3c : Nat} {template : Int} {skip : Bool} {h : Heap} {K : Value → Heap → Prop} {Kp : List PanicEntry → Heap → Prop} (H : generic_Encode (CallsHP Go.Proofs.Tryz.prog) b_1 b_2 b_3 b_3n b_3c template skip h K Kp) : CallsHP Go.Proofs.Tryz.prog F_generic_Encode #[.agg #[.int .i64 b_1, .int .i64 b_2, .slice b_3 b_3n b_3c], .int .i64 template, .bool skip] h K Kp :=
  callsHP_of hints_generic_Encode (by kernel_rfl) Go.Proofs.Tryz.func57 (by kernel_rfl) (by rw [eq_generic_Encode]; exact H)

noncomputable def hints_generic_Decode : Hints := Hints.mk (fun i => none)
  (fun i => none)
  (fun i => none) []
set_option maxRecDepth 100000 in
theorem eq_generic_Decode (C : CallP) (f : Option Addr) (fn : Nat) (fc : Nat) (w : Int) (h' : Int) (template : Int) (skip : Bool) (h : Heap) (K : Value → Heap → Prop) (Kp : List PanicEntry → Heap → Prop) :
    fnD Go.Proofs.Tryz.prog C hints_generic_Decode Go.Proofs.Tryz.f78 [.slice f fn fc, .int .i64 w, .int .i64 h', .int .i64 template, .bool skip] h K Kp = generic_Decode C f fn fc w h' template skip h K Kp := by kernel_rfl

theorem call_generic_Decode {f : Option Addr} {fn : Nat} {fc : Nat} {w : Int} {h' : Int} {template : Int} {skip : Bool} {h : Heap} {K : Value → Heap → Prop} {Kp : List PanicEntry → Heap → Prop} (H : generic_Decode (CallsHP Go.Proofs.Tryz.prog) f fn fc w h' template skip h K Kp) : CallsHP Go.Proofs.Tryz.prog F_generic_Decode #[.slice f fn fc, .int .i64 w, .int .i64 h', .int .i64 template, .bool skip] h K Kp :=
  callsHP_of hints_generic_Decode (by kernel_rfl) Go.Proofs.Tryz.func78 (by kernel_rfl) (by rw [eq_generic_Decode]; exact H)

noncomputable def hints_generic_Put : Hints := Hints.mk (fun i => bif Nat.beq i 9 then some ([7], .take 0 <| .take 3 <| .take 4 <| .take 5 <| .take 1 <| .take 2 <| .go 6 <| .bar 7 [] <| .take 8 <| .take 9 <| .done) else (none))
  (fun i => none)
  (fun i => none) []
set_option maxRecDepth 100000 in
theorem eq_generic_Put (C : CallP) (c : Option Addr) (base : Int) (b_1 : Int) (b_2 : Int) (b_3 : Option Addr) (b_3n : Nat) (b_3c : Nat) (template : Int) (skip : Bool) (h : Heap) (K : Value → Heap → Prop) (Kp : List PanicEntry → Heap → Prop) :
    fnD Go.Proofs.Tryz.prog C hints_generic_Put Go.Proofs.Tryz.f123 [.pointer c, .int .i64 base, .agg #[.int .i64 b_1, .int .i64 b_2, .slice b_3 b_3n b_3c], .int .i64 template, .bool skip] h K Kp = generic_Put C c base b_1 b_2 b_3 b_3n b_3c template skip h K Kp := by kernel_rfl

theorem call_generic_Put {c : Option Addr} {base : Int} {b_1 : Int} {b_2 : Int} {b_3 : Option Addr} {b_3n : Nat} {b_3c : Nat} {template : Int} {skip : Bool} {h : Heap} {K : Value → Heap → Prop} {Kp : List PanicEntry → Heap → Prop} (H : generic_Put (CallsHP Go.Proofs.Tryz.prog) c base b_1 b_2 b_3 b_3n b_3c template skip h K Kp) : CallsHP Go.Proofs.Tryz.prog F_generic_Put #[.pointer c, .int .i64 base, .agg #[.int .i64 b_1, .int .i64 b_2, .slice b_3 b_3n b_3c], .int .i64 template, .bool skip] h K Kp :=
  callsHP_of hints_generic_Put (by kernel_rfl) Go.Proofs.Tryz.func123 (by kernel_rfl) (by rw [eq_generic_Put]; exact H)

noncomputable def hints_generic_Get : Hints := Hints.mk (fun i => bif Nat.beq i 9 then some ([7], .take 0 <| .take 3 <| .take 4 <| .take 5 <| .take 1 <| .take 2 <| .go 6 <| .bar 7 [] <| .take 8 <| .take 9 <| .done) else (none))
  (fun i => none)
  (fun i => none) []
set_option maxRecDepth 100000 in
theorem eq_generic_Get (C : CallP) (a0 : Option Addr) (a1 : Int) (a2 : Int) (a3 : Int) (a4 : Int) (a5 : Bool) (h : Heap) (K : Value → Heap → Prop) (Kp : List PanicEntry → Heap → Prop) :
    fnD Go.Proofs.Tryz.prog C hints_generic_Get Go.Proofs.Tryz.f135 [.pointer a0, .int .i64 a1, .int .i64 a2, .int .i64 a3, .int .i64 a4, .bool a5] h K Kp = generic_Get C a0 a1 a2 a3 a4 a5 h K Kp := by kernel_rfl

theorem call_generic_Get {a0 : Option Addr} {a1 : Int} {a2 : Int} {a3 : Int} {a4 : Int} {a5 : Bool} {h : Heap} {K : Value → Heap → Prop} {Kp : List PanicEntry → Heap → Prop} (H : generic_Get (CallsHP Go.Proofs.Tryz.prog) a0 a1 a2 a3 a4 a5 h K Kp) : CallsHP Go.Proofs.Tryz.prog F_generic_Get #[.pointer a0, .int .i64 a1, .int .i64 a2, .int .i64 a3, .int .i64 a4, .bool a5] h K Kp :=
  callsHP_of hints_generic_Get (by kernel_rfl) Go.Proofs.Tryz.func135 (by kernel_rfl) (by rw [eq_generic_Get]; exact H)

noncomputable def hints_generic_fits : Hints := Hints.mk (fun i => none)
  (fun i => none)
  (fun i => none) []
set_option maxRecDepth 100000 in
theorem eq_generic_fits (C : CallP) (base : Int) (many : Int) (all : Int) (h : Heap) (K : Value → Heap → Prop) (Kp : List PanicEntry → Heap → Prop) :
    fnD Go.Proofs.Tryz.prog C hints_generic_fits Go.Proofs.Tryz.f169 [.int .i64 base, .int .i64 many, .int .i64 all] h K Kp = generic_fits C base many all h K Kp := by kernel_rfl

theorem call_generic_fits {base : Int} {many : Int} {all : Int} {h : Heap} {K : Value → Heap → Prop} {Kp : List PanicEntry → Heap → Prop} (H : generic_fits (CallsHP Go.Proofs.Tryz.prog) base many all h K Kp) : CallsHP Go.Proofs.Tryz.prog F_generic_fits #[.int .i64 base, .int .i64 many, .int .i64 all] h K Kp :=
  callsHP_of hints_generic_fits (by kernel_rfl) Go.Proofs.Tryz.func169 (by kernel_rfl) (by rw [eq_generic_fits]; exact H)

noncomputable def hints_generic_caught : Hints := Hints.mk (fun i => none)
  (fun i => none)
  (fun i => none) []
set_option maxRecDepth 100000 in
theorem eq_generic_caught (C : CallP) (D : CallDP) (run : Value) (h : Heap) (K : Value → Heap → Prop) (Kp : List PanicEntry → Heap → Prop) :
    fnDD Go.Proofs.Tryz.prog C D hints_generic_caught Go.Proofs.Tryz.f171 [run] h K Kp = generic_caught C D run h K Kp := by kernel_rfl

theorem call_generic_caught {run : Value} {h : Heap} {K : Value → Heap → Prop} {Kp : List PanicEntry → Heap → Prop} (H : generic_caught (CallsHP Go.Proofs.Tryz.prog) (DCalls Go.Proofs.Tryz.prog) run h K Kp) : CallsHP Go.Proofs.Tryz.prog F_generic_caught #[run] h K Kp :=
  callsHP_ofD hints_generic_caught (by kernel_rfl) Go.Proofs.Tryz.func171 (by kernel_rfl) (by rw [eq_generic_caught]; exact H)

noncomputable def hints_generic_Put_c1 : Hints := Hints.mk (fun i => none)
  (fun i => none)
  (fun i => none) []
set_option maxRecDepth 100000 in
theorem eq_generic_Put_c1 (C : CallP) (cap0 : Addr) (cap1 : Addr) (h : Heap) (K : Value → Heap → Prop) (Kp : List PanicEntry → Heap → Prop) :
    fnD Go.Proofs.Tryz.prog C hints_generic_Put_c1 Go.Proofs.Tryz.f172 [.pointer (some cap0), .pointer (some cap1)] h K Kp = generic_Put_c1 C cap0 cap1 h K Kp := by kernel_rfl

theorem call_generic_Put_c1 {cap0 : Addr} {cap1 : Addr} {h : Heap} {K : Value → Heap → Prop} {Kp : List PanicEntry → Heap → Prop} (H : generic_Put_c1 (CallsHP Go.Proofs.Tryz.prog) cap0 cap1 h K Kp) : CallsHP Go.Proofs.Tryz.prog F_generic_Put_c1 #[.pointer (some cap0), .pointer (some cap1)] h K Kp :=
  callsHP_of hints_generic_Put_c1 (by kernel_rfl) Go.Proofs.Tryz.func172 (by kernel_rfl) (by rw [eq_generic_Put_c1]; exact H)

noncomputable def hints_generic_procedure_run : Hints := Hints.mk (fun i => bif Nat.beq i 8 then some ([13], .take 0 <| .take 1 <| .take 2 <| .take 4 <| .take 5 <| .take 6 <| .take 8 <| .take 10 <| .take 3 <| .take 11 <| .take 12 <| .take 7 <| .take 9 <| .bar 13 [] <| .take 14 <| .done) else (bif Nat.beq i 9 then some ([12], .take 0 <| .take 1 <| .take 2 <| .take 4 <| .take 5 <| .take 6 <| .take 8 <| .take 9 <| .take 10 <| .take 11 <| .take 3 <| .take 7 <| .bar 12 [] <| .done) else (none)))
  (fun i => bif Nat.beq i 2 then some ([(17, .int .i64)], 2305843009213563072) else (none))
  (fun i => bif Nat.beq i 8 then some ([(7, .int .i64)], 251658368) else (none)) []
set_option maxRecDepth 100000 in
theorem eq_generic_procedure_run (C : CallP) (p : Option Addr) (size : Int) (h : Heap) (K : Value → Heap → Prop) (Kp : List PanicEntry → Heap → Prop) :
    fnD Go.Proofs.Tryz.prog C hints_generic_procedure_run Go.Proofs.Tryz.f173 [.pointer p, .int .i64 size] h K Kp = generic_procedure_run C (invokeD Go.Proofs.Tryz.prog C) p size h K Kp := by kernel_rfl

theorem call_generic_procedure_run {p : Option Addr} {size : Int} {h : Heap} {K : Value → Heap → Prop} {Kp : List PanicEntry → Heap → Prop} (H : generic_procedure_run (CallsHP Go.Proofs.Tryz.prog) (invokeD Go.Proofs.Tryz.prog (CallsHP Go.Proofs.Tryz.prog)) p size h K Kp) : CallsHP Go.Proofs.Tryz.prog F_generic_procedure_run #[.pointer p, .int .i64 size] h K Kp :=
  callsHP_of hints_generic_procedure_run (by kernel_rfl) Go.Proofs.Tryz.func173 (by kernel_rfl) (by rw [eq_generic_procedure_run]; exact H)

noncomputable def hints_generic_Get_c1 : Hints := Hints.mk (fun i => none)
  (fun i => none)
  (fun i => none) []
set_option maxRecDepth 100000 in
theorem eq_generic_Get_c1 (C : CallP) (cap0 : Addr) (cap1 : Addr) (h : Heap) (K : Value → Heap → Prop) (Kp : List PanicEntry → Heap → Prop) :
    fnD Go.Proofs.Tryz.prog C hints_generic_Get_c1 Go.Proofs.Tryz.f179 [.pointer (some cap0), .pointer (some cap1)] h K Kp = generic_Get_c1 C cap0 cap1 h K Kp := by kernel_rfl

theorem call_generic_Get_c1 {cap0 : Addr} {cap1 : Addr} {h : Heap} {K : Value → Heap → Prop} {Kp : List PanicEntry → Heap → Prop} (H : generic_Get_c1 (CallsHP Go.Proofs.Tryz.prog) cap0 cap1 h K Kp) : CallsHP Go.Proofs.Tryz.prog F_generic_Get_c1 #[.pointer (some cap0), .pointer (some cap1)] h K Kp :=
  callsHP_of hints_generic_Get_c1 (by kernel_rfl) Go.Proofs.Tryz.func179 (by kernel_rfl) (by rw [eq_generic_Get_c1]; exact H)

noncomputable def hints_generic_caught_c1 : Hints := Hints.mk (fun i => none)
  (fun i => none)
  (fun i => none) []
set_option maxRecDepth 100000 in
theorem eq_generic_caught_c1 (C : CallP) (cap0 : Addr) (u : FrameMode) (h : Heap) (Kd : FrameMode → Heap → Prop) (Kdp : FrameMode → List PanicEntry → Heap → Prop) :
    dfnD Go.Proofs.Tryz.prog C hints_generic_caught_c1 Go.Proofs.Tryz.f199 [.pointer (some cap0)] u h Kd Kdp = generic_caught_c1 C cap0 u h Kd Kdp := by kernel_rfl

theorem dcall_generic_caught_c1 {cap0 : Addr} {u : FrameMode} {h : Heap} {Kd : FrameMode → Heap → Prop} {Kdp : FrameMode → List PanicEntry → Heap → Prop} (H : generic_caught_c1 (CallsHP Go.Proofs.Tryz.prog) cap0 u h Kd Kdp) : DCalls Go.Proofs.Tryz.prog F_generic_caught_c1 #[.pointer (some cap0)] u h Kd Kdp :=
  dcalls_of hints_generic_caught_c1 (by kernel_rfl) Go.Proofs.Tryz.func199 (by kernel_rfl) (by rw [eq_generic_caught_c1]; exact H)

noncomputable def hints_generic_procedure_same : Hints := Hints.mk (fun i => bif Nat.beq i 4 then some ([14], .take 0 <| .take 1 <| .take 2 <| .take 4 <| .take 5 <| .take 7 <| .take 8 <| .take 9 <| .take 11 <| .take 12 <| .take 13 <| .take 3 <| .take 10 <| .go 6 <| .bar 14 [] <| .take 15 <| .done) else (none))
  (fun i => bif Nat.beq i 2 then some ([(9, .int .i64)], 536870592) else (none))
  (fun i => none) []
set_option maxRecDepth 100000 in
theorem eq_generic_procedure_same (C : CallP) (p : Option Addr) (w : Int) (y : Int) (h : Heap) (K : Value → Heap → Prop) (Kp : List PanicEntry → Heap → Prop) :
    fnD Go.Proofs.Tryz.prog C hints_generic_procedure_same Go.Proofs.Tryz.f201 [.pointer p, .int .i64 w, .int .i64 y] h K Kp = generic_procedure_same C p w y h K Kp := by kernel_rfl

theorem call_generic_procedure_same {p : Option Addr} {w : Int} {y : Int} {h : Heap} {K : Value → Heap → Prop} {Kp : List PanicEntry → Heap → Prop} (H : generic_procedure_same (CallsHP Go.Proofs.Tryz.prog) p w y h K Kp) : CallsHP Go.Proofs.Tryz.prog F_generic_procedure_same #[.pointer p, .int .i64 w, .int .i64 y] h K Kp :=
  callsHP_of hints_generic_procedure_same (by kernel_rfl) Go.Proofs.Tryz.func201 (by kernel_rfl) (by rw [eq_generic_procedure_same]; exact H)

noncomputable def hints_generic_procedure_row : Hints := Hints.mk (fun i => bif Nat.beq i 4 then some ([11], .take 1 <| .take 3 <| .take 0 <| .take 2 <| .take 4 <| .take 5 <| .take 6 <| .take 7 <| .take 8 <| .take 9 <| .go 10 <| .bar 11 [] <| .done) else (bif Nat.beq i 8 then some ([15], .keep <| .take 0 <| .take 3 <| .take 4 <| .take 5 <| .take 7 <| .take 8 <| .take 9 <| .take 1 <| .take 2 <| .take 6 <| .take 10 <| .take 11 <| .go 12 <| .take 13 <| .take 14 <| .bar 15 [] <| .done) else (bif Nat.beq i 19 then some ([33], .keep <| .take 0 <| .take 1 <| .take 2 <| .take 3 <| .take 6 <| .take 7 <| .take 8 <| .take 10 <| .take 11 <| .take 12 <| .take 13 <| .take 14 <| .take 17 <| .take 18 <| .take 19 <| .take 20 <| .take 21 <| .take 26 <| .take 27 <| .take 28 <| .take 4 <| .take 5 <| .take 9 <| .take 15 <| .take 16 <| .take 22 <| .take 23 <| .take 29 <| .go 24 <| .take 25 <| .take 30 <| .take 31 <| .take 32 <| .bar 33 [] <| .done) else (bif Nat.beq i 20 then some ([], .take 0 <| .take 1 <| .take 2 <| .take 3 <| .take 7 <| .take 8 <| .take 9 <| .take 4 <| .take 5 <| .take 6 <| .take 10 <| .take 11 <| .take 12 <| .done) else (bif Nat.beq i 22 then some ([26], .keep <| .take 0 <| .take 1 <| .take 2 <| .take 4 <| .take 5 <| .take 6 <| .take 7 <| .take 8 <| .take 10 <| .take 11 <| .take 12 <| .take 14 <| .take 16 <| .take 17 <| .take 18 <| .take 20 <| .take 21 <| .take 3 <| .take 9 <| .take 23 <| .take 24 <| .take 13 <| .take 15 <| .take 19 <| .go 22 <| .go 25 <| .bar 26 [] <| .done) else (none))))))
  (fun i => bif Nat.beq i 2 then some ([(6, .slc), (21, .int .i64)], 9223372036852680512) else (bif Nat.beq i 6 then some ([(10, .int .i64)], 288230238712759296) else (bif Nat.beq i 12 then some ([(64, .int .i64)], 713623846352979940529142966278003494481852416) else (bif Nat.beq i 16 then some ([(12, .int .i64), (69, .int .i64)], 2658455991569831155511803761855066112) else (none)))))
  (fun i => none) []
set_option maxRecDepth 100000 in
theorem eq_generic_procedure_row (C : CallP) (a0 : Option Addr) (a1 : Int) (a2 : Int) (h : Heap) (K : Value → Heap → Prop) (Kp : List PanicEntry → Heap → Prop) :
    fnD Go.Proofs.Tryz.prog C hints_generic_procedure_row Go.Proofs.Tryz.f202 [.pointer a0, .int .i64 a1, .int .i64 a2] h K Kp = generic_procedure_row C (invokeD Go.Proofs.Tryz.prog C) a0 a1 a2 h K Kp := by kernel_rfl

theorem call_generic_procedure_row {a0 : Option Addr} {a1 : Int} {a2 : Int} {h : Heap} {K : Value → Heap → Prop} {Kp : List PanicEntry → Heap → Prop} (H : generic_procedure_row (CallsHP Go.Proofs.Tryz.prog) (invokeD Go.Proofs.Tryz.prog (CallsHP Go.Proofs.Tryz.prog)) a0 a1 a2 h K Kp) : CallsHP Go.Proofs.Tryz.prog F_generic_procedure_row #[.pointer a0, .int .i64 a1, .int .i64 a2] h K Kp :=
  callsHP_of hints_generic_procedure_row (by kernel_rfl) Go.Proofs.Tryz.func202 (by kernel_rfl) (by rw [eq_generic_procedure_row]; exact H)

noncomputable def hints_generic_spans : Hints := Hints.mk (fun i => none)
  (fun i => none)
  (fun i => none) []
set_option maxRecDepth 100000 in
theorem eq_generic_spans (C : CallP) (template : Int) (h : Heap) (K : Value → Heap → Prop) (Kp : List PanicEntry → Heap → Prop) :
    fnD Go.Proofs.Tryz.prog C hints_generic_spans Go.Proofs.Tryz.f218 [.int .i64 template] h K Kp = generic_spans C template h K Kp := by kernel_rfl

theorem call_generic_spans {template : Int} {h : Heap} {K : Value → Heap → Prop} {Kp : List PanicEntry → Heap → Prop} (H : generic_spans (CallsHP Go.Proofs.Tryz.prog) template h K Kp) : CallsHP Go.Proofs.Tryz.prog F_generic_spans #[.int .i64 template] h K Kp :=
  callsHP_of hints_generic_spans (by kernel_rfl) Go.Proofs.Tryz.func218 (by kernel_rfl) (by rw [eq_generic_spans]; exact H)

noncomputable def hints_generic_coding_decide : Hints := Hints.mk (fun i => none)
  (fun i => none)
  (fun i => none) []
set_option maxRecDepth 100000 in
theorem eq_generic_coding_decide (C : CallP) (x_1 : Option Addr) (context : Int) (bit : Int) (h : Heap) (K : Value → Heap → Prop) (Kp : List PanicEntry → Heap → Prop) :
    fnD Go.Proofs.Tryz.prog C hints_generic_coding_decide Go.Proofs.Tryz.f240 [.agg #[.pointer x_1], .int .i64 context, .int .i64 bit] h K Kp = generic_coding_decide C x_1 context bit h K Kp := by kernel_rfl

theorem call_generic_coding_decide {x_1 : Option Addr} {context : Int} {bit : Int} {h : Heap} {K : Value → Heap → Prop} {Kp : List PanicEntry → Heap → Prop} (H : generic_coding_decide (CallsHP Go.Proofs.Tryz.prog) x_1 context bit h K Kp) : CallsHP Go.Proofs.Tryz.prog F_generic_coding_decide #[.agg #[.pointer x_1], .int .i64 context, .int .i64 bit] h K Kp :=
  callsHP_of hints_generic_coding_decide (by kernel_rfl) Go.Proofs.Tryz.func240 (by kernel_rfl) (by rw [eq_generic_coding_decide]; exact H)

noncomputable def hints_generic_decoding_decide : Hints := Hints.mk (fun i => none)
  (fun i => none)
  (fun i => none) []
set_option maxRecDepth 100000 in
theorem eq_generic_decoding_decide (C : CallP) (x_1 : Option Addr) (context : Int) (a2 : Int) (h : Heap) (K : Value → Heap → Prop) (Kp : List PanicEntry → Heap → Prop) :
    fnD Go.Proofs.Tryz.prog C hints_generic_decoding_decide Go.Proofs.Tryz.f241 [.agg #[.pointer x_1], .int .i64 context, .int .i64 a2] h K Kp = generic_decoding_decide C x_1 context a2 h K Kp := by kernel_rfl

theorem call_generic_decoding_decide {x_1 : Option Addr} {context : Int} {a2 : Int} {h : Heap} {K : Value → Heap → Prop} {Kp : List PanicEntry → Heap → Prop} (H : generic_decoding_decide (CallsHP Go.Proofs.Tryz.prog) x_1 context a2 h K Kp) : CallsHP Go.Proofs.Tryz.prog F_generic_decoding_decide #[.agg #[.pointer x_1], .int .i64 context, .int .i64 a2] h K Kp :=
  callsHP_of hints_generic_decoding_decide (by kernel_rfl) Go.Proofs.Tryz.func241 (by kernel_rfl) (by rw [eq_generic_decoding_decide]; exact H)

end Go.Den.YtfaclehehhgpcaaGreat

/- Written by gen.py: the conditions of the functions of burinref6. -/
set_option linter.unusedVariables false
set_option linter.unusedSimpArgs false
namespace Go.Den.YtfaclehehhgpcaaGreat
open Go Go.Den

/- burin/burinref6.May -/
/- burin/burinref6.Size -/
/- burin/burinref6.Places -/
/- burin/burinref6.At -/
end Go.Den.YtfaclehehhgpcaaGreat

/- Written by gen.py: each condition of the functions of burinref6 is the one of its body; so it is enough for its call. -/
set_option linter.unusedVariables false
set_option linter.unusedSimpArgs false
namespace Go.Den.YtfaclehehhgpcaaGreat
open Go Go.Den

end Go.Den.YtfaclehehhgpcaaGreat

/- GnA: the templates of generic coding: places, contexts; what the program and the document tell of them. -/
set_option linter.unusedVariables false
set_option linter.unusedSimpArgs false
namespace Go.Bm
open Go Go.Den Go.Den.YtfaclehehhgpcaaGreat

abbrev Sp := Int × Int × Int
def spanL : Nat → List Sp
  | 0 => [(-2, -2, 2), (-1, -3, 3), (0, -4, -1)]
  | 1 => [(-2, -1, 2), (-1, -2, 3), (0, -3, -1)]
  | 2 => [(-2, -1, 1), (-1, -2, 2), (0, -2, -1)]
  | _ => [(-1, -3, 2), (0, -4, -1)]
def spanW (s : Sp) : Nat := (s.2.2 - s.2.1 + 1).toNat
def spl (s : Sp) (k : Nat) : List (Int × Int) := (List.range k).map fun (j : Nat) => (s.2.1 + (j : Int), s.1)
def plcs (l : List Sp) : List (Int × Int) := l.flatMap fun s => spl s (spanW s)
def pb (G : Int → Int → Bool) (x y : Int) (l : List (Int × Int)) : List Bool := l.map fun p => G (x + p.1) (y + p.2)
def gctx (t : Nat) (G : Int → Int → Bool) (x y : Int) : Nat := bitsN 0 (pb G x y (plcs (spanL t)))
def gsize (t : Nat) : Nat := 2 ^ (plcs (spanL t)).length
theorem gsize_le {t : Nat} (h : t < 4) : 1024 ≤ gsize t ∧ gsize t ≤ 65536 := by
  have : t = 0 ∨ t = 1 ∨ t = 2 ∨ t = 3 := by omega
  rcases this with rfl | rfl | rfl | rfl <;> decide
theorem gctx_lt (t : Nat) (G : Int → Int → Bool) (x y : Int) : gctx t G x y < gsize t := by
  unfold gctx gsize
  have := bitsN_lt (pb G x y (plcs (spanL t))) 0 0 (by decide)
  rw [Nat.zero_add] at this
  simpa [pb] using this
/-- A span lies above, or to the left. -/
structure SpOk (s : Sp) : Prop where
  d : -2 ≤ s.1 ∧ s.1 ≤ 0
  f : -4 ≤ s.2.1 ∧ s.2.1 ≤ s.2.2
  t : s.2.2 ≤ 3
  z : s.1 = 0 → s.2.2 ≤ -1
theorem spanL_ok {t : Nat} (h : t < 4) : ∀ s ∈ spanL t, SpOk s := by
  have : t = 0 ∨ t = 1 ∨ t = 2 ∨ t = 3 := by omega
  rcases this with rfl | rfl | rfl | rfl <;> (intro s hs; simp [spanL] at hs; rcases hs with rfl | rfl | rfl <;> exact ⟨by decide, by decide, by decide, by decide⟩)
theorem spanL_len {t : Nat} (h : t < 4) : 2 ≤ (spanL t).length ∧ (spanL t).length ≤ 3 := by
  have : t = 0 ∨ t = 1 ∨ t = 2 ∨ t = 3 := by omega
  rcases this with rfl | rfl | rfl | rfl <;> decide
def spC : List Sp → List Value
  | [] => []
  | s :: l => .int .i64 s.1 :: .int .i64 s.2.1 :: .int .i64 s.2.2 :: spC l
theorem spC_get : ∀ {l : List Sp} {i : Nat} {s : Sp}, l[i]? = some s → (spC l)[i * 3]? = some (.int .i64 s.1) ∧ (spC l)[i * 3 + 1]? = some (.int .i64 s.2.1) ∧ (spC l)[i * 3 + 2]? = some (.int .i64 s.2.2)
  | [], i, s, h => by simp at h
  | a :: l, 0, s, h => by
    simp at h
    subst h
    exact ⟨rfl, rfl, rfl⟩
  | a :: l, i + 1, s, h => by
    have := spC_get (l := l) (i := i) (s := s) (by simpa using h)
    rw [show (i + 1) * 3 = i * 3 + 3 by omega]
    exact this
section
variable {hB : Heap} {K : Value → Heap → Prop} {Kp : List PanicEntry → Heap → Prop}
theorem cspans_ok {template : Int} (hg : ∀ t : Nat, t < 4 → template = (t : Int) → ∀ r h', Hp hB [] h' [⟨r, true, T_context_span, spC (spanL t)⟩] → K (.slice (at0 r) (spanL t).length (spanL t).length) h')
    (hbad : ¬ (0 ≤ template ∧ template < 4) → K (.slice none 0 0) hB) : CP F_context_spans #[.int .i64 template] hB K Kp := by
  refine call_context_spans ?_
  unfold context_spans
  have H := Hp.nil hB []
  refine bcase_eq (fun h0 => ?_) fun h0 => bcase_eq (fun h1 => ?_) fun h1 => bcase_eq (fun h2 => ?_) fun h2 => bcase_eq (fun h3 => ?_) fun h3 => hbad (by omega)
  · exact newC_hp H fun r h H => hg 0 (by decide) h0 r h H
  · exact newC_hp H fun r h H => hg 1 (by decide) h1 r h H
  · exact newC_hp H fun r h H => hg 2 (by decide) h2 r h H
  · exact newC_hp H fun r h H => hg 3 (by decide) h3 r h H
theorem gspans_ok {t : Nat} (ht : t < 4) (hk : ∀ r h', Hp hB [] h' [⟨r, true, T_generic_span, spC (spanL t)⟩] → K (.slice (at0 r) (spanL t).length (spanL t).length) h') : CP F_generic_spans #[.int .i64 (t : Nat)] hB K Kp := by
  refine call_generic_spans ?_
  unfold generic_spans
  have H := Hp.nil hB []
  have : t = 0 ∨ t = 1 ∨ t = 2 ∨ t = 3 := by omega
  rcases this with rfl | rfl | rfl | rfl
  · refine bcase_true (by decide) ?_
    exact newC_hp H fun r h H => hk r h H
  · refine bcase_false (by decide) (bcase_true (by decide) ?_)
    exact newC_hp H fun r h H => hk r h H
  · refine bcase_false (by decide) (bcase_false (by decide) (bcase_true (by decide) ?_))
    exact newC_hp H fun r h H => hk r h H
  · refine bcase_false (by decide) (bcase_false (by decide) (bcase_false (by decide) ?_))
    exact newC_hp H fun r h H => hk r h H
theorem plcs_take {l : List Sp} {i : Nat} {s : Sp} (h : l[i]? = some s) : (plcs (l.take (i + 1))).length = (plcs (l.take i)).length + spanW s := by
  have hi := (List.getElem?_eq_some_iff.1 h).1
  have e := (List.getElem?_eq_some_iff.1 h).2
  rw [List.take_succ_eq_append_getElem hi, e]
  unfold plcs
  rw [List.flatMap_append, List.length_append]
  simp [spl]
theorem plcs_small {t i : Nat} (ht : t < 4) : (plcs ((spanL t).take i)).length ≤ 16 := by
  have : t = 0 ∨ t = 1 ∨ t = 2 ∨ t = 3 := by omega
  have hi : i = 0 ∨ i = 1 ∨ i = 2 ∨ 3 ≤ i := by omega
  rcases hi with rfl | rfl | rfl | hi
  · rcases this with rfl | rfl | rfl | rfl <;> decide
  · rcases this with rfl | rfl | rfl | rfl <;> decide
  · rcases this with rfl | rfl | rfl | rfl <;> decide
  · rw [List.take_of_length_le (Nat.le_trans (spanL_len ht).2 hi)]
    rcases this with rfl | rfl | rfl | rfl <;> decide
theorem csize_ok {template : Int} (hg : ∀ t : Nat, t < 4 → template = (t : Int) → ∀ h', hext hB h' → K (.tuple #[.int .i64 (gsize t : Nat), .int .i64 0]) h')
    (hbad : ¬ (0 ≤ template ∧ template < 4) → ∀ h', hext hB h' → K (.tuple #[.int .i64 0, .int .i64 60]) h') : CP F_context_Size #[.int .i64 template] hB K Kp := by
  refine call_context_Size ?_
  unfold context_Size
  refine cspans_ok (fun t ht et r h H => ?_) fun hn => ?_
  · refine ⟨_, _, _, rfl, ?_⟩
    refine bcase_false (by rfl) ?_
    have hlen := spanL_len ht
    refine ⟨fun n vs h' => ∃ i : Nat, i + n = (spanL t).length ∧ vs = [.int .i64 ((plcs ((spanL t).take i)).length : Nat), .int .i64 (i : Nat)] ∧ Hp hB [] h' [⟨r, true, T_context_span, spC (spanL t)⟩], ⟨(spanL t).length, 0, by omega, rfl, H⟩, ?_⟩
    clear H
    rintro n h u a b ⟨i, hin, hxx, H⟩
    injection hxx with h1 hxx
    injection hxx with h2 hxx
    injection h1 with _ h1
    injection h2 with _ h2
    subst h1 h2
    refine bcase_dec (fun h3 => ?_) fun h3 => ?_
    · have hi : i < (spanL t).length := by omega
      obtain ⟨s, hs⟩ : ∃ s, (spanL t)[i]? = some s := ⟨_, List.getElem?_eq_getElem hi⟩
      have hok := spanL_ok ht s (List.mem_of_getElem? hs)
      obtain ⟨k0, k1, k2⟩ := spC_get hs
      have o1 := hok.d
      have o2 := hok.f
      have o3 := hok.t
      refine needs_of (by omega) (ptr_of (a := ⟨r, 0, none⟩) ?_)
      rw [Int.toNat_natCast]
      refine ldI_of (hpB H 0 rfl (by rw [Nat.zero_add, Nat.add_zero]; exact k0)) (ldI_of (hpB H 0 rfl (by rw [Nat.zero_add]; exact k1)) (ldI_of (hpB H 0 rfl (by rw [Nat.zero_add]; exact k2)) ?_))
      refine newC_hp H fun r15 h H => ?_
      repeat first | with_reducible refine ldI_of (by with_unfolding_all first | exact hpA H 0 rfl rfl | exact hpA H 1 rfl rfl | exact Hp.cell H 0 rfl rfl | exact Hp.cell H 1 rfl rfl | exact hpB H 0 rfl rfl | exact hpB H 1 rfl rfl | exact hpC H 0 rfl rfl | exact hpC H 1 rfl rfl) ?_ | with_reducible refine ldS_of (by with_unfolding_all first | exact hpA H 0 rfl rfl | exact hpA H 1 rfl rfl | exact Hp.cell H 0 rfl rfl | exact Hp.cell H 1 rfl rfl | exact hpB H 0 rfl rfl | exact hpB H 1 rfl rfl | exact hpC H 0 rfl rfl | exact hpC H 1 rfl rfl) ?_ | with_reducible refine ldP_of (by with_unfolding_all first | exact hpA H 0 rfl rfl | exact hpA H 1 rfl rfl | exact Hp.cell H 0 rfl rfl | exact Hp.cell H 1 rfl rfl | exact hpB H 0 rfl rfl | exact hpB H 1 rfl rfl | exact hpC H 0 rfl rfl | exact hpC H 1 rfl rfl) ?_ | with_reducible refine ldB_of (by with_unfolding_all first | exact hpA H 0 rfl rfl | exact hpA H 1 rfl rfl | exact Hp.cell H 0 rfl rfl | exact Hp.cell H 1 rfl rfl | exact hpB H 0 rfl rfl | exact hpB H 1 rfl rfl | exact hpC H 0 rfl rfl | exact hpC H 1 rfl rfl) ?_ | with_reducible refine ldT_of (by with_unfolding_all first | exact hpA H 0 rfl rfl | exact hpA H 1 rfl rfl | exact Hp.cell H 0 rfl rfl | exact Hp.cell H 1 rfl rfl | exact hpB H 0 rfl rfl | exact hpB H 1 rfl rfl | exact hpC H 0 rfl rfl | exact hpC H 1 rfl rfl) ?_ | with_reducible refine stA H 0 (by with_unfolding_all exact rfl) (by with_unfolding_all exact rfl) (by with_unfolding_all exact rfl) fun h H => ?_ | with_reducible refine stA H 1 (by with_unfolding_all exact rfl) (by with_unfolding_all exact rfl) (by with_unfolding_all exact rfl) fun h H => ?_ | with_reducible refine st0 H 0 (by with_unfolding_all exact rfl) (by with_unfolding_all exact rfl) (by with_unfolding_all exact rfl) fun h H => ?_ | with_reducible refine st0 H 1 (by with_unfolding_all exact rfl) (by with_unfolding_all exact rfl) (by with_unfolding_all exact rfl) fun h H => ?_ | with_reducible refine stB H 0 (by with_unfolding_all exact rfl) (by with_unfolding_all exact rfl) (by with_unfolding_all exact rfl) fun h H => ?_ | with_reducible refine stB H 1 (by with_unfolding_all exact rfl) (by with_unfolding_all exact rfl) (by with_unfolding_all exact rfl) fun h H => ?_
      have hw : ((spanW s : Nat) : Int) = s.2.2 - s.2.1 + 1 := by unfold spanW; omega
      have hsm := plcs_small (i := i + 1) ht
      have htk := plcs_take hs
      refine bindI_of ((s.2.2 - s.2.1)) (by exact i64_in _ (by omega) (by omega)) ?_
      refine bindI_of (((spanW s : Nat) : Int)) (by exact i64_at _ _ (by omega) (by omega) (by omega)) ?_
      refine bindI_of ((((plcs ((spanL t).take (i + 1))).length : Nat) : Int)) (by exact i64_at _ _ (by omega) (by omega) (by omega)) ?_
      refine bindI_of (((i + 1 : Nat) : Int)) (by exact i64_at _ _ (by omega) (by omega) (by omega)) ?_
      exact ⟨n - 1, by omega, i + 1, by omega, rfl, H.take 1⟩
    · have hi : (spanL t).length ≤ i := by omega
      have hsm := plcs_small (i := i) ht
      rw [List.take_of_length_le hi] at hsm ⊢
      refine needs_of (by omega) ?_
      refine bindI_of (((gsize t : Nat) : Int)) (by exact (shlI_of (a := 1) (i := (plcs (spanL t)).length) (by omega) (by rw [Nat.one_mul]; exact Nat.lt_of_le_of_lt (gsize_le ht).2 (by decide))).trans (by rw [Nat.one_mul]; rfl)) ?_
      exact hg t ht et _ H.hext
  · refine ⟨_, _, _, rfl, ?_⟩
    refine bcase_true (by rfl) ?_
    exact hbad hn _ (hext.refl _)

/-! ### the document's -/
end
end Go.Bm

/- GnB: windows that are shifted along a row, and the walk over a row: plain law. -/
set_option linter.unusedVariables false
set_option linter.unusedSimpArgs false
namespace Go.Bm
open Go Go.Den Go.Den.YtfaclehehhgpcaaGreat

structure Wn where
  s : Sp
  b : Nat
def maskW (s : Sp) : Nat := 2 ^ spanW s - 1
def wnC (w : Wn) : List Value := [.int .i64 w.s.1, .int .i64 w.s.2.1, .int .i64 w.s.2.2, .int .i64 (w.b : Nat), .int .i64 (maskW w.s : Nat)]
def wnsC : List Wn → List Value
  | [] => []
  | w :: l => wnC w ++ wnsC l
theorem wnsC_app : ∀ (l l' : List Wn), wnsC (l ++ l') = wnsC l ++ wnsC l'
  | [], _ => rfl
  | w :: l, l' => by
    show wnC w ++ wnsC (l ++ l') = (wnC w ++ wnsC l) ++ wnsC l'
    rw [wnsC_app l l', List.append_assoc]
theorem wnsC_len : ∀ l : List Wn, (wnsC l).length = l.length * 5
  | [] => rfl
  | w :: l => by
    show (wnC w ++ wnsC l).length = _
    rw [List.length_append, wnsC_len l, List.length_cons]
    show 5 + _ = _
    omega
theorem wnsC_get : ∀ {l : List Wn} {i : Nat} {w : Wn}, l[i]? = some w → ∀ j v, (wnC w)[j]? = some v → (wnsC l)[i * 5 + j]? = some v
  | [], i, w, h => by simp at h
  | a :: l, 0, w, h => fun j v hv => by
    simp at h
    subst h
    rw [Nat.zero_mul, Nat.zero_add]
    exact Go.Ar.get_app hv
  | a :: l, i + 1, w, h => fun j v hv => by
    have := wnsC_get (l := l) (i := i) (w := w) (by simpa using h) j v hv
    show (wnC a ++ wnsC l)[(i + 1) * 5 + j]? = some v
    rw [show (i + 1) * 5 + j = (wnC a).length + (i * 5 + j) by show _ = 5 + _; omega, List.getElem?_append_right (by omega), Nat.add_sub_cancel_left]
    exact this
theorem wnsC_set : ∀ {l : List Wn} {i : Nat} {w : Wn} (b : Nat), l[i]? = some w → (wnsC l).set (i * 5 + 3) (.int .i64 (b : Nat)) = wnsC (l.set i ⟨w.s, b⟩)
  | [], i, w, b, h => by simp at h
  | a :: l, 0, w, b, h => by
    simp at h
    subst h
    rfl
  | a :: l, i + 1, w, b, h => by
    have := wnsC_set (l := l) (i := i) (w := w) b (by simpa using h)
    show (wnC a ++ wnsC l).set ((i + 1) * 5 + 3) _ = wnC a ++ wnsC (l.set i ⟨w.s, b⟩)
    rw [← this, show (i + 1) * 5 + 3 = (wnC a).length + (i * 5 + 3) by show _ = 5 + _; omega, List.set_append_right _ _ (by omega), Nat.add_sub_cancel_left]

/-! ### bits -/
theorem bitsN_val : ∀ (l : List Bool) (n : Nat), bitsN n l = n * 2 ^ l.length + bitsN 0 l
  | [], n => by simp [bitsN]
  | b :: l, n => by
    have h1 := bitsN_val l (2 * n + b.toNat)
    have h2 := bitsN_val l (2 * 0 + b.toNat)
    show bitsN (2 * n + b.toNat) l = n * 2 ^ (l.length + 1) + bitsN (2 * 0 + b.toNat) l
    have e : (2 * n + b.toNat) * 2 ^ l.length = n * 2 ^ (l.length + 1) + b.toNat * 2 ^ l.length := by
      rw [Nat.add_mul, Nat.pow_succ, Nat.mul_comm (2 ^ l.length) 2, ← Nat.mul_assoc, Nat.mul_comm 2 n]
    rw [h1, h2, Nat.mul_zero, Nat.zero_add, e, Nat.add_assoc]
theorem bits0_lt (l : List Bool) : bitsN 0 l < 2 ^ l.length := by
  have := bitsN_lt l 0 0 (by decide)
  rwa [Nat.zero_add] at this
theorem bits_head (b : Bool) (l : List Bool) : bitsN 0 (b :: l) % 2 ^ l.length = bitsN 0 l := by
  show bitsN (2 * 0 + b.toNat) l % _ = _
  rw [bitsN_val, Nat.mul_comm, Nat.mul_add_mod]
  exact Nat.mod_eq_of_lt (bits0_lt l)
theorem spl_len (s : Sp) (k : Nat) : (spl s k).length = k := by simp [spl]
theorem pb_len (G : Int → Int → Bool) (x y : Int) (l : List (Int × Int)) : (pb G x y l).length = l.length := by simp [pb]
theorem pb_snoc (G : Int → Int → Bool) (x y : Int) (s : Sp) (k : Nat) : pb G x y (spl s (k + 1)) = pb G x y (spl s k) ++ [G (x + (s.2.1 + (k : Int))) (y + s.1)] := by
  unfold pb spl
  rw [List.range_succ, List.map_append, List.map_append]
  rfl
theorem bits_snoc (G : Int → Int → Bool) (x y : Int) (s : Sp) (k : Nat) : bitsN 0 (pb G x y (spl s (k + 1))) = 2 * bitsN 0 (pb G x y (spl s k)) + (G (x + (s.2.1 + (k : Int))) (y + s.1)).toNat := by
  rw [pb_snoc, bitsN_app]
  rfl
theorem pb_head (G : Int → Int → Bool) (x y : Int) (s : Sp) (k : Nat) : pb G x y (spl s (k + 1)) = G (x + s.2.1) (y + s.1) :: pb G (x + 1) y (spl s k) := by
  unfold pb spl
  rw [List.range_succ_eq_map, List.map_cons, List.map_cons, List.map_map, List.map_map, List.map_map]
  congr 1
  · simp
  · refine List.map_congr_left fun j _ => ?_
    simp only [Function.comp]
    congr 1
    push_cast
    omega
theorem spanW_pos {s : Sp} (h : SpOk s) : 1 ≤ spanW s ∧ spanW s ≤ 8 ∧ ((spanW s : Nat) : Int) = s.2.2 - s.2.1 + 1 := by
  have h1 := h.f
  have h2 := h.t
  unfold spanW
  omega
theorem mask_add (s : Sp) : maskW s + 1 = 2 ^ spanW s := by
  unfold maskW
  have := Nat.two_pow_pos (spanW s)
  omega
/-- One step along: a new bit comes in, the highest one falls out. -/
theorem win_step {G : Int → Int → Bool} {x y : Int} {s : Sp} {b : Nat} (h : SpOk s) (hb : b % 2 ^ (spanW s - 1) = bitsN 0 (pb G x y (spl s (spanW s - 1)))) :
    (2 * b + (G (x + s.2.2) (y + s.1)).toNat) % 2 ^ spanW s = bitsN 0 (pb G x y (spl s (spanW s))) := by
  obtain ⟨h1, h2, h3⟩ := spanW_pos h
  obtain ⟨k, hk⟩ : ∃ k, spanW s = k + 1 := ⟨spanW s - 1, by omega⟩
  rw [hk, Nat.add_sub_cancel] at hb
  have hg := toNat_le (G (x + s.2.2) (y + s.1))
  have e : (s.2.1 + (k : Int)) = s.2.2 := by omega
  rw [hk, bits_snoc, e, ← hb, Nat.pow_succ, Nat.mul_comm _ 2]
  have hp := Nat.two_pow_pos k
  have hd := Nat.div_add_mod b (2 ^ k)
  have hm := Nat.mod_lt b hp
  generalize hq : b / 2 ^ k = q at hd
  generalize hr : b % 2 ^ k = r at hd hm ⊢
  rw [← hd]
  have e2 : 2 * (2 ^ k * q + r) + (G (x + s.2.2) (y + s.1)).toNat = 2 * 2 ^ k * q + (2 * r + (G (x + s.2.2) (y + s.1)).toNat) := by
    rw [Nat.mul_add, Nat.mul_assoc, Nat.add_assoc]
  rw [e2, Nat.mul_add_mod]
  exact Nat.mod_eq_of_lt (by omega)
/-- Behind a pixel: what is known at the next one. -/
theorem win_next {G : Int → Int → Bool} {x y : Int} {s : Sp} (h : SpOk s) (bit : Bool) : bitsN 0 (pb G x y (spl s (spanW s))) % 2 ^ (spanW s - 1) = bitsN 0 (pb (upd G x y bit) (x + 1) y (spl s (spanW s - 1))) := by
  obtain ⟨h1, h2, h3⟩ := spanW_pos h
  obtain ⟨k, hk⟩ : ∃ k, spanW s = k + 1 := ⟨spanW s - 1, by omega⟩
  rw [hk, Nat.add_sub_cancel, pb_head]
  have hl : (pb G (x + 1) y (spl s k)).length = k := by rw [pb_len, spl_len]
  have hb := bits_head (G (x + s.2.1) (y + s.1)) (pb G (x + 1) y (spl s k))
  rw [hl] at hb
  rw [hb]
  congr 1
  unfold pb spl
  rw [List.map_map, List.map_map]
  refine List.map_congr_left fun j hj => ?_
  have hj := List.mem_range.1 hj
  simp only [Function.comp]
  unfold upd
  rw [if_neg]
  rintro ⟨e1, e2⟩
  have h4 := h.z (by omega)
  omega
def WinOk (G : Int → Int → Bool) (x y : Int) (S : List Sp) (i : Nat) (wl : List Wn) : Prop := wl.length = S.length ∧ ∀ j s, S[j]? = some s → ∃ b, wl[j]? = some ⟨s, b⟩ ∧ b < 2 ^ spanW s ∧
  (j < i → b = bitsN 0 (pb G x y (spl s (spanW s)))) ∧ (i ≤ j → b % 2 ^ (spanW s - 1) = bitsN 0 (pb G x y (spl s (spanW s - 1))))
theorem WinOk.step {G : Int → Int → Bool} {x y : Int} {S : List Sp} {i : Nat} {wl : List Wn} {s : Sp} (h : WinOk G x y S i wl) (hs : S[i]? = some s) : WinOk G x y S (i + 1) (wl.set i ⟨s, bitsN 0 (pb G x y (spl s (spanW s)))⟩) := by
  refine ⟨by rw [List.length_set]; exact h.1, fun j s' hj => ?_⟩
  by_cases hji : i = j
  · subst hji
    obtain rfl : s = s' := Option.some.inj (hs.symm.trans hj)
    have hi : i < wl.length := by rw [h.1]; exact (List.getElem?_eq_some_iff.1 hs).1
    refine ⟨_, List.getElem?_set_self hi, ?_, fun _ => rfl, fun h => by omega⟩
    have := bits0_lt (pb G x y (spl s (spanW s)))
    rwa [pb_len, spl_len] at this
  · obtain ⟨b, h1, h2, h3, h4⟩ := h.2 j s' hj
    exact ⟨b, by rw [List.getElem?_set_ne hji]; exact h1, h2, fun h5 => h3 (by omega), fun h5 => h4 (by omega)⟩
theorem WinOk.next {G : Int → Int → Bool} {x y : Int} {S : List Sp} {wl : List Wn} (h : WinOk G x y S S.length wl) (hS : ∀ s ∈ S, SpOk s) (bit : Bool) : WinOk (upd G x y bit) (x + 1) y S 0 wl := by
  refine ⟨h.1, fun j s hj => ?_⟩
  obtain ⟨b, h1, h2, h3, h4⟩ := h.2 j s hj
  have hjl := (List.getElem?_eq_some_iff.1 hj).1
  refine ⟨b, h1, h2, fun h5 => absurd h5 (Nat.not_lt_zero _), fun _ => ?_⟩
  rw [h3 hjl]
  exact win_next (hS s (List.mem_of_getElem? hj)) bit
theorem ctx_step (G : Int → Int → Bool) (x y : Int) {S : List Sp} {i : Nat} {s : Sp} (hs : S[i]? = some s) : bitsN 0 (pb G x y (plcs (S.take (i + 1)))) = bitsN 0 (pb G x y (plcs (S.take i))) * 2 ^ spanW s + bitsN 0 (pb G x y (spl s (spanW s))) := by
  have hi := (List.getElem?_eq_some_iff.1 hs).1
  have e := (List.getElem?_eq_some_iff.1 hs).2
  rw [List.take_succ_eq_append_getElem hi, e]
  have e2 : pb G x y (plcs (S.take i ++ [s])) = pb G x y (plcs (S.take i)) ++ pb G x y (spl s (spanW s)) := by
    unfold plcs pb
    rw [List.flatMap_append, List.map_append]
    simp
  rw [e2, bitsN_app, bitsN_val, pb_len, spl_len]

/-! ### the walk -/
section
variable {σ : Type}
/-- So many pixels of a row. -/
def rowG (t : Nat) (step : σ → Nat → Bool → (Bool × σ) ⊕ (Int × σ)) (y : Nat) : Nat → (Int → Int → Bool) × σ → ((Int → Int → Bool) × σ) ⊕ (Int × σ)
  | 0, g => .inl g
  | k + 1, g => match rowG t step y k g with
    | .inr e => .inr e
    | .inl (G, s) => match step s (gctx t G (k : Int) (y : Int)) (G (k : Int) (y : Int)) with
      | .inl (bit, s') => .inl (upd G (k : Int) (y : Int) bit, s')
      | .inr e => .inr e
theorem rowG_err {t : Nat} {step : σ → Nat → Bool → (Bool × σ) ⊕ (Int × σ)} {y : Nat} {g : (Int → Int → Bool) × σ} {e : Int × σ} {k : Nat} (h : rowG t step y k g = .inr e) : ∀ m, k ≤ m → rowG t step y m g = .inr e := by
  intro m hm
  induction m with
  | zero => rw [show k = 0 by omega] at h; exact h
  | succ m ih =>
    rcases Nat.lt_or_ge m k with h1 | h1
    · rw [show k = m + 1 by omega] at h; exact h
    · unfold rowG; rw [ih h1]
def sameB (G : Int → Int → Bool) (W y : Nat) : Bool := (List.range W).all fun x => G (x : Int) (y : Int) == G (x : Int) ((y : Int) - 1)
def copyRow (G : Int → Int → Bool) (y : Nat) : Int → Int → Bool := fun a b => if b = (y : Int) ∧ y ≠ 0 then G a ((y : Int) - 1) else G a b
/-- So many rows. -/
def runG (W t : Nat) (skip : Bool) (step : σ → Nat → Bool → (Bool × σ) ⊕ (Int × σ)) : Nat → (Int → Int → Bool) × σ → ((Int → Int → Bool) × σ) ⊕ (Int × σ)
  | 0, g => .inl g
  | y + 1, g => match runG W t skip step y g with
    | .inr e => .inr e
    | .inl (G, s) => match skip with
      | false => rowG t step y W (G, s)
      | true => match step s (gsize t) (sameB G W y) with
        | .inr e => .inr e
        | .inl (true, s') => .inl (copyRow G y, s')
        | .inl (false, s') => rowG t step y W (G, s')
theorem runG_err {W t : Nat} {skip : Bool} {step : σ → Nat → Bool → (Bool × σ) ⊕ (Int × σ)} {g : (Int → Int → Bool) × σ} {e : Int × σ} {k : Nat} (h : runG W t skip step k g = .inr e) : ∀ m, k ≤ m → runG W t skip step m g = .inr e := by
  intro m hm
  induction m with
  | zero => rw [show k = 0 by omega] at h; exact h
  | succ m ih =>
    rcases Nat.lt_or_ge m k with h1 | h1
    · rw [show k = m + 1 by omega] at h; exact h
    · unfold runG; rw [ih h1]
/-- What is asked of him who decides. -/
def DecOkI (N : Nat) (base : Int) (S : σ → List Ent → Prop) (Ok : Nat → σ → Prop) (step : σ → Nat → Bool → (Bool × σ) ⊕ (Int × σ)) (fv : Value) : Prop :=
  (∃ t v, fv = .iface t v) ∧ ∀ {h0 h : Heap} {FF : List Nat} {s : σ} {n : Nat} {bit : Bool} {K : Value → Heap → Prop} {Kp : List PanicEntry → Heap → Prop}, ∀ {M : List Ent} {k : Nat}, Ok k s → k < N → n ≤ 65536 → S s M → Hp h0 FF h M →
    (∀ bit' s' M' h', step s n bit = .inl (bit', s') → Ok (k + 1) s' → S s' M' → Hp h0 FF h' M' → K (.int .i64 (bit'.toNat : Nat)) h') →
    (∀ e s' M' h', step s n bit = .inr (e, s') → Ok (k + 1) s' → S s' M' → Hp h0 FF h' M' → Kp [{ v := .iface T_generic_fault (.agg #[.int .i64 e]), recovered := false }] h') →
    invokeD Go.Proofs.Tryz.prog (CallsHP Go.Proofs.Tryz.prog) fv "burin/generic.decide" [.int .i64 (base + (n : Int)), .int .i64 (bit.toNat : Nat)] h K Kp
end
end Go.Bm

/- GnC: generic's procedure.row and procedure.same, whatever decides. -/
set_option linter.unusedVariables false
set_option linter.unusedSimpArgs false
namespace Go.Bm
open Go Go.Den Go.Den.YtfaclehehhgpcaaGreat

def procE (r p : Nat) (fv : Value) (base : Int) (t : Nat) (skip : Bool) : Ent := ⟨r, true, T_generic_procedure, [fv, .pointer (at0 p), .int .i64 base, .int .i64 (t : Nat), .bool skip]⟩
theorem and_mask (a w : Nat) (ha : a < 9223372036854775808) (hw : w ≤ 62) : bitI .and .i64 (a : Int) ((2 ^ w - 1 : Nat) : Int) = ((a % 2 ^ w : Nat) : Int) := by
  have h1 : 2 ^ w ≤ 2 ^ 62 := Nat.pow_le_pow_right (by decide) hw
  have h2 : (2 ^ 62 : Nat) = 4611686018427387904 := rfl
  rw [and63 _ _ ha (by omega), Nat.and_two_pow_sub_one_eq_mod]
theorem keep_of {h0 h h3 : Heap} {FF : List Nat} {A M : List Ent} {M' : List Ent} (H : Hp h0 FF h (A ++ M)) (H' : Hp h (M.map Ent.b) h3 M') {e : Ent} (he : e ∈ A) : hkeep (fun b => b = e.b) h h3 :=
  ⟨H'.fr.1, fun b hb hR => H'.fr.2 b hb fun hm => by
    obtain ⟨e', he', hbb⟩ := List.mem_map.1 hm
    exact (List.pairwise_append.1 H.pw).2.2 e he e' he' (by rw [← hR, hbb])⟩

set_option maxRecDepth 100000 in
set_option maxHeartbeats 8000000 in
theorem grow_ok {σ : Type} {S : σ → List Ent → Prop} {Ok : Nat → σ → Prop} {step : σ → Nat → Bool → (Bool × σ) ⊕ (Int × σ)} {fv : Value} {base : Int} {NN : Nat} (hSw : ∀ s M, S s M → M.all Ent.w = true) (hdec : DecOkI NN base S Ok step fv) (hb : 0 ≤ base ∧ base ≤ 131072)
    {h0 h : Heap} {FF : List Nat} {rp p q W X N cc t y k0 : Nat} {skip : Bool} {rest : List Value} {ws0 : List Nat} {s0 : σ} {M0 : List Ent} (ht : t < 4) (hS0 : S s0 M0) (H : Hp h0 FF h ([procE rp p fv base t skip, mapE p q W X N cc, ⟨q, true, T_uint64, u64s ws0 ++ rest⟩] ++ M0))
    (hN : ws0.length = N) (hs : SizeP (W : Int) (X : Int)) (hl : N = X * wds W) (hw : W64 ws0) (hz : PadZ W X ws0) (hy : y < X) (hok0 : Ok k0 s0) (hk0 : k0 + W ≤ NN) {K : Value → Heap → Prop} {Kp : List PanicEntry → Heap → Prop}
    (hgood : ∀ ws s M h', S s M → rowG t step y W (getP ws0 W X, s0) = .inl (getP ws W X, s) → ws.length = N → W64 ws → PadZ W X ws → Ok (k0 + W) s → Hp h0 FF h' ([procE rp p fv base t skip, mapE p q W X N cc, ⟨q, true, T_uint64, u64s ws ++ rest⟩] ++ M) → K (.tuple #[]) h')
    (hbad : ∀ e ws s M h' k, S s M → rowG t step y W (getP ws0 W X, s0) = .inr (e, s) → ws.length = N → k ≤ NN → Ok k s → Hp h0 FF h' ([procE rp p fv base t skip, mapE p q W X N cc, ⟨q, true, T_uint64, u64s ws ++ rest⟩] ++ M) →
      Kp [{ v := .iface T_generic_fault (.agg #[.int .i64 e]), recovered := false }] h') :
    CP F_generic_procedure_row #[.pointer (at0 rp), .int .i64 (W : Nat), .int .i64 (y : Nat)] h K Kp := by
  refine call_generic_procedure_row ?_
  unfold generic_procedure_row
  obtain ⟨W', X', e1, e2, hW1, hW2, hX1, hX2, hWX⟩ := size_nat hs
  obtain rfl : W = W' := by omega
  obtain rfl : X = X' := by omega
  clear e1 e2
  have hSL := spanL_len ht
  have hSok := spanL_ok ht
  refine ptr_of (a := ⟨rp, 0, none⟩) ?_
  refine ldI_of (hpA H 0 rfl rfl) ?_
  refine gspans_ok ht fun rs h' H' => ?_
  replace H := (H.join H' rfl).rot
  clear H'
  refine ⟨_, _, _, rfl, ?_⟩
  obtain ⟨SL, hSLd⟩ : ∃ SL, SL = spanL t := ⟨_, rfl⟩
  rw [← hSLd] at H hSL hSok ⊢
  obtain ⟨G0, hG0⟩ : ∃ G0, G0 = getP ws0 W X := ⟨_, rfl⟩
  obtain ⟨L0, hL0⟩ : ∃ L0 : List Ent, L0 = [⟨rs, true, T_generic_span, spC SL⟩, procE rp p fv base t skip, mapE p q W X N cc, ⟨q, true, T_uint64, u64s ws0 ++ rest⟩] ++ M0 := ⟨_, rfl⟩
  have H : Hp h0 FF h' L0 := by rw [hL0]; exact H
  refine ⟨fun n vs h' => ∃ (i : Nat) (D : List Ent) (qw : Option Addr) (cw : Nat), i + n = SL.length ∧ vs = [.slice qw i cw, .int .i64 (i : Nat)] ∧
      Slot T_generic_window 5 D qw i cw (wnsC ((SL.take i).map fun s => ⟨s, bitsN 0 (pb G0 0 y (spl s (spanW s - 1)))⟩)) ∧ Hp h0 FF h' (L0 ++ D),
    ⟨SL.length, 0, [], none, 0, by omega, rfl, Slot.nil _ _, H.as (List.append_nil _).symm⟩, ?_⟩
  clear H
  rintro n h u a b c d ⟨i, D, qw, cw, hin, hxx, hsl, H⟩
  injection hxx with h1 hxx
  injection hxx with h2 hxx
  injection h1 with h11 h12 h13
  injection h2 with _ h2
  subst a b c d
  refine bcase_dec (fun h3 => ?_) fun h3 => ?_
  · -- one window more
    have hi : i < SL.length := by omega
    obtain ⟨s, hsi⟩ : ∃ s, SL[i]? = some s := ⟨_, List.getElem?_eq_getElem hi⟩
    have hso := hSok s (List.mem_of_getElem? hsi)
    obtain ⟨k0', k1, k2⟩ := spC_get hsi
    have o1 := hso.d
    have o2 := hso.f
    have o3 := hso.t
    obtain ⟨w1, w2, w3⟩ := spanW_pos hso
    refine needs_of (by omega) (ptr_of (a := ⟨rs, 0, none⟩) ?_)
    rw [Int.toNat_natCast]
    have H0 : Hp h0 FF h ([⟨rs, true, T_generic_span, spC SL⟩, procE rp p fv base t skip, mapE p q W X N cc, ⟨q, true, T_uint64, u64s ws0 ++ rest⟩] ++ (M0 ++ D)) := by
      rw [hL0] at H
      exact H.asc
    refine ldI_of (hpB H0 0 rfl (by rw [Nat.zero_add, Nat.add_zero]; exact k0')) (ldI_of (hpB H0 0 rfl (by rw [Nat.zero_add]; exact k1)) (ldI_of (hpB H0 0 rfl (by rw [Nat.zero_add]; exact k2)) ?_))
    clear H0
    refine newC_hp H fun r17 h H => ?_
    have H := H.rot
    repeat first | with_reducible refine stA H 0 (by with_unfolding_all exact rfl) (by with_unfolding_all exact rfl) (by with_unfolding_all exact rfl) fun h H => ?_ | with_reducible refine st0 H 0 (by with_unfolding_all exact rfl) (by with_unfolding_all exact rfl) (by with_unfolding_all exact rfl) fun h H => ?_ | with_reducible refine stB H 0 (by with_unfolding_all exact rfl) (by with_unfolding_all exact rfl) (by with_unfolding_all exact rfl) fun h H => ?_
    repeat first | with_reducible refine ldI_of (by with_unfolding_all first | exact hpA H 0 rfl rfl | exact Hp.cell H 0 rfl rfl | exact hpB H 0 rfl rfl | exact hpC H 0 rfl rfl) ?_ | with_reducible refine ldS_of (by with_unfolding_all first | exact hpA H 0 rfl rfl | exact Hp.cell H 0 rfl rfl | exact hpB H 0 rfl rfl | exact hpC H 0 rfl rfl) ?_ | with_reducible refine ldP_of (by with_unfolding_all first | exact hpA H 0 rfl rfl | exact Hp.cell H 0 rfl rfl | exact hpB H 0 rfl rfl | exact hpC H 0 rfl rfl) ?_ | with_reducible refine ldB_of (by with_unfolding_all first | exact hpA H 0 rfl rfl | exact Hp.cell H 0 rfl rfl | exact hpB H 0 rfl rfl | exact hpC H 0 rfl rfl) ?_ | with_reducible refine ldT_of (by with_unfolding_all first | exact hpA H 0 rfl rfl | exact Hp.cell H 0 rfl rfl | exact hpB H 0 rfl rfl | exact hpC H 0 rfl rfl) ?_
    refine bindI_of ((s.2.2 - s.2.1)) (by exact i64_in _ (by omega) (by omega)) ?_
    refine bindI_of (((spanW s : Nat) : Int)) (by exact i64_at _ _ (by omega) (by omega) (by omega)) ?_
    refine needs_of (by omega) ?_
    have hp8 : 2 ^ spanW s ≤ 256 := Nat.le_trans (Nat.pow_le_pow_right (n := 2) (by decide) w2) (by decide)
    have hp1 := Nat.two_pow_pos (spanW s)
    refine bindI_of (((2 ^ spanW s : Nat) : Int)) (by exact (shlI_of (a := 1) (i := spanW s) (by omega) (by omega)).trans (by rw [Nat.one_mul])) ?_
    refine bindI_of (((maskW s : Nat) : Int)) (by exact i64_at _ _ (by unfold maskW; omega) (by omega) (by unfold maskW; omega)) ?_
    have H : Hp h0 FF h ([⟨r17, true, T_generic_span, [.int .i64 s.1, .int .i64 s.2.1, .int .i64 s.2.2]⟩] ++ (L0 ++ D)) := H
    refine newC_hp H fun r31 h H => ?_
    have H := H.rot
    repeat first | with_reducible refine stA H 0 (by with_unfolding_all exact rfl) (by with_unfolding_all exact rfl) (by with_unfolding_all exact rfl) fun h H => ?_ | with_reducible refine st0 H 0 (by with_unfolding_all exact rfl) (by with_unfolding_all exact rfl) (by with_unfolding_all exact rfl) fun h H => ?_ | with_reducible refine stB H 0 (by with_unfolding_all exact rfl) (by with_unfolding_all exact rfl) (by with_unfolding_all exact rfl) fun h H => ?_
    repeat first | with_reducible refine ldI_of (by with_unfolding_all first | exact hpA H 1 rfl rfl | exact Hp.cell H 1 rfl rfl | exact hpB H 1 rfl rfl | exact hpC H 1 rfl rfl) ?_ | with_reducible refine ldS_of (by with_unfolding_all first | exact hpA H 1 rfl rfl | exact Hp.cell H 1 rfl rfl | exact hpB H 1 rfl rfl | exact hpC H 1 rfl rfl) ?_ | with_reducible refine ldP_of (by with_unfolding_all first | exact hpA H 1 rfl rfl | exact Hp.cell H 1 rfl rfl | exact hpB H 1 rfl rfl | exact hpC H 1 rfl rfl) ?_ | with_reducible refine ldB_of (by with_unfolding_all first | exact hpA H 1 rfl rfl | exact Hp.cell H 1 rfl rfl | exact hpB H 1 rfl rfl | exact hpC H 1 rfl rfl) ?_ | with_reducible refine ldT_of (by with_unfolding_all first | exact hpA H 1 rfl rfl | exact Hp.cell H 1 rfl rfl | exact hpB H 1 rfl rfl | exact hpC H 1 rfl rfl) ?_
    have hw0 : ∀ j, bitsN 0 (pb G0 0 y (spl s j)) < 2 ^ j := fun j => by
      have := bits0_lt (pb G0 0 y (spl s j))
      rwa [pb_len, spl_len] at this
    have H : Hp h0 FF h ([⟨r31, true, T_generic_window, [.int .i64 s.1, .int .i64 s.2.1, .int .i64 s.2.2, .int .i64 ((bitsN 0 (pb G0 0 y (spl s 0)) : Nat) : Int), .int .i64 (maskW s : Nat)]⟩, ⟨r17, true, T_generic_span, [.int .i64 s.1, .int .i64 s.2.1, .int .i64 s.2.2]⟩] ++ (L0 ++ D)) := H
    refine ⟨fun n vs h' => ∃ j : Nat, j + n = spanW s - 1 ∧ vs = [.int .i64 (s.2.1 + (j : Int))] ∧
        Hp h0 FF h' ([⟨r31, true, T_generic_window, [.int .i64 s.1, .int .i64 s.2.1, .int .i64 s.2.2, .int .i64 ((bitsN 0 (pb G0 0 y (spl s j)) : Nat) : Int), .int .i64 (maskW s : Nat)]⟩, ⟨r17, true, T_generic_span, [.int .i64 s.1, .int .i64 s.2.1, .int .i64 s.2.2]⟩] ++ (L0 ++ D)),
      ⟨spanW s - 1, 0, by omega, by simp, H⟩, ?_⟩
    clear H
    rintro n2 h u2 x44 ⟨j, hjn, hxx, H⟩
    injection hxx with hxx
    injection hxx with _ hxx
    subst hxx
    repeat first | with_reducible refine ldI_of (by with_unfolding_all first | exact hpA H 1 rfl rfl | exact Hp.cell H 1 rfl rfl | exact hpB H 1 rfl rfl | exact hpC H 1 rfl rfl) ?_ | with_reducible refine ldS_of (by with_unfolding_all first | exact hpA H 1 rfl rfl | exact Hp.cell H 1 rfl rfl | exact hpB H 1 rfl rfl | exact hpC H 1 rfl rfl) ?_ | with_reducible refine ldP_of (by with_unfolding_all first | exact hpA H 1 rfl rfl | exact Hp.cell H 1 rfl rfl | exact hpB H 1 rfl rfl | exact hpC H 1 rfl rfl) ?_ | with_reducible refine ldB_of (by with_unfolding_all first | exact hpA H 1 rfl rfl | exact Hp.cell H 1 rfl rfl | exact hpB H 1 rfl rfl | exact hpC H 1 rfl rfl) ?_ | with_reducible refine ldT_of (by with_unfolding_all first | exact hpA H 1 rfl rfl | exact Hp.cell H 1 rfl rfl | exact hpB H 1 rfl rfl | exact hpC H 1 rfl rfl) ?_
    refine bcase_dec (fun h4 => ?_) fun h4 => ?_
    · refine ⟨fun _ => True, ?_⟩
      refine ptr_of (a := ⟨rp, 0, none⟩) ?_
      refine ldI_of (hpA H 0 rfl rfl) ⟨trivial, ?_⟩
      have hbj := hw0 j
      have hj8 : 2 ^ j ≤ 2 ^ 8 := Nat.pow_le_pow_right (by decide) (by omega)
      have hsn := bits_snoc G0 0 y s j
      rw [Int.zero_add] at hsn
      have hg := toNat_le (G0 (s.2.1 + (j : Int)) ((y : Int) + s.1))
      generalize bitsN 0 (pb G0 0 y (spl s j)) = B at hbj hsn H ⊢
      refine bindI_of ((2 * B : Nat) : Int) ((shl1 (by omega)).trans (by rw [Nat.mul_comm])) ?_
      have HM : Hp h0 FF h ([⟨r31, true, T_generic_window, [.int .i64 s.1, .int .i64 s.2.1, .int .i64 s.2.2, .int .i64 (B : Nat), .int .i64 (maskW s : Nat)]⟩, ⟨r17, true, T_generic_span, [.int .i64 s.1, .int .i64 s.2.1, .int .i64 s.2.2]⟩, ⟨rs, true, T_generic_span, spC SL⟩, procE rp p fv base t skip, mapE p q W X N cc, ⟨q, true, T_uint64, u64s ws0 ++ rest⟩] ++ (M0 ++ D)) := by
        rw [hL0] at H
        exact H.as (by simp)
      refine ldP_of (hpA HM 3 rfl rfl) ⟨trivial, ?_⟩
      refine ldI_of (hpA H 1 rfl rfl) ⟨trivial, ?_⟩
      refine bindI_of (((y : Int) + s.1)) (by exact i64_in _ (by omega) (by omega)) ?_
      refine mget_ok (ws := ws0) (c := cc) (rest := rest) HM 4 5 (by rw [hN]; rfl) rfl hs (by rw [hN]; exact hl) hw ?_
      refine ⟨_, rfl, hkeep.refl _ _, ?_⟩
      rw [← hG0]
      refine bindI_of _ (orA (i := 1) (by decide) (by omega) (by omega) (by omega)) ?_
      refine stA H 0 rfl rfl rfl fun h H => ?_
      refine bindI_of ((s.2.1 + ((j + 1 : Nat) : Int))) (by exact i64_at _ _ (by omega) (by omega) (by omega)) ?_
      refine ⟨n2 - 1, by omega, j + 1, by omega, rfl, ?_⟩
      rw [hsn]
      exact H
    · obtain rfl : j = spanW s - 1 := by omega
      repeat first | with_reducible refine ldI_of (by with_unfolding_all first | exact hpA H 0 rfl rfl | exact Hp.cell H 0 rfl rfl | exact hpB H 0 rfl rfl | exact hpC H 0 rfl rfl) ?_ | with_reducible refine ldS_of (by with_unfolding_all first | exact hpA H 0 rfl rfl | exact Hp.cell H 0 rfl rfl | exact hpB H 0 rfl rfl | exact hpC H 0 rfl rfl) ?_ | with_reducible refine ldP_of (by with_unfolding_all first | exact hpA H 0 rfl rfl | exact Hp.cell H 0 rfl rfl | exact hpB H 0 rfl rfl | exact hpC H 0 rfl rfl) ?_ | with_reducible refine ldB_of (by with_unfolding_all first | exact hpA H 0 rfl rfl | exact Hp.cell H 0 rfl rfl | exact hpB H 0 rfl rfl | exact hpC H 0 rfl rfl) ?_ | with_reducible refine ldT_of (by with_unfolding_all first | exact hpA H 0 rfl rfl | exact Hp.cell H 0 rfl rfl | exact hpB H 0 rfl rfl | exact hpC H 0 rfl rfl) ?_
      refine newC_hp H fun r64 h H => ?_
      have hnewc : ∀ v ∈ wnC ⟨s, bitsN 0 (pb G0 0 y (spl s (spanW s - 1)))⟩, v.oneCell' = true := List.all_eq_true.1 (by rfl)
      have hrd := rdO_hp (H.rot) 0 (b := r64) (o := 0) (n := 1 * 5) (w := true) (t := T_generic_window) (cs := wnC ⟨s, bitsN 0 (pb G0 0 y (spl s (spanW s - 1)))⟩) rfl (Nat.le_refl _)
      have hrd : rdO h (some ⟨r64, 0, none⟩) (1 * 5) (wnC ⟨s, bitsN 0 (pb G0 0 y (spl s (spanW s - 1)))⟩) := hrd
      have H : Hp h0 FF h (L0 ++ (D ++ [])) := (H.rot).sub (by
        rw [List.append_nil]
        exact List.Sublist.trans (List.sublist_append_right _ _) (List.sublist_append_right _ _))
      refine hsl.app H rfl hrd rfl hnewc (Nat.le_refl _) (by omega) fun D' qw' cw' h' hsl' H => ?_
      refine bindI_of (((i + 1 : Nat) : Int)) (by exact i64_at _ _ (by omega) (by omega) (by omega)) ?_
      refine ⟨n - 1, by omega, i + 1, D', qw', cw', by omega, rfl, ?_, H.as (by rw [List.append_nil])⟩
      have e := (List.getElem?_eq_some_iff.1 hsi).2
      rw [List.take_succ_eq_append_getElem hi, e, List.map_append, wnsC_app]
      exact hsl'
  · -- the pixels
    have hi : SL.length ≤ i := by omega
    obtain rfl : i = SL.length := by omega
    rw [List.take_of_length_le (Nat.le_refl _)] at hsl
    obtain ⟨wl0, hwl0⟩ : ∃ wl0 : List Wn, wl0 = SL.map fun s => ⟨s, bitsN 0 (pb G0 0 y (spl s (spanW s - 1)))⟩ := ⟨_, rfl⟩
    rw [← hwl0] at hsl
    have hwin0 : WinOk G0 (0 : Nat) y SL 0 wl0 := by
      refine ⟨by rw [hwl0, List.length_map], fun j s hj => ⟨bitsN 0 (pb G0 0 y (spl s (spanW s - 1))), by rw [hwl0, List.getElem?_map, hj]; rfl, ?_, fun h5 => absurd h5 (Nat.not_lt_zero _), fun _ => ?_⟩⟩
      · have := bits0_lt (pb G0 0 y (spl s (spanW s - 1)))
        rw [pb_len, spl_len] at this
        exact Nat.lt_of_lt_of_le this (Nat.pow_le_pow_right (by decide) (by omega))
      · have := bits0_lt (pb G0 0 y (spl s (spanW s - 1)))
        rw [pb_len, spl_len] at this
        exact Nat.mod_eq_of_lt this
    obtain ⟨hll, ⟨rfl, rfl, hn0, _⟩ | ⟨bw, restw, rfl, rfl, hcw⟩⟩ := hsl
    · omega
    have H : Hp h0 FF h ([⟨bw, true, T_generic_window, wnsC wl0 ++ restw⟩, procE rp p fv base t skip, mapE p q W X N cc, ⟨q, true, T_uint64, u64s ws0 ++ rest⟩] ++ M0) := by
      rw [hL0] at H
      exact (H.rot).sub (List.Sublist.cons_cons _ (List.Sublist.cons _ (List.Sublist.refl _)))
    have hrow0 : rowG t step y 0 (getP ws0 W X, s0) = .inl (getP ws0 W X, s0) := rfl
    rw [hG0] at hwin0
    refine ⟨fun n vs h' => ∃ (x : Nat) (ws : List Nat) (s : σ) (M : List Ent) (wl : List Wn), x + n = W ∧ vs = [.int .i64 (x : Nat)] ∧ rowG t step y x (getP ws0 W X, s0) = .inl (getP ws W X, s) ∧ ws.length = N ∧ W64 ws ∧ PadZ W X ws ∧ Ok (k0 + x) s ∧ S s M ∧ WinOk (getP ws W X) (x : Nat) y SL 0 wl ∧
        Hp h0 FF h' ([⟨bw, true, T_generic_window, wnsC wl ++ restw⟩, procE rp p fv base t skip, mapE p q W X N cc, ⟨q, true, T_uint64, u64s ws ++ rest⟩] ++ M),
      ⟨W, 0, ws0, s0, M0, wl0, by omega, rfl, hrow0, hN, hw, hz, hok0, hS0, hwin0, H⟩, ?_⟩
    clear H hwin0 hwl0 hll hL0
    rintro n h u xx ⟨x, ws, s, M, wl, hxn, hxx, hrow, hlw, hww, hzz, hoks, hM, hwin, H⟩
    injection hxx with hxx
    injection hxx with _ hxx
    subst hxx
    refine bcase_dec (fun h4 => ?_) fun h4 => ?_
    · have hx : x < W := by omega
      have hgl := gsize_le ht
      obtain ⟨GG, hGG⟩ : ∃ GG, GG = getP ws W X := ⟨_, rfl⟩
      rw [← hGG] at hwin
      have hplen : ∀ i, (plcs (SL.take i)).length ≤ 16 := fun i => by rw [hSLd]; exact plcs_small ht
      have hacc : ∀ i, bitsN 0 (pb GG (x : Nat) y (plcs (SL.take i))) < 65536 := fun i => by
        have := bits0_lt (pb GG (x : Nat) y (plcs (SL.take i)))
        rw [pb_len] at this
        exact Nat.lt_of_lt_of_le this (Nat.le_trans (Nat.pow_le_pow_right (n := 2) (by decide) (hplen i)) (by decide))
      refine ⟨fun n vs h' => ∃ (i : Nat) (wl : List Wn), i + n = SL.length ∧ vs = [.int .i64 ((bitsN 0 (pb GG (x : Nat) y (plcs (SL.take i))) : Nat) : Int), .int .i64 (i : Nat)] ∧ WinOk GG (x : Nat) y SL i wl ∧
          Hp h0 FF h' ([⟨bw, true, T_generic_window, wnsC wl ++ restw⟩, procE rp p fv base t skip, mapE p q W X N cc, ⟨q, true, T_uint64, u64s ws ++ rest⟩] ++ M), ⟨SL.length, 0, wl, by omega, rfl, hwin, H⟩, ?_⟩
      clear H hwin
      rintro n2 h u2 a b ⟨i, wl, hin2, hxx, hwin, H⟩
      injection hxx with h1 hxx
      injection hxx with h2 hxx
      injection h1 with _ h1
      injection h2 with _ h2
      subst h1 h2
      refine bcase_dec (fun h5 => ?_) fun h5 => ?_
      · have hi : i < SL.length := by omega
        obtain ⟨sp, hsi⟩ : ∃ s, SL[i]? = some s := ⟨_, List.getElem?_eq_getElem hi⟩
        have hso := hSok sp (List.mem_of_getElem? hsi)
        have o1 := hso.d
        have o2 := hso.f
        have o3 := hso.t
        obtain ⟨w1, w2, w3⟩ := spanW_pos hso
        obtain ⟨B, hB1, hB2, _, hB4⟩ := hwin.2 i sp hsi
        have hB4 := hB4 (Nat.le_refl _)
        have hp8 : 2 ^ spanW sp ≤ 256 := Nat.le_trans (Nat.pow_le_pow_right (n := 2) (by decide) w2) (by decide)
        have hget : ∀ j v, (wnC ⟨sp, B⟩)[j]? = some v → (wnsC wl ++ restw)[i * 5 + j]? = some v := fun j v hv => Go.Ar.get_app (wnsC_get hB1 j v hv)
        have hst := win_step hso hB4
        have hctx := ctx_step GG (x : Nat) y hsi
        have hac1 := hacc i
        have hac2 := hacc (i + 1)
        have hnb : bitsN 0 (pb GG (x : Nat) y (spl sp (spanW sp))) < 2 ^ spanW sp := by
          have := bits0_lt (pb GG (x : Nat) y (spl sp (spanW sp)))
          rwa [pb_len, spl_len] at this
        have hwn := hwin.step hsi
        have hwlen : i * 5 + 3 < (wnsC wl).length := by
          rw [wnsC_len, hwin.1]
          omega
        refine needs_of (by omega) (ptr_of (a := ⟨bw, 0, none⟩) ?_)
        rw [Int.toNat_natCast]
        refine ⟨fun _ => True, ?_⟩
        refine ptr_of (a := ⟨rp, 0, none⟩) ?_
        refine ldI_of (hpB H 0 rfl (by rw [Nat.zero_add]; exact hget 3 _ rfl)) ⟨trivial, ?_⟩
        show bindI (shlI .i64 (B : Int) 1) _
        refine bindI_of ((2 * B : Nat) : Int) ((shl1 (by omega)).trans (by rw [Nat.mul_comm])) ?_
        refine ldP_of (hpA H 1 rfl rfl) ⟨trivial, ?_⟩
        refine ldI_of (hpC H 0 rfl (by rw [Nat.zero_add, Nat.add_zero]; exact hget 2 _ rfl)) ⟨trivial, ?_⟩
        refine bindI_of (((x : Int) + sp.2.2)) (by exact i64_at _ _ rfl (by omega) (by omega)) ?_
        refine ldI_of (hpC H 0 rfl (by rw [Nat.zero_add]; exact hget 0 _ rfl)) ⟨trivial, ?_⟩
        refine bindI_of (((y : Int) + sp.1)) (by exact i64_at _ _ rfl (by omega) (by omega)) ?_
        refine ldI_of (hpB H 0 rfl (by rw [Nat.zero_add]; exact hget 4 _ rfl)) ⟨trivial, ?_⟩
        refine mget_ok (ws := ws) (c := cc) (rest := rest) H 2 3 (by rw [hlw]; rfl) rfl hs (by rw [hlw]; exact hl) hww ?_
        refine ⟨_, rfl, hkeep.refl _ _, ?_⟩
        rw [← hGG]
        have hg := toNat_le (GG ((x : Int) + sp.2.2) ((y : Int) + sp.1))
        refine bindI_of _ (orA (i := 1) (by decide) (by omega) (by omega) (by omega)) ?_
        have hbt : 2 * B + (GG ((x : Int) + sp.2.2) ((y : Int) + sp.1)).toNat < 9223372036854775808 := by omega
        generalize GG ((x : Int) + sp.2.2) ((y : Int) + sp.1) = gg at hst hg hbt ⊢
        refine bindI_of _ (and_mask _ (spanW sp) hbt (by omega)) ?_
        rw [hst]
        generalize bitsN 0 (pb GG (x : Nat) y (spl sp (spanW sp))) = nb at hnb hctx hwn ⊢
        rw [add_mk, add_mk, Nat.zero_add]
        refine stV_hp H 0 rfl (by rw [List.length_append]; omega) rfl fun h hsz H => ?_
        have hset : (wnsC wl ++ restw).set (i * 5 + 3) (.int .i64 (nb : Nat)) = wnsC (wl.set i ⟨sp, nb⟩) ++ restw := by
          rw [List.set_append_left _ _ hwlen, wnsC_set nb hB1]
        rw [hset] at H
        have H : Hp h0 FF h ([⟨bw, true, T_generic_window, wnsC (wl.set i ⟨sp, nb⟩) ++ restw⟩, procE rp p fv base t skip, mapE p q W X N cc, ⟨q, true, T_uint64, u64s ws ++ rest⟩] ++ M) := H
        have hil : i < wl.length := by rw [hwin.1]; exact hi
        have hget2 : ∀ j v, (wnC ⟨sp, nb⟩)[j]? = some v → (wnsC (wl.set i ⟨sp, nb⟩) ++ restw)[i * 5 + j]? = some v := fun j v hv => Go.Ar.get_app (wnsC_get (List.getElem?_set_self hil) j v hv)
        refine ldI_of (H.cell 0 rfl (hget2 4 _ rfl)) ?_
        have hma := mask_add sp
        refine bindI_of (((2 ^ spanW sp : Nat) : Int)) (by exact i64_at _ _ (by rw [← hma]; rfl) (by omega) (by omega)) ?_
        have hmul : bitsN 0 (pb GG (x : Nat) y (plcs (SL.take i))) * 2 ^ spanW sp ≤ 65536 * 256 := Nat.mul_le_mul (by omega) hp8
        generalize bitsN 0 (pb GG (x : Nat) y (plcs (SL.take i))) = acc at hmul hctx hac1 ⊢
        refine bindI_of (((acc * 2 ^ spanW sp : Nat) : Int)) (by exact i64_at _ _ mul_cast (by omega) (by omega)) ?_
        refine ldI_of (H.cell 0 rfl (hget2 3 _ rfl)) ?_
        refine bindI_of (((bitsN 0 (pb GG (x : Nat) y (plcs (SL.take (i + 1)))) : Nat) : Int)) (by exact i64_at _ _ (by show _ + (nb : Int) = _; omega) (by omega) (by omega)) ?_
        refine bindI_of (((i + 1 : Nat) : Int)) (by exact i64_at _ _ (by omega) (by omega) (by omega)) ?_
        exact ⟨n2 - 1, by omega, i + 1, _, by omega, rfl, hwn, H⟩
      · obtain rfl : i = SL.length := by omega
        have hctx : bitsN 0 (pb GG (x : Nat) y (plcs (SL.take SL.length))) = gctx t GG (x : Nat) y := by rw [List.take_of_length_le (Nat.le_refl _), hSLd]; rfl
        rw [hctx]
        have hcl := gctx_lt t GG (x : Nat) y
        obtain ⟨⟨ft, fx, hfv⟩, hdec⟩ := hdec
        refine ⟨fun b => b = rp, ?_⟩
        refine ptr_of (a := ⟨rp, 0, none⟩) (ptr_of (a := ⟨rp, 0, none⟩) (ptr_of (a := ⟨rp, 0, none⟩) (ptr_of (a := ⟨rp, 0, none⟩) ?_)))
        refine ldP_of (hpA H 1 rfl rfl) ⟨rfl, ?_⟩
        refine ldV_of (hpA H 1 rfl rfl) ⟨rfl, ?_⟩
        have hnil : ∀ K : Value → Prop, K fv → nilD fv K := fun K hk => by subst hfv; exact hk
        refine hnil _ ?_
        refine ldI_of (hpA H 1 rfl rfl) ⟨rfl, ?_⟩
        refine bindI_of ((base + ((gctx t GG (x : Nat) y : Nat) : Int))) (by exact i64_in _ (by omega) (by omega)) ?_
        refine ldP_of (hpA H 1 rfl rfl) ⟨rfl, ?_⟩
        refine mget_ok (ws := ws) (c := cc) (rest := rest) H 2 3 (by rw [hlw]; rfl) rfl hs (by rw [hlw]; exact hl) hww ?_
        refine ⟨_, rfl, hkeep.refl _ _, ?_⟩
        rw [← hGG]
        have hstep : rowG t step y (x + 1) (getP ws0 W X, s0) = match step s (gctx t GG (x : Int) (y : Int)) (GG (x : Int) (y : Int)) with
            | .inl (bit, s') => .inl (upd GG (x : Int) (y : Int) bit, s')
            | .inr e => .inr e := by
          (rw [rowG, hrow, ← hGG]) <;> rfl
        refine hdec hoks (by omega) (by omega) hM H.giveS (fun bit' s' M' h3 hst hok' hM' H' => ?_) fun e s' M' h3 hst hok' hM' H' => ?_
        · rw [hst] at hstep
          simp only at hstep
          have keep := keep_of H H' (e := procE rp p fv base t skip) (by simp)
          have H3 := H.putS (hSw s M hM) H' (hSw s' M' hM')
          refine ⟨_, rfl, keep, ?_⟩
          refine mset_ok (ws := ws) (c := cc) (rest := rest) H3 2 3 (by rw [hlw]; rfl) rfl hs (by rw [hlw]; exact hl) hww hx hy fun R h4 k1 k2 k3 H4 => ?_
          refine ⟨_, rfl, ?_⟩
          refine bindI_of (((x + 1 : Nat) : Int)) (by exact i64_at _ _ (by omega) (by omega) (by omega)) ?_
          have hset := getP_set hx hy k3
          rw [← hGG] at hset
          refine ⟨n - 1, by omega, x + 1, R, s', M', wl, by omega, rfl, by rw [hset]; exact hstep, by rw [k1, hlw], k2, hzz.set hx k3, hok', hM', ?_, H4⟩
          rw [hset]
          exact hwin.next hSok bit'
        · rw [hst] at hstep
          simp only at hstep
          have H3 := H.putS (hSw s M hM) H' (hSw s' M' hM')
          exact hbad e ws s' M' h3 (k0 + x + 1) hM' (rowG_err hstep _ (by omega)) hlw (by omega) hok' (H3.sub (List.Sublist.append (List.Sublist.cons _ (List.Sublist.refl _)) (List.Sublist.refl _)))
    · obtain rfl : W = x := by omega
      exact hgood ws s M h hM hrow hlw hww hzz hoks (H.sub (List.Sublist.append (List.Sublist.cons _ (List.Sublist.refl _)) (List.Sublist.refl _)))
end Go.Bm

/- GnS: a map's row laid over the one below it: Blit of a map onto itself, one row high. -/
set_option linter.unusedVariables false
set_option linter.unusedSimpArgs false
namespace Go.Bm
open Go Go.Den Go.Den.YtfaclehehhgpcaaGreat

theorem word_okN {h : Heap} {q : Option Addr} {c : Nat} {ws : List Nat} {n : Nat} (e : ws.length = n) (hr : rdO h q (ws.length * 1) (u64s ws)) (hw : W64 ws) (hl : ws.length < 1048577) {x : Int} (hx : -1000000000 ≤ x ∧ x < 1000000000) {K : Value → Heap → Prop} {Kp : List PanicEntry → Heap → Prop}
    (hk : ∀ V : Nat, V < M64 → (∀ j, j < 64 → V.testBit j = rowB ws (x + (63 - (j : Int)))) → K (.int .u64 (V : Nat)) h) :
    CP F_bitmap_word #[.slice q n c, .int .i64 x] h K Kp := by
  subst e
  exact word_ok hr hw hl hx hk

set_option maxRecDepth 100000 in
theorem blitS_ok {h0 h : Heap} {FF : List Nat} {p q W X : Nat} {ws : List Nat} {rest : List Value} (H : Hp h0 FF h (mapL p q W X ws rest)) (hs : SizeP (W : Int) (X : Int)) (hl : ws.length = X * wds W) (hw : W64 ws)
    {sx sy w g dx dy : Int} {op : Nat} (hsx : InI sx) (hsy : InI sy) (hwi : InI w) (hgi : InI g) (hdx : InI dx) (hdy : InI dy) (hw0 : 0 ≤ w) (hg0 : 0 ≤ g) (hop : op < 5) (hg1 : g ≤ 1)
    {K : Value → Heap → Prop} {Kp : List PanicEntry → Heap → Prop}
    (hk : ∀ R h', R.length = X * wds W → W64 R → (∀ Y, Y < X → ∀ x', x' < 64 * wds W → pix R (wds W) x' Y =
        if dx ≤ x' ∧ (x' : Int) < dx + w ∧ x' < W ∧ dy ≤ Y ∧ (Y : Int) < dy + g ∧ 0 ≤ sx + (x' - dx) ∧ sx + (x' - dx) < W ∧ 0 ≤ sy + (Y - dy) ∧ sy + (Y - dy) < X then opB op (pix ws (wds W) x' Y) (pix ws (wds W) (sx + (x' - dx)).toNat (sy + (Y - dy)).toNat) else pix ws (wds W) x' Y) →
      Hp h0 FF h' (mapL p q W X R rest) → K (.int .i64 0) h') :
    CP F_bitmap_Map_Blit #[.pointer (at0 p), .pointer (at0 p), .int .i64 sx, .int .i64 sy, .int .i64 w, .int .i64 g, .int .i64 dx, .int .i64 dy, .int .i64 (op : Nat)] h K Kp := by
  refine call_bitmap_Map_Blit ?_
  unfold bitmap_Map_Blit
  obtain ⟨W', X', e1, e2, hW1, hW2, hX1, hX2, hWX⟩ := size_nat hs
  obtain rfl : W = W' := by omega
  obtain rfl : X = X' := by omega
  clear e1 e2
  have hhw := hw_le hW1 hWX
  have hwl := wds_le hW1
  have hwp2 := wds_pos hW1
  refine bcase_false (by rfl) ?_
  refine bcase_dec (fun h1 => by omega) fun h1 => ?_
  refine bcase_dec (fun h2 => by omega) fun h2 => ?_
  refine bcase_dec (fun h3 => by omega) fun h3 => ?_
  refine bcase_dec (fun h4 => by omega) fun h4 => ?_
  clear h1 h2 h3 h4
  try simp only [ptr_some_eq, add_mk, Nat.zero_add, Nat.add_zero]
  refine ldI_of (H.cell 0 rfl (i := 0) rfl) ?_
  refine ldI_of (H.cell 0 rfl rfl) ?_
  refine both_ok hsx hdx hwi (by omega) (by omega) fun f1 t1 l1 c1 => ?_
  refine ⟨_, _, _, rfl, ?_⟩
  refine ldI_of (H.cell 0 rfl (i := 1) rfl) ?_
  refine ldI_of (H.cell 0 rfl rfl) ?_
  refine both_ok hsy hdy hgi (by omega) (by omega) fun f2 t2 l2 c2 => ?_
  refine ⟨_, _, _, rfl, ?_⟩
  have none : (l1 = 0 ∨ l2 = 0) → K (.int .i64 0) h := fun hz => by
    refine hk ws _ hl hw (fun Y hY x' hx' => ?_) H
    rw [if_neg]
    rintro ⟨g1, g2, g3, g4, g5, g6, g7, g8, g9⟩
    rcases hz with hz | hz
    · rcases c1 with ⟨_, c1⟩ | c1
      · exact c1 (x' - dx) (by omega) (by omega) (by omega) (by omega) (by omega) (by omega)
      · omega
    · rcases c2 with ⟨_, c2⟩ | c2
      · exact c2 (Y - dy) (by omega) (by omega) (by omega) (by omega) (by omega) (by omega)
      · omega
  refine bcase_eq (fun h3 => none (.inl h3)) fun h3 => ?_
  refine bcase_eq (fun h4 => none (.inr h4)) fun h4 => ?_
  clear none
  obtain ⟨a1, a2, a3, a4, a5, a6, a7, a8, a9⟩ := c1.resolve_left (fun h => h3 h.1)
  obtain ⟨b1, b2, b3, b4, b5, b6, b7, b8, b9⟩ := c2.resolve_left (fun h => h4 h.1)
  clear c1 c2 h3 h4
  obtain ⟨fx, rfl⟩ : ∃ n : Nat, f1 = (n : Nat) := ⟨f1.toNat, by omega⟩
  obtain ⟨tx, rfl⟩ : ∃ n : Nat, t1 = (n : Nat) := ⟨t1.toNat, by omega⟩
  obtain ⟨wide, rfl⟩ : ∃ n : Nat, l1 = (n : Nat) := ⟨l1.toNat, by omega⟩
  obtain ⟨fy, rfl⟩ : ∃ n : Nat, f2 = (n : Nat) := ⟨f2.toNat, by omega⟩
  obtain ⟨ty, rfl⟩ : ∃ n : Nat, t2 = (n : Nat) := ⟨t2.toNat, by omega⟩
  obtain ⟨high, rfl⟩ : ∃ n : Nat, l2 = (n : Nat) := ⟨l2.toNat, by omega⟩
  refine operations_ok fun o h' H' => ?_
  replace H := H.join H' rfl
  clear H'
  refine ⟨_, _, _, rfl, ?_⟩
  refine needs_of (by omega) ?_
  obtain ⟨fv, hfv, hfc⟩ := opB_cell H 2 rfl hop
  simp only [ptr_some_eq, add_mk, Nat.zero_add, Int.toNat_natCast, Nat.mul_one]
  refine ldV_of hfc ?_
  refine ldI_of (H.cell 0 rfl (i := 2) rfl) ?_
  refine needs_of (by simp; omega) ?_
  simp only [Int.toNat_natCast, u64s_zero]
  refine newC_hp H fun rw h H => ?_
  -- what shall be
  let G : Nat → Nat → Bool := fun x' Y => if tx ≤ x' ∧ x' < tx + wide ∧ ty ≤ Y ∧ Y < ty + high then opB op (pix ws (wds W) x' Y) (pix ws (wds W) (fx + (x' - tx)) (fy + (Y - ty))) else pix ws (wds W) x' Y
  have hG : ∀ x' Y, G x' Y = if tx ≤ x' ∧ x' < tx + wide ∧ ty ≤ Y ∧ Y < ty + high then opB op (pix ws (wds W) x' Y) (pix ws (wds W) (fx + (x' - tx)) (fy + (Y - ty))) else pix ws (wds W) x' Y := fun _ _ => rfl
  have hlast : (tx + wide - 1) / 64 < wds W := by unfold wds; omega
  have hsrc : W ≤ 64 * wds W := by unfold wds; omega
  let D : Nat → Nat → Bool := fun n Y => if fy < ty then decide (ty + (high - n) ≤ Y ∧ Y < ty + high) else decide (ty ≤ Y ∧ Y < ty + n)
  have hD : ∀ n Y, D n Y = true ↔ (fy < ty ∧ ty + (high - n) ≤ Y ∧ Y < ty + high) ∨ (¬ fy < ty ∧ ty ≤ Y ∧ Y < ty + n) := fun n Y => by
    show (if fy < ty then _ else _) = true ↔ _
    by_cases h1 : fy < ty
    · rw [if_pos h1, decide_eq_true_eq]; omega
    · rw [if_neg h1, decide_eq_true_eq]; omega
  have hrw0 : W64 (List.replicate (wds W) 0) := W64.zero _
  refine ⟨fun n vs h => ∃ (j J0 : Nat) (R rs : List Nat), (j = 0 → R = ws) ∧ j + n = high ∧ vs = [.int .i64 (j : Int)] ∧ rs.length = wds W ∧ Inv X (wds W) G (pix ws (wds W)) (D j) J0 (tx / 64) R ∧ J0 < X ∧
      Hp h0 FF h (mapL p q W X R rest ++ [⟨o, true, T_func_uint64_uint64_uint64, opsV⟩] ++ [⟨rw, true, T_uint64, u64s rs⟩]),
    ⟨high, 0, 0, ws, List.replicate (wds W) 0, fun _ => rfl, by omega, rfl, by simp, ⟨hl, hw, fun Y hY x' hx' => ?_⟩, by omega, H⟩, ?_⟩
  · by_cases h5 : D 0 Y = true ∨ Y = 0 ∧ x' / 64 < tx / 64
    · rw [if_pos h5, hG, if_neg]
      rcases h5 with h5 | h5
      · have := (hD 0 Y).1 h5; omega
      · omega
    · rw [if_neg h5]
  clear H hrw0
  rintro n h u xx ⟨j, J0, R, rs, hR0, hjn, hxx, hrs, hI, hJ0, H⟩
  injection hxx with hxx
  injection hxx with _ hxx
  subst hxx
  refine bcase_dec (fun h5 => ?_) fun h5 => ?_
  · have h5 : j < high := by omega
    have hRws : R = ws := hR0 (by omega)
    -- the row that is gone over
    obtain ⟨jj, hjj⟩ : ∃ jj : Nat, jj = if fy < ty then high - 1 - j else j := ⟨_, rfl⟩
    have hjj2 : fy < ty ∧ jj + j + 1 = high ∨ ¬ fy < ty ∧ jj = j := by
      by_cases h1 : fy < ty
      · rw [if_pos h1] at hjj; left; omega
      · rw [if_neg h1] at hjj; right; exact ⟨h1, hjj⟩
    refine ⟨fun vs h' => h' = h ∧ vs = [.int .i64 (jj : Int)], ?_, ?_⟩
    · refine bcase_dec (fun h6 => ?_) fun h6 => ?_
      · refine bindI_of (((high - 1 : Nat) : Int)) (by exact i64_at _ _ (by omega) (by omega) (by omega)) ?_
        refine bindI_of (((jj : Nat) : Int)) (by exact i64_at _ _ (by omega) (by omega) (by omega)) ?_
        exact ⟨by first | rfl | trivial, rfl⟩
      · have : jj = j := by omega
        rw [this]
        exact ⟨by first | rfl | trivial, rfl⟩
    · rintro h' u' x39 ⟨rfl, hx39⟩
      injection hx39 with hx39
      injection hx39 with _ hx39
      subst hx39
      have hjh : jj < high := by omega
      have hsrow : fy + jj < X := by omega
      have hdrow : ty + jj < X := by omega
      have hRl0 := hI.1
      have hrow2 : (fy + jj + 1) * wds W ≤ X * wds W := Nat.mul_le_mul_right _ (by omega)
      have hrow2' : (fy + jj + 1) * wds W = (fy + jj) * wds W + wds W := by rw [Nat.add_mul, Nat.one_mul]
      refine bindI_of (((fy + jj : Nat) : Int)) (by exact i64_at _ _ (by omega) (by omega) (by omega)) ?_
      try simp only [ptr_some_eq, add_mk, Nat.zero_add, Nat.add_zero]
      refine ldI_of (H.cell 0 rfl (i := 2) rfl) ?_
      refine bindI_of ((((fy + jj) * wds W : Nat) : Int)) (by exact i64_at _ _ mul_cast (by omega) (by omega)) ?_
      generalize hat : (fy + jj) * wds W = at_ at hrow2 hrow2' ⊢
      refine ldS_of (H.cell 0 rfl (i := 3) rfl) ?_
      refine ldI_of (H.cell 0 rfl (i := 2) rfl) ?_
      refine bindI_of (((at_ + wds W : Nat) : Int)) (by exact i64_at _ _ (by omega) (by omega) (by omega)) ?_
      refine ldI_of (H.cell 0 rfl (i := 2) rfl) ?_
      refine bindI_of (((at_ + wds W : Nat) : Int)) (by exact i64_at _ _ (by omega) (by omega) (by omega)) ?_
      refine needs_of (by omega) ?_
      refine needs_of (by omega) ?_
      refine needs_of (by omega) ?_
      simp only [Int.toNat_natCast]
      have hsub : subA (at0 q) (at_ + wds W) at_ 1 = some ⟨q, at_, none⟩ := by
        unfold subA
        rw [if_neg (by omega)]
        show some ((⟨q, 0, none⟩ : Addr).add (at_ * 1)) = _
        rw [add_mk]; simp
      rw [hsub]
      have hmin : Nat.min (at_ + wds W - at_) (wds W) = wds W := by
        show min (at_ + wds W - at_) (wds W) = _
        omega
      have hnew : ((u64s ws ++ rest).drop at_).take (wds W * 1) = u64s (rowW ws (wds W) (fy + jj)) := by
        unfold rowW
        rw [hat, Nat.mul_one, List.drop_append_of_le_length (by rw [u64s_length]; omega), List.take_append_of_le_length (by rw [List.length_drop, u64s_length]; omega)]
        unfold u64s
        rw [List.map_take, List.map_drop]
      have Hs := H
      rw [hRws] at Hs
      have hrd := rdO_hp Hs 1 (o := at_) (n := wds W * 1) rfl (by rw [List.length_append, u64s_length]; omega)
      rw [hnew] at hrd
      have hrl := rowW_len hl hsrow
      refine ⟨_, by rw [hmin]; exact hrd, ?_⟩
      refine stVs_all H 3 rfl (by rw [u64s_length, u64s_length, hrl, hrs]) (u64s_cells _) fun h' hsz H => ?_
      have H : Hp h0 FF h' (mapL p q W X R rest ++ [⟨o, true, T_func_uint64_uint64_uint64, opsV⟩] ++ [⟨rw, true, T_uint64, u64s (rowW ws (wds W) (fy + jj))⟩]) := H
      have hrwp := fun x (hx : x < 64 * wds W) => rowW_pix (S := ws) (swd := wds W) (r := fy + jj) hx
      have hrww := rowW_w hw (wds W) (fy + jj)
      generalize rowW ws (wds W) (fy + jj) = rw2 at H hrl hrwp hrww
      have hDj : D j (ty + jj) = false := by
        rw [← Bool.not_eq_true, hD]; omega
      have hI2 : Inv X (wds W) G (pix ws (wds W)) (D j) (ty + jj) (tx / 64) R := by
        refine ⟨hI.1, hI.2.1, fun Y hY x' hx' => ?_⟩
        rw [hI.2.2 Y hY x' hx']
        have e : ∀ Y, x' / 64 < tx / 64 → G x' Y = pix ws (wds W) x' Y := fun Y h6 => by rw [hG, if_neg (by omega)]
        by_cases h6 : D j Y = true
        · rw [if_pos (.inl h6), if_pos (.inl h6)]
        · by_cases h7 : x' / 64 < tx / 64
          · have := e Y h7
            split <;> split <;> first | rfl | exact this | exact this.symm
          · rw [if_neg (by rintro (h8 | h8); exact h6 h8; exact h7 h8.2), if_neg (by rintro (h8 | h8); exact h6 h8; exact h7 h8.2)]
      clear hI
      refine bindI_of (((tx / 64 : Nat) : Int)) (by exact i64_at _ _ (tdiv_nat tx 64) (by omega) (by omega)) ?_
      refine ⟨fun n vs h => ∃ (i : Nat) (R : List Nat), i + n = (tx + wide - 1) / 64 + 1 ∧ tx / 64 ≤ i ∧ vs = [.int .i64 (i : Int)] ∧ Inv X (wds W) G (pix ws (wds W)) (D j) (ty + jj) i R ∧
          Hp h0 FF h (mapL p q W X R rest ++ [⟨o, true, T_func_uint64_uint64_uint64, opsV⟩] ++ [⟨rw, true, T_uint64, u64s rw2⟩]),
        ⟨(tx + wide - 1) / 64 + 1 - tx / 64, tx / 64, R, by omega, Nat.le_refl _, rfl, hI2, H⟩, ?_⟩
      clear H hI2
      rintro n2 h u2 xx ⟨i, R, hin, hi, hxx, hI, H⟩
      injection hxx with hxx
      injection hxx with _ hxx
      subst hxx
      refine bindI_of (((tx + wide : Nat) : Int)) (by exact i64_at _ _ (by omega) (by omega) (by omega)) ?_
      refine bindI_of (((tx + wide - 1 : Nat) : Int)) (by exact i64_at _ _ (by omega) (by omega) (by omega)) ?_
      refine bindI_of ((((tx + wide - 1) / 64 : Nat) : Int)) (by exact i64_at _ _ (tdiv_nat (tx + wide - 1) 64) (by omega) (by omega)) ?_
      refine bcase_dec (fun h6 => ?_) fun h6 => ?_
      · have h6 : i ≤ (tx + wide - 1) / 64 := by omega
        have hiw : i < wds W := by omega
        have hidx := idx_lt hiw hdrow
        have hjw : (ty + jj) * wds W ≤ X * wds W := Nat.mul_le_mul_right _ (by omega)
        have hRl := hI.1
        refine bindI_of (((ty + jj : Nat) : Int)) (by exact i64_at _ _ (by omega) (by omega) (by omega)) ?_
        refine ldS_of (H.cell 0 rfl rfl) ?_
        refine ldI_of (H.cell 0 rfl rfl) ?_
        refine bindI_of ((((ty + jj) * wds W : Nat) : Int)) (by exact i64_at _ _ mul_cast (by omega) (by omega)) ?_
        refine bindI_of ((((ty + jj) * wds W + i : Nat) : Int)) (by exact i64_at _ _ (by omega) (by omega) (by omega)) ?_
        refine needs_of (by omega) ?_
        try simp only [ptr_some_eq, add_mk, Nat.zero_add, Int.toNat_natCast, Nat.mul_one]
        refine mask_ok (by omega) (by omega) fun M hM hMb => ?_
        refine ⟨_, rfl, ?_⟩
        refine bindI_of (((64 * i : Nat) : Int)) (by exact i64_at _ _ (by omega) (by omega) (by omega)) ?_
        refine bindI_of (((fx + 64 * i : Nat) : Int)) (by exact i64_at _ _ (by omega) (by omega) (by omega)) ?_
        refine bindI_of ((((fx + 64 * i : Nat) : Int) - (tx : Nat))) (by exact i64_in _ (by omega) (by omega)) ?_
        have hcell := H.cell 1 rfl (get_app (u64s_get (getD_get (l := R) (i := (ty + jj) * wds W + i) (by omega))))
        have hv := hI.2.1.get ((ty + jj) * wds W + i)
        refine ldI_of hcell ?_
        refine bindI_of _ (andNot64 _ _ hv hM) ?_
        refine ldI_of hcell ?_
        have hrr := row_rdO (xs := rw2) (rest := []) H 3 (b := rw) (w := true) (t := T_uint64) (by rw [List.append_nil]; rfl)
        refine word_okN hrl hrr hrww (by omega) (by omega) fun V hV hVb => ?_
        refine ⟨_, rfl, hext.refl _, ?_⟩
        refine does_ok hop hv hV hfv fun v hvv hvb => ?_
        refine ⟨_, rfl, hext.refl _, ?_⟩
        refine bindI_of _ (and64 _ _ hvv hM) ?_
        refine bindI_of _ (or64 _ _ (and_lt hv) (and_lt hvv)) ?_
        refine stV_hp H 1 rfl (by rw [List.length_append, u64s_length]; omega) rfl fun h hsz H => ?_
        rw [u64s_setr _ _ _ _ (by omega)] at H
        refine bindI_of (((i + 1 : Nat) : Int)) (by exact i64_at _ _ (by omega) (by omega) (by omega)) ?_
        refine ⟨n2 - 1, by omega, i + 1, _, by omega, by omega, rfl, hI.step hdrow hiw (v := R.getD ((ty + jj) * wds W + i) 0 &&& wnot M ||| v &&& M) (or_lt (and_lt hv) (and_lt hvv)) (fun b hb => ?_), H.as (by simp [mapL, mapE])⟩
        have hwb := hI.word hDj hdrow hiw hb
        rw [Nat.testBit_or, Nat.testBit_and, Nat.testBit_and, wnot_bit hM hb, hvb b hb, hMb b hb, hVb b hb, hwb, hG]
        by_cases h7 : tx ≤ 64 * i + (63 - b) ∧ 64 * i + (63 - b) < tx + wide
        · rw [decide_eq_true h7, if_pos ⟨h7.1, h7.2, by omega, by omega⟩]
          have e1 : ((fx + 64 * i : Nat) : Int) - (tx : Nat) + (63 - (b : Int)) = ((fx + (64 * i + (63 - b) - tx) : Nat) : Int) := by omega
          have e2 : ty + jj - ty = jj := by omega
          rw [e1, hrwp _ (by omega), e2]
          simp
        · rw [decide_eq_false h7, if_neg (fun h8 => h7 ⟨h8.1, h8.2.1⟩)]
          simp
      · have h6 : (tx + wide - 1) / 64 < i := by omega
        refine bindI_of (((j + 1 : Nat) : Int)) (by exact i64_at _ _ (by omega) (by omega) (by omega)) ?_
        refine ⟨n - 1, by omega, j + 1, ty + jj, R, rw2, fun h => absurd h (Nat.succ_ne_zero _), by omega, rfl, hrl, hI.row (fun x' h7 h8 => ?_) (fun Y => ?_) (fun x' h7 h8 => ?_), hdrow, H⟩
        · rw [hG, if_neg (by omega)]
        · rw [hD, hD]; omega
        · rw [hG, if_neg (by omega)]
  · have h5 : j = high := by omega
    subst h5
    refine hk R _ hI.1 hI.2.1 (fun Y hY x' hx' => ?_) (H.pre.pre)
    rw [hI.2.2 Y hY x' hx']
    have e1 : (D j Y = true ∨ Y = J0 ∧ x' / 64 < tx / 64) → G x' Y = if tx ≤ x' ∧ x' < tx + wide ∧ ty ≤ Y ∧ Y < ty + j then opB op (pix ws (wds W) x' Y) (pix ws (wds W) (fx + (x' - tx)) (fy + (Y - ty))) else pix ws (wds W) x' Y := fun _ => hG x' Y
    by_cases h6 : tx ≤ x' ∧ x' < tx + wide ∧ ty ≤ Y ∧ Y < ty + j
    · rw [if_pos (.inl ((hD j Y).2 (by omega))), hG, if_pos h6, if_pos (by omega)]
      congr 2 <;> omega
    · have hno : ¬ (dx ≤ x' ∧ (x' : Int) < dx + w ∧ x' < W ∧ dy ≤ Y ∧ (Y : Int) < dy + g ∧ 0 ≤ sx + (x' - dx) ∧ sx + (x' - dx) < W ∧ 0 ≤ sy + (Y - dy) ∧ sy + (Y - dy) < X) := by
        rintro ⟨g1, g2, g3, g4, g5, g6, g7, g8, g9⟩
        have k1 := a9 (x' - dx) (by omega) (by omega) (by omega) (by omega) (by omega) (by omega)
        have k2 := b9 (Y - dy) (by omega) (by omega) (by omega) (by omega) (by omega) (by omega)
        exact h6 (by omega)
      rw [if_neg hno]
      split
      · rw [hG, if_neg h6]
      · rfl

end Go.Bm

/- GnD: generic's procedure.same, procedure.run and caught, whatever decides. -/
set_option linter.unusedVariables false
set_option linter.unusedSimpArgs false
namespace Go.Bm
open Go Go.Den Go.Den.YtfaclehehhgpcaaGreat

theorem same_ok {h0 h : Heap} {FF : List Nat} {L : List Ent} {rp p q W X N cc t y : Nat} {fv : Value} {base : Int} {skip : Bool} {ws : List Nat} {rest : List Value} (H : Hp h0 FF h ([procE rp p fv base t skip, mapE p q W X N cc, ⟨q, true, T_uint64, u64s ws ++ rest⟩] ++ L))
    (hN : ws.length = N) (hs : SizeP (W : Int) (X : Int)) (hl : N = X * wds W) (hw : W64 ws) (hy : y < X) {K : Value → Heap → Prop} {Kp : List PanicEntry → Heap → Prop} (hk : K (.bool (sameB (getP ws W X) W y)) h) :
    CP F_generic_procedure_same #[.pointer (at0 rp), .int .i64 (W : Nat), .int .i64 (y : Nat)] h K Kp := by
  refine call_generic_procedure_same ?_
  unfold generic_procedure_same
  obtain ⟨W', X', e1, e2, hW1, hW2, hX1, hX2, hWX⟩ := size_nat hs
  obtain rfl : W = W' := by omega
  obtain rfl : X = X' := by omega
  clear e1 e2
  refine ⟨fun n vs h' => h' = h ∧ ∃ x : Nat, x + n = W ∧ vs = [.int .i64 (x : Nat)] ∧ ∀ j, j < x → getP ws W X (j : Int) (y : Int) = getP ws W X (j : Int) ((y : Int) - 1), ⟨W, rfl, 0, by omega, rfl, fun j hj => absurd hj (Nat.not_lt_zero _)⟩, ?_⟩
  rintro n h u xx ⟨rfl, x, hxn, hxx, hall⟩
  injection hxx with hxx
  injection hxx with _ hxx
  subst hxx
  refine bcase_dec (fun h4 => ?_) fun h4 => ?_
  · refine ptr_of (a := ⟨rp, 0, none⟩) (ptr_of (a := ⟨rp, 0, none⟩) ?_)
    refine bindI_of (((y : Int) - 1)) (by exact i64_in _ (by omega) (by omega)) ?_
    refine ldP_of (hpA H 0 rfl rfl) (ldP_of (hpA H 0 rfl rfl) ?_)
    refine mget_ok (ws := ws) (c := cc) (rest := rest) H 1 2 (by rw [hN]; rfl) rfl hs (by rw [hN]; exact hl) hw ?_
    refine ⟨_, rfl, hext.refl _, ?_⟩
    refine mget_ok (ws := ws) (c := cc) (rest := rest) H 1 2 (by rw [hN]; rfl) rfl hs (by rw [hN]; exact hl) hw ?_
    refine ⟨_, rfl, ?_⟩
    refine bcase_ne (fun h5 => ?_) fun h5 => ?_
    · have hne : getP ws W X (x : Int) (y : Int) ≠ getP ws W X (x : Int) ((y : Int) - 1) := fun e => h5 (by rw [e])
      have : sameB (getP ws W X) W y = false := by
        unfold sameB
        rw [← Bool.not_eq_true, List.all_eq_true]
        intro hh
        have := hh x (List.mem_range.2 (by omega))
        exact hne (by simpa using this)
      rw [this] at hk
      exact hk
    · have heq : getP ws W X (x : Int) (y : Int) = getP ws W X (x : Int) ((y : Int) - 1) := by
        generalize getP ws W X (x : Int) (y : Int) = a at h5
        generalize getP ws W X (x : Int) ((y : Int) - 1) = b at h5
        cases a <;> cases b <;> first | rfl | (exact absurd h5 (by decide))
      refine bindI_of (((x + 1 : Nat) : Int)) (by exact i64_at _ _ (by omega) (by omega) (by omega)) ?_
      refine ⟨n - 1, by omega, rfl, x + 1, by omega, rfl, fun j hj => ?_⟩
      rcases Nat.lt_or_ge j x with h6 | h6
      · exact hall j h6
      · obtain rfl : j = x := by omega
        exact heq
  · obtain rfl : W = x := by omega
    have : sameB (getP ws W X) W y = true := by
      unfold sameB
      rw [List.all_eq_true]
      intro j hj
      rw [hall j (List.mem_range.1 hj)]
      simp
    rw [this] at hk
    exact hk

set_option maxRecDepth 100000 in
set_option maxHeartbeats 4000000 in
theorem grun_ok {σ : Type} {S : σ → List Ent → Prop} {Ok : Nat → σ → Prop} {step : σ → Nat → Bool → (Bool × σ) ⊕ (Int × σ)} {fv : Value} {base : Int} {NN : Nat} (hSw : ∀ s M, S s M → M.all Ent.w = true) (hdec : DecOkI NN base S Ok step fv) (hb : 0 ≤ base ∧ base ≤ 131072)
    {h0 h : Heap} {FF : List Nat} {rp p q W X N cc t : Nat} {skip : Bool} {rest : List Value} {ws0 : List Nat} {s0 : σ} {M0 : List Ent} (ht : t < 4) (hS0 : S s0 M0) (H : Hp h0 FF h ([procE rp p fv base t skip, mapE p q W X N cc, ⟨q, true, T_uint64, u64s ws0 ++ rest⟩] ++ M0))
    (hN : ws0.length = N) (hcc : cc = N + rest.length) (hs : SizeP (W : Int) (X : Int)) (hl : N = X * wds W) (hw : W64 ws0) (hz : PadZ W X ws0) (hok0 : Ok 0 s0) (hNN : X * (W + 1) ≤ NN) {K : Value → Heap → Prop} {Kp : List PanicEntry → Heap → Prop}
    (hgood : ∀ ws s M h' k, S s M → runG W t skip step X (getP ws0 W X, s0) = .inl (getP ws W X, s) → ws.length = N → W64 ws → PadZ W X ws → k ≤ X * (W + 1) → Ok k s → Hp h0 FF h' ([procE rp p fv base t skip, mapE p q W X N cc, ⟨q, true, T_uint64, u64s ws ++ rest⟩] ++ M) → K (.tuple #[]) h')
    (hbad : ∀ e ws s M h' k, S s M → runG W t skip step X (getP ws0 W X, s0) = .inr (e, s) → ws.length = N → k ≤ NN → Ok k s → Hp h0 FF h' ([procE rp p fv base t skip, mapE p q W X N cc, ⟨q, true, T_uint64, u64s ws ++ rest⟩] ++ M) →
      Kp [{ v := .iface T_generic_fault (.agg #[.int .i64 e]), recovered := false }] h') :
    CP F_generic_procedure_run #[.pointer (at0 rp), .int .i64 (gsize t : Nat)] h K Kp := by
  refine call_generic_procedure_run ?_
  unfold generic_procedure_run
  obtain ⟨W', X', e1, e2, hW1, hW2, hX1, hX2, hWX⟩ := size_nat hs
  obtain rfl : W = W' := by omega
  obtain rfl : X = X' := by omega
  clear e1 e2
  have hgs := gsize_le ht
  refine ptr_of (a := ⟨rp, 0, none⟩) ?_
  refine ldP_of (hpA H 0 rfl rfl) ?_
  refine msize_ok (ws := ws0) (c := cc) H 1 (by rw [hN]; rfl) ?_
  refine ⟨_, _, rfl, ?_⟩
  refine ⟨fun n vs h' => ∃ (y : Nat) (ws : List Nat) (s : σ) (M : List Ent) (k : Nat), y + n = X ∧ vs = [.int .i64 (y : Nat)] ∧ S s M ∧ runG W t skip step y (getP ws0 W X, s0) = .inl (getP ws W X, s) ∧ ws.length = N ∧ W64 ws ∧ PadZ W X ws ∧ k ≤ y * (W + 1) ∧ Ok k s ∧
      Hp h0 FF h' ([procE rp p fv base t skip, mapE p q W X N cc, ⟨q, true, T_uint64, u64s ws ++ rest⟩] ++ M), ⟨X, 0, ws0, s0, M0, 0, by omega, rfl, hS0, rfl, hN, hw, hz, by omega, hok0, H⟩, ?_⟩
  clear H
  rintro n h u xx ⟨y, ws, s, M, k, hyn, hxx, hM, hrun, hlw, hww, hzz, hky, hok, H⟩
  injection hxx with hxx
  injection hxx with _ hxx
  subst hxx
  refine bcase_dec (fun h1 => ?_) fun h1 => ?_
  · have hy : y < X := by omega
    have hkX : (y + 1) * (W + 1) ≤ X * (W + 1) := Nat.mul_le_mul_right _ (by omega)
    rw [Nat.add_mul, Nat.one_mul] at hkX
    have hnext : runG W t skip step (y + 1) (getP ws0 W X, s0) = match skip with
        | false => rowG t step y W (getP ws W X, s)
        | true => match step s (gsize t) (sameB (getP ws W X) W y) with
          | .inr e => .inr e
          | .inl (true, s') => .inl (copyRow (getP ws W X) y, s')
          | .inl (false, s') => rowG t step y W (getP ws W X, s') := by
      rw [runG, hrun]
      cases skip <;> rfl
    refine ptr_of (a := ⟨rp, 0, none⟩) ?_
    cases skip with
    | true =>
      simp only at hnext
      refine ldB_of (hpA H 0 rfl rfl) ?_
      refine bcase_true rfl ?_
      refine ⟨fun vs h' => h' = h ∧ vs = [.int .i64 ((sameB (getP ws W X) W y).toNat : Nat)], ?_, ?_⟩
      · refine same_ok H hlw hs hl hww hy ?_
        refine ⟨_, rfl, ?_⟩
        cases hsm : sameB (getP ws W X) W y with
        | true => exact bcase_true rfl ⟨rfl, rfl⟩
        | false => exact bcase_false rfl ⟨rfl, rfl⟩
      · rintro h' u' bb ⟨rfl, hbb⟩
        injection hbb with hbb
        injection hbb with _ hbb
        subst hbb
        obtain ⟨⟨ft, fx, hfv⟩, hdc⟩ := id hdec
        refine ptr_of (a := ⟨rp, 0, none⟩) (ptr_of (a := ⟨rp, 0, none⟩) ?_)
        refine ldV_of (hpA H 0 rfl rfl) ?_
        have hnil : ∀ K : Value → Prop, K fv → nilD fv K := fun K hk => by subst hfv; exact hk
        refine hnil _ ?_
        refine ldI_of (hpA H 0 rfl rfl) ?_
        refine bindI_of ((base + ((gsize t : Nat) : Int))) (by exact i64_in _ (by omega) (by omega)) ?_
        refine hdc hok (by omega) (by omega) hM H.giveS (fun bit' s' M' h3 hst hok' hM' H' => ?_) fun e s' M' h3 hst hok' hM' H' => ?_
        · rw [hst] at hnext
          have H := H.putS (hSw s M hM) H' (hSw s' M' hM')
          clear H'
          refine ⟨_, rfl, ?_⟩
          cases bit' with
          | true =>
            simp only at hnext
            refine bcase_eq (fun _ => ?_) fun h5 => absurd rfl h5
            refine ptr_of (a := ⟨rp, 0, none⟩) (ptr_of (a := ⟨rp, 0, none⟩) ?_)
            refine bindI_of (((y : Int) - 1)) (by exact i64_in _ (by omega) (by omega)) ?_
            refine ldP_of (hpA H 0 rfl rfl) (ldP_of (hpA H 0 rfl rfl) ?_)
            have hmL : mapL p q W X ws rest = [mapE p q W X N cc, ⟨q, true, T_uint64, u64s ws ++ rest⟩] := by
              unfold mapL
              rw [hlw, hcc]
            have Hg := H.give [1, 2] (A := mapL p q W X ws rest) (by decide) (by rw [hmL]; rfl)
            refine blitS_ok (sx := 0) (sy := (y : Int) - 1) (w := (W : Nat)) (g := 1) (dx := 0) (dy := (y : Nat)) (op := 4) Hg hs (by rw [hlw]; exact hl) hww ⟨by omega, by omega⟩ ⟨by omega, by omega⟩ ⟨by omega, by omega⟩ ⟨by omega, by omega⟩ ⟨by omega, by omega⟩ ⟨by omega, by omega⟩ (by omega) (by omega) (by decide) (by omega) fun R h4 k1 k2 k3 H4 => ?_
            have hmR : mapL p q W X R rest = [mapE p q W X N cc, ⟨q, true, T_uint64, u64s R ++ rest⟩] := by
              unfold mapL
              rw [k1, ← hl, hcc]
            have H := H.put [1, 2] (by decide) (by rw [hmL]; rfl) (by rw [hmL]; rfl) H4 (by rw [hmR]; rfl) (by rw [hmR]; rfl)
            rw [hmR] at H
            clear H4 Hg
            refine ⟨_, rfl, ?_⟩
            refine bindI_of (((y + 1 : Nat) : Int)) (by exact i64_at _ _ (by omega) (by omega) (by omega)) ?_
            have k4 : ∀ Y, Y < X → ∀ x', x' < 64 * wds W → pix R (wds W) x' Y = if x' < W ∧ Y = y ∧ y ≠ 0 then pix ws (wds W) x' (y - 1) else pix ws (wds W) x' Y := fun Y hY x' hx' => by
              rw [k3 Y hY x' hx']
              by_cases hc : x' < W ∧ Y = y ∧ y ≠ 0
              · rw [if_pos hc, if_pos (by omega)]
                show pix ws (wds W) _ _ = _
                congr 1 <;> omega
              · rw [if_neg hc, if_neg (by omega)]
            have hcopy : getP R W X = copyRow (getP ws W X) y := by
              funext a b
              unfold copyRow getP
              by_cases hin : 0 ≤ a ∧ 0 ≤ b ∧ a < W ∧ b < X
              · rw [decide_eq_true hin, Bool.true_and, k4 b.toNat (by omega) a.toNat (by unfold wds; omega)]
                by_cases hc : b = (y : Int) ∧ y ≠ 0
                · rw [if_pos (by omega), if_pos hc, decide_eq_true (by omega), Bool.true_and]
                  congr 1
                  omega
                · rw [if_neg (by omega), if_neg hc, Bool.true_and]
              · rw [decide_eq_false hin, Bool.false_and]
                by_cases hc : b = (y : Int) ∧ y ≠ 0
                · rw [if_pos hc, decide_eq_false (by omega), Bool.false_and]
                · rw [if_neg hc, Bool.false_and]
            refine ⟨n - 1, by omega, y + 1, R, s', M', k + 1, by omega, rfl, hM', by rw [hcopy]; exact hnext, by rw [k1, hl], k2, fun Y hY x' h6 h7 => ?_, by rw [Nat.add_mul, Nat.one_mul]; omega, hok', H⟩
            rw [k4 Y hY x' h7, if_neg (by omega)]
            exact hzz Y hY x' h6 h7
          | false =>
            simp only at hnext
            refine bcase_eq (fun h5 => absurd h5 (by decide)) fun h5 => ?_
            refine grow_ok hSw hdec hb ht hM' H hlw hs hl hww hzz hy hok' (by omega) (fun ws2 s2 M2 h4 hM2 hrow hl2 hw2 hz2 hok2 H => ?_) fun e ws2 s2 M2 h4 k2 hM2 hrow hl2 hk2 hok2 H => ?_
            · rw [hrow] at hnext
              refine bindI_of (((y + 1 : Nat) : Int)) (by exact i64_at _ _ (by omega) (by omega) (by omega)) ?_
              exact ⟨n - 1, by omega, y + 1, ws2, s2, M2, k + 1 + W, by omega, rfl, hM2, hnext, hl2, hw2, hz2, by rw [Nat.add_mul, Nat.one_mul]; omega, hok2, H⟩
            · rw [hrow] at hnext
              exact hbad e ws2 s2 M2 h4 k2 hM2 (runG_err hnext _ (by omega)) hl2 hk2 hok2 H
        · rw [hst] at hnext
          simp only at hnext
          have H3 := H.putS (hSw s M hM) H' (hSw s' M' hM')
          exact hbad e ws s' M' h3 (k + 1) hM' (runG_err hnext _ (by omega)) hlw (by omega) hok' H3
    | false =>
      simp only at hnext
      refine ldB_of (hpA H 0 rfl rfl) ?_
      refine bcase_false rfl ?_
      refine grow_ok hSw hdec hb ht hM H hlw hs hl hww hzz hy hok (by omega) (fun ws2 s2 M2 h4 hM2 hrow hl2 hw2 hz2 hok2 H => ?_) fun e ws2 s2 M2 h4 k2 hM2 hrow hl2 hk2 hok2 H => ?_
      · rw [hrow] at hnext
        refine bindI_of (((y + 1 : Nat) : Int)) (by exact i64_at _ _ (by omega) (by omega) (by omega)) ?_
        exact ⟨n - 1, by omega, y + 1, ws2, s2, M2, k + W, by omega, rfl, hM2, hnext, hl2, hw2, hz2, by rw [Nat.add_mul, Nat.one_mul]; omega, hok2, H⟩
      · rw [hrow] at hnext
        exact hbad e ws2 s2 M2 h4 k2 hM2 (runG_err hnext _ (by omega)) hl2 hk2 hok2 H
  · obtain rfl : X = y := by omega
    exact hgood ws s M h k hM hrun hlw hww hzz hky hok H

/-! ### caught -/
theorem gcatch_idle {h : Heap} {r : Nat} {Kd : FrameMode → Heap → Prop} {Kdp : FrameMode → List PanicEntry → Heap → Prop} (hk : Kd .returning h) : DCalls Go.Proofs.Tryz.prog F_generic_caught_c1 #[.pointer (some ⟨r, 0, none⟩)] .returning h Kd Kdp :=
  dcall_generic_caught_c1 (cap0 := ⟨r, 0, none⟩) (by unfold generic_caught_c1 recD; exact hk)
theorem gcatch {h0 h : Heap} {FF : List Nat} {L : List Ent} {r : Nat} {K : Value → Heap → Prop} {Kp : List PanicEntry → Heap → Prop} {e x : Int} (H : Hp h0 FF h ([⟨r, true, T_api_Errno, [.int .i64 x]⟩] ++ L)) (hk : ∀ h', Hp h0 FF h' L → K (.int .i64 e) h') :
    leaveD (DCalls Go.Proofs.Tryz.prog) (fun h => ldI h ⟨r, 0, none⟩ .i64 fun v => K (.int .i64 v) h) Kp [{ target := .fn (.func F_generic_caught_c1) #[.pointer (some ⟨r, 0, none⟩)], args := #[] }] (.panicking [{ v := .iface T_generic_fault (.agg #[.int .i64 e]), recovered := false }]) h := by
  show DCalls Go.Proofs.Tryz.prog F_generic_caught_c1 #[.pointer (some ⟨r, 0, none⟩)] _ h _ _
  refine dcall_generic_caught_c1 (cap0 := ⟨r, 0, none⟩) ?_
  unfold generic_caught_c1
  refine recD_iface ?_
  refine bcase_true (by decide) ?_
  refine ⟨e, rfl, ?_⟩
  refine newC_hp H fun r6 h H => ?_
  have H := H.rot
  refine stA H 0 rfl rfl rfl fun h H => ?_
  refine ldI_of (hpA H 0 rfl rfl) ?_
  refine st0 H 1 rfl rfl rfl fun h H => ?_
  show ldI h ⟨r, 0, none⟩ .i64 _
  refine ldI_of (H.cell 1 rfl rfl) ?_
  have H : Hp h0 FF h ([⟨r6, true, T_generic_fault, [.int .i64 e]⟩, ⟨r, true, T_api_Errno, [.int .i64 e]⟩] ++ L) := H
  exact hk h (Hp.suf H)
theorem caught_ok {h0 h : Heap} {FF : List Nat} {L : List Ent} {run : Value} {K : Value → Heap → Prop} {Kp : List PanicEntry → Heap → Prop} (Post : List Ent → Prop) (PostB : Int → List Ent → Prop) (H : Hp h0 FF h L)
    (hrun : ∀ {r : Nat} {h1 : Heap} {K1 : Value → Heap → Prop} {Kp1 : List PanicEntry → Heap → Prop}, Hp h0 FF h1 ([⟨r, true, T_api_Errno, [.int .i64 0]⟩] ++ L) → (∀ h2 L2, Post L2 → Hp h0 FF h2 ([⟨r, true, T_api_Errno, [.int .i64 0]⟩] ++ L2) → K1 (.tuple #[]) h2) →
      (∀ e h2 L2, PostB e L2 → Hp h0 FF h2 ([⟨r, true, T_api_Errno, [.int .i64 0]⟩] ++ L2) → Kp1 [{ v := .iface T_generic_fault (.agg #[.int .i64 e]), recovered := false }] h2) → callD (CallsHP Go.Proofs.Tryz.prog) Kp1 run [] h1 K1)
    (hk0 : ∀ h' L', Post L' → Hp h0 FF h' L' → K (.int .i64 0) h') (hke : ∀ e h' L', PostB e L' → Hp h0 FF h' L' → K (.int .i64 e) h') : CP F_generic_caught #[run] h K Kp := by
  refine call_generic_caught ?_
  unfold generic_caught
  refine newC_hp H fun r1 h H => ?_
  have H := H.rot
  refine hrun H (fun h2 L2 hp H => ?_) fun e h2 L2 hp H => ?_
  · refine st0 H 0 rfl rfl rfl fun h H => ?_
    show DCalls Go.Proofs.Tryz.prog F_generic_caught_c1 #[.pointer (some ⟨r1, 0, none⟩)] .returning h _ _
    refine gcatch_idle ?_
    show ldI h ⟨r1, 0, none⟩ .i64 _
    refine ldI_of (H.cell 0 rfl rfl) ?_
    have H : Hp h0 FF h ([⟨r1, true, T_api_Errno, [.int .i64 0]⟩] ++ L2) := H
    exact hk0 h L2 hp (Hp.suf H)
  · exact gcatch H fun h' H => hke e h' L2 hp H
end Go.Bm

/- GnE: generic.Put and generic.Get. -/
set_option linter.unusedVariables false
set_option linter.unusedSimpArgs false
namespace Go.Bm
open Go Go.Den Go.Den.YtfaclehehhgpcaaGreat
open Go.Ar (Cod CodOk Dec codL decL BOk idx putM_ok getD_ok getD_bit)

def fvC (p : Nat) : Value := .iface T_generic_coding (.agg #[.pointer (at0 p)])
def fvD (p : Nat) : Value := .iface T_generic_decoding (.agg #[.pointer (at0 p)])
theorem inv_coding {x : Value} {args : List Value} {h : Heap} {K : Value → Heap → Prop} {Kp : List PanicEntry → Heap → Prop} (H : CallsHP Go.Proofs.Tryz.prog F_generic_coding_decide (x :: args).toArray h K Kp) :
    invokeD Go.Proofs.Tryz.prog (CallsHP Go.Proofs.Tryz.prog) (.iface T_generic_coding x) "burin/generic.decide" args h K Kp := by
  have hm : methD Go.Proofs.Tryz.prog T_generic_coding "burin/generic.decide" = some F_generic_coding_decide := by kernel_rfl
  unfold invokeD
  simp only [hm]
  exact H
theorem inv_decoding {x : Value} {args : List Value} {h : Heap} {K : Value → Heap → Prop} {Kp : List PanicEntry → Heap → Prop} (H : CallsHP Go.Proofs.Tryz.prog F_generic_decoding_decide (x :: args).toArray h K Kp) :
    invokeD Go.Proofs.Tryz.prog (CallsHP Go.Proofs.Tryz.prog) (.iface T_generic_decoding x) "burin/generic.decide" args h K Kp := by
  have hm : methD Go.Proofs.Tryz.prog T_generic_decoding "burin/generic.decide" = some F_generic_decoding_decide := by kernel_rfl
  unfold invokeD
  simp only [hm]
  exact H
def codS (p q : Nat) (s : Cod) (M : List Ent) : Prop := ∃ r rest, M = codL p q r s rest
def decS (p q : Nat) (e : Ent) (bp : Option Addr) (bc : Nat) (s : Dec) (M : List Ent) : Prop := BOk e bp s.b ∧ M = decL p q e bp bc s
theorem codS.w {p q : Nat} : ∀ s M, codS p q s M → M.all Ent.w = true := fun s M ⟨r, rest, h⟩ => by subst h; rfl
theorem decS.w {p q : Nat} {e : Ent} {bp : Option Addr} {bc : Nat} : ∀ s M, decS p q e bp bc s M → M.all Ent.w = true := fun s M ⟨h1, h⟩ => by subst h; simp [decL, Go.Ar.decE, h1.1]

set_option maxRecDepth 100000 in
theorem codI_ok {p q m n0 NN : Nat} {base : Int} (hb : 0 ≤ base ∧ base ≤ 131072) (hm1 : 1 ≤ m) (hm2 : m ≤ 131072) (hN : n0 + NN ≤ 16777216) : DecOkI NN base (codS p q) (fun k s => CodOk m (n0 + k) s) (stepP m base) (fvC p) := by
  refine ⟨⟨_, _, rfl⟩, ?_⟩
  intro h0 h FF s n bit K Kp M k hok hk hn hM H hgood hbad
  obtain ⟨r, rest, rfl⟩ := hM
  refine inv_coding ?_
  refine call_generic_coding_decide ?_
  unfold generic_coding_decide
  refine newC_hp H fun r2 h H => ?_
  refine ldP_of (hpA H 3 rfl rfl) ?_
  refine Go.Ar.put_ok (bit := bit.toNat) (H.give [0, 1, 2] (by decide) rfl) hok.wf hok.done (by rw [hok.n]; omega) (by rw [hok.len]; exact hm1) (by rw [hok.len]; exact hm2) (toNat_le _) fun r3 rest3 h' H' => ?_
  replace H := H.put [0, 1, 2] (by decide) rfl rfl H' rfl rfl
  clear H'
  refine ⟨_, rfl, ?_⟩
  refine bcase_false (by rfl) ?_
  rw [hok.len] at H
  exact hgood bit _ _ h' rfl (putM_ok hok _ _ (by omega)) ⟨r3, rest3, rfl⟩ (H.take 3)
set_option maxRecDepth 100000 in
theorem decI_ok {p q m n0 NN : Nat} {e : Ent} {bp : Option Addr} {bc : Nat} {base : Int} {bytes : List Nat} (hbl : bytes.length < 140737488351300) (hb : 0 ≤ base ∧ base ≤ 131072) (hm1 : 1 ≤ m) (hm2 : m ≤ 131072) (hN : n0 + NN ≤ 16777216) :
    DecOkI NN base (decS p q e bp bc) (fun k s => Go.Ar.DecOk bytes m (n0 + k) s) (stepG m base) (fvD p) := by
  refine ⟨⟨_, _, rfl⟩, ?_⟩
  intro h0 h FF s n bit K Kp M k hok hk hn hM H hgood hbad
  obtain ⟨hbok, rfl⟩ := hM
  refine inv_decoding ?_
  refine call_generic_decoding_decide ?_
  unfold generic_decoding_decide
  refine newC_hp H fun r2 h H => ?_
  refine ldP_of (hpA H 3 rfl rfl) ?_
  refine Go.Ar.get_ok (H.give [0, 1, 2] (by decide) rfl) hbok hok.wf (by rw [hok.b]; exact hbl) (by rw [hok.n]; omega) (by rw [hok.len]; exact hm1) (by rw [hok.len]; exact hm2) fun h' H' => ?_
  have hbw := hbok.1
  replace H := H.put [0, 1, 2] (by decide) rfl (by simp [decL, Go.Ar.decE, hbw]) H' (by simp [decL, Go.Ar.decE, hbw]) rfl
  clear H'
  refine ⟨_, _, rfl, ?_⟩
  refine bcase_false (by rfl) ?_
  rw [hok.len] at H ⊢
  have hbit := getD_bit (s := s) (idx (base + (n : Int)) m)
  have hbn := (Go.Ar.getD_n s (idx (base + (n : Int)) m)).2.2
  have e1 : (Go.Ar.getD s (idx (base + (n : Int)) m)).2 = (decide ((Go.Ar.getD s (idx (base + (n : Int)) m)).2 = 1)).toNat := by
    by_cases h1 : (Go.Ar.getD s (idx (base + (n : Int)) m)).2 = 1
    · rw [decide_eq_true h1, h1]; rfl
    · rw [decide_eq_false h1]; show _ = 0; omega
  rw [e1]
  exact hgood _ _ _ h' rfl (getD_ok hok _ (by omega)) ⟨by rw [hbn]; exact hbok, rfl⟩ (H.take 3)
theorem gfits_ok {h : Heap} {base many all : Int} (ha : -1000000000000 ≤ all ∧ all < 1000000000000) (hm : -1000000000000 ≤ many ∧ many < 1000000000000) {K : Value → Heap → Prop} {Kp : List PanicEntry → Heap → Prop} (hk : ∀ b : Bool, (b = true ↔ 0 ≤ base ∧ base ≤ all - many) → K (.bool b) h) : CP F_generic_fits #[.int .i64 base, .int .i64 many, .int .i64 all] h K Kp := by
  refine call_generic_fits ?_
  unfold generic_fits
  refine bcase_dec (fun h1 => ?_) fun h1 => hk false (by simp; omega)
  refine bindI_of ((all - many)) (by exact i64_in _ (by omega) (by omega)) ?_
  exact hk _ (by simp; omega)
set_option maxRecDepth 100000 in
set_option maxHeartbeats 2000000 in
theorem gput_ok {h0 h : Heap} {FF : List Nat} {p q r m NN : Nat} {s : Cod} {rest : List Value} {Ok : Nat → Cod → Prop} {step : Cod → Nat → Bool → (Bool × Cod) ⊕ (Int × Cod)} (H : Hp h0 FF h (codL p q r s rest)) (hm : s.st.length = m) (hm2 : m ≤ 131072) {base template : Int}
    {w b : Int} {q1 : Option Addr} {c1 : Nat} {ws : List Nat} {skip : Bool} (hr1 : ∀ h', hext h h' → rdO h' q1 (ws.length * 1) (u64s ws)) (hw1 : W64 ws) (hl1 : ws.length < 140737488351300)
    (hdec : MayP w b ws → 0 ≤ base ∧ base ≤ 131072 → DecOkI NN base (codS p q) Ok step (fvC p)) (hok : Ok 0 s) (hNN : MayP w b ws → b.toNat * (w.toNat + 1) ≤ NN) {K : Value → Heap → Prop} {Kp : List PanicEntry → Heap → Prop}
    (hk60 : ∀ h', ¬ (0 ≤ template ∧ template < 4) → Hp h0 FF h' (codL p q r s rest) → K (.int .i64 60) h')
    (hk62 : ∀ h', (0 ≤ template ∧ template < 4) → ¬ MayP w b ws → Hp h0 FF h' (codL p q r s rest) → K (.int .i64 62) h')
    (hk51 : ∀ h', (0 ≤ template ∧ template < 4) → MayP w b ws → ¬ (0 ≤ base ∧ base ≤ (m : Int) - ((gsize template.toNat : Nat) + 1)) → Hp h0 FF h' (codL p q r s rest) → K (.int .i64 51) h')
    (hk0 : ∀ G s' k r' rest' h', (0 ≤ template ∧ template < 4) → MayP w b ws → (0 ≤ base ∧ base ≤ (m : Int) - ((gsize template.toNat : Nat) + 1)) → runG w.toNat template.toNat skip step b.toNat (getP ws w.toNat b.toNat, s) = .inl (G, s') → k ≤ b.toNat * (w.toNat + 1) → Ok k s' →
      Hp h0 FF h' (codL p q r' s' rest') → K (.int .i64 0) h')
    (hke : ∀ e s' k r' rest' h', (0 ≤ template ∧ template < 4) → MayP w b ws → (0 ≤ base ∧ base ≤ (m : Int) - ((gsize template.toNat : Nat) + 1)) → runG w.toNat template.toNat skip step b.toNat (getP ws w.toNat b.toNat, s) = .inr (e, s') → k ≤ NN → Ok k s' →
      Hp h0 FF h' (codL p q r' s' rest') → K (.int .i64 e) h') :
    CP F_generic_Put #[.pointer (at0 p), .int .i64 base, .agg #[.int .i64 w, .int .i64 b, .slice q1 ws.length c1], .int .i64 template, .bool skip] h K Kp := by
  refine call_generic_Put ?_
  unfold generic_Put
  have HC := H
  clear H
  have H := Hp.nil h []
  refine newC_hp H fun r4 h H => ?_
  refine bcase_false (by rfl) ?_
  refine csize_ok (fun t ht et h2 e2 => ?_) fun hn h2 e2 => ?_
  · have H := H.ext e2
    clear e2
    subst et
    have htt : 0 ≤ ((t : Nat) : Int) ∧ ((t : Nat) : Int) < 4 := by omega
    simp only [Int.toNat_natCast] at hk51 hk0 hke
    have hgs := gsize_le ht
    refine ⟨_, _, rfl, ?_⟩
    refine newC_hp H fun r10 h H => ?_
    repeat first | with_reducible refine stA H 0 (by with_unfolding_all exact rfl) (by with_unfolding_all exact rfl) (by with_unfolding_all exact rfl) fun h H => ?_ | with_reducible refine stA H 1 (by with_unfolding_all exact rfl) (by with_unfolding_all exact rfl) (by with_unfolding_all exact rfl) fun h H => ?_ | with_reducible refine st0 H 0 (by with_unfolding_all exact rfl) (by with_unfolding_all exact rfl) (by with_unfolding_all exact rfl) fun h H => ?_ | with_reducible refine st0 H 1 (by with_unfolding_all exact rfl) (by with_unfolding_all exact rfl) (by with_unfolding_all exact rfl) fun h H => ?_ | with_reducible refine stB H 0 (by with_unfolding_all exact rfl) (by with_unfolding_all exact rfl) (by with_unfolding_all exact rfl) fun h H => ?_ | with_reducible refine stB H 1 (by with_unfolding_all exact rfl) (by with_unfolding_all exact rfl) (by with_unfolding_all exact rfl) fun h H => ?_
    refine bcase_false (by rfl) ?_
    repeat first | with_reducible refine ldI_of (by with_unfolding_all first | exact hpA H 0 rfl rfl | exact hpA H 1 rfl rfl | exact Hp.cell H 0 rfl rfl | exact Hp.cell H 1 rfl rfl | exact hpB H 0 rfl rfl | exact hpB H 1 rfl rfl | exact hpC H 0 rfl rfl | exact hpC H 1 rfl rfl) ?_ | with_reducible refine ldS_of (by with_unfolding_all first | exact hpA H 0 rfl rfl | exact hpA H 1 rfl rfl | exact Hp.cell H 0 rfl rfl | exact Hp.cell H 1 rfl rfl | exact hpB H 0 rfl rfl | exact hpB H 1 rfl rfl | exact hpC H 0 rfl rfl | exact hpC H 1 rfl rfl) ?_ | with_reducible refine ldP_of (by with_unfolding_all first | exact hpA H 0 rfl rfl | exact hpA H 1 rfl rfl | exact Hp.cell H 0 rfl rfl | exact Hp.cell H 1 rfl rfl | exact hpB H 0 rfl rfl | exact hpB H 1 rfl rfl | exact hpC H 0 rfl rfl | exact hpC H 1 rfl rfl) ?_ | with_reducible refine ldB_of (by with_unfolding_all first | exact hpA H 0 rfl rfl | exact hpA H 1 rfl rfl | exact Hp.cell H 0 rfl rfl | exact Hp.cell H 1 rfl rfl | exact hpB H 0 rfl rfl | exact hpB H 1 rfl rfl | exact hpC H 0 rfl rfl | exact hpC H 1 rfl rfl) ?_ | with_reducible refine ldT_of (by with_unfolding_all first | exact hpA H 0 rfl rfl | exact hpA H 1 rfl rfl | exact Hp.cell H 0 rfl rfl | exact Hp.cell H 1 rfl rfl | exact hpB H 0 rfl rfl | exact hpB H 1 rfl rfl | exact hpC H 0 rfl rfl | exact hpC H 1 rfl rfl) ?_
    refine from_ok (hr1 _ H.hext) hw1 hl1 (fun W X pm qm mrest h5 hwW hbX hmay H' => ?_) fun h5 hmay e5 => ?_
    · subst hwW hbX
      have H := H.join H' rfl
      clear H'
      refine ⟨_, _, rfl, ?_⟩
      refine bcase_false (by rfl) ?_
      refine ptr_of (a := ⟨p, 0, none⟩) ?_
      repeat first | with_reducible refine ldI_of (by with_unfolding_all first | exact hpA H 0 rfl rfl | exact hpA H 1 rfl rfl | exact Hp.cell H 0 rfl rfl | exact Hp.cell H 1 rfl rfl | exact hpB H 0 rfl rfl | exact hpB H 1 rfl rfl | exact hpC H 0 rfl rfl | exact hpC H 1 rfl rfl) ?_ | with_reducible refine ldS_of (by with_unfolding_all first | exact hpA H 0 rfl rfl | exact hpA H 1 rfl rfl | exact Hp.cell H 0 rfl rfl | exact Hp.cell H 1 rfl rfl | exact hpB H 0 rfl rfl | exact hpB H 1 rfl rfl | exact hpC H 0 rfl rfl | exact hpC H 1 rfl rfl) ?_ | with_reducible refine ldP_of (by with_unfolding_all first | exact hpA H 0 rfl rfl | exact hpA H 1 rfl rfl | exact Hp.cell H 0 rfl rfl | exact Hp.cell H 1 rfl rfl | exact hpB H 0 rfl rfl | exact hpB H 1 rfl rfl | exact hpC H 0 rfl rfl | exact hpC H 1 rfl rfl) ?_ | with_reducible refine ldB_of (by with_unfolding_all first | exact hpA H 0 rfl rfl | exact hpA H 1 rfl rfl | exact Hp.cell H 0 rfl rfl | exact Hp.cell H 1 rfl rfl | exact hpB H 0 rfl rfl | exact hpB H 1 rfl rfl | exact hpC H 0 rfl rfl | exact hpC H 1 rfl rfl) ?_ | with_reducible refine ldT_of (by with_unfolding_all first | exact hpA H 0 rfl rfl | exact hpA H 1 rfl rfl | exact Hp.cell H 0 rfl rfl | exact Hp.cell H 1 rfl rfl | exact hpB H 0 rfl rfl | exact hpB H 1 rfl rfl | exact hpC H 0 rfl rfl | exact hpC H 1 rfl rfl) ?_
      refine bindI_of (((gsize t + 1 : Nat) : Int)) (by exact i64_at _ _ (by omega) (by omega) (by omega)) ?_
      refine Go.Ar.contexts_ok (n := s.st.length) (HC.ext H.hext) 0 rfl ?_
      refine ⟨_, rfl, hext.refl _, ?_⟩
      rw [hm]
      refine gfits_ok (by omega) (by omega) fun bf hbf => ?_
      refine ⟨_, rfl, ?_⟩
      refine bcase_not (fun h2 => ?_) fun h2 => ?_
      · exact hk51 _ htt hmay (fun hh => by rw [hbf.2 (by omega)] at h2; cases h2) (HC.ext H.hext)
      have hft := hbf.1 h2
      have hft2 : 0 ≤ base ∧ base ≤ (m : Int) - ((gsize t : Nat) + 1) := by omega
      refine newC_hp H fun r29 h H => ?_
      refine newC_hp H fun r31 h H => ?_
      repeat first | with_reducible refine stA H 5 (by with_unfolding_all exact rfl) (by with_unfolding_all exact rfl) (by with_unfolding_all exact rfl) fun h H => ?_ | with_reducible refine st0 H 5 (by with_unfolding_all exact rfl) (by with_unfolding_all exact rfl) (by with_unfolding_all exact rfl) fun h H => ?_ | with_reducible refine stB H 5 (by with_unfolding_all exact rfl) (by with_unfolding_all exact rfl) (by with_unfolding_all exact rfl) fun h H => ?_
      have H := (HC.join H rfl).pick [8, 4, 7, 5, 6, 0, 1, 2] (by decide) (L' := [⟨r31, true, T_p_generic_procedure, [.pointer (some ⟨r29, 0, none⟩)]⟩, ⟨r10, true, T_int, [.int .i64 (gsize t : Nat)]⟩, procE r29 pm (fvC p) base t skip, mapE pm qm W X ws.length (ws.length + mrest.length), ⟨qm, true, T_uint64, u64s ws ++ mrest⟩] ++ codL p q r s rest) rfl
      obtain ⟨W', X', e1, e2, hW1, hW2, hX1, hX2, hWX⟩ := size_nat hmay.1
      obtain rfl : W = W' := by omega
      obtain rfl : X = X' := by omega
      clear e1 e2
      have hNN' := hNN hmay
      simp only [Int.toNat_natCast] at hNN' hk0 hke
      refine caught_ok (fun L2 => ∃ G s' k r' rest' ws', runG W t skip step X (getP ws W X, s) = .inl (G, s') ∧ k ≤ X * (W + 1) ∧ Ok k s' ∧ L2 = [⟨r31, true, T_p_generic_procedure, [.pointer (some ⟨r29, 0, none⟩)]⟩, ⟨r10, true, T_int, [.int .i64 (gsize t : Nat)]⟩, procE r29 pm (fvC p) base t skip, mapE pm qm W X ws.length (ws.length + mrest.length), ⟨qm, true, T_uint64, u64s ws' ++ mrest⟩] ++ codL p q r' s' rest')
        (fun e L2 => ∃ s' k r' rest' ws', runG W t skip step X (getP ws W X, s) = .inr (e, s') ∧ k ≤ NN ∧ Ok k s' ∧ L2 = [⟨r31, true, T_p_generic_procedure, [.pointer (some ⟨r29, 0, none⟩)]⟩, ⟨r10, true, T_int, [.int .i64 (gsize t : Nat)]⟩, procE r29 pm (fvC p) base t skip, mapE pm qm W X ws.length (ws.length + mrest.length), ⟨qm, true, T_uint64, u64s ws' ++ mrest⟩] ++ codL p q r' s' rest')
        H (fun {r1 h1 K1 Kp1} H hK hKp => ?_) (fun h' L' hp H => ?_) fun e h' L' hp H => ?_
      · show CP F_generic_Put_c1 #[.pointer (some ⟨r31, 0, none⟩), .pointer (some ⟨r10, 0, none⟩)] h1 K1 Kp1
        refine call_generic_Put_c1 (cap0 := ⟨r31, 0, none⟩) (cap1 := ⟨r10, 0, none⟩) ?_
        unfold generic_Put_c1
        refine ldP_of (H.cell 1 rfl rfl) (ldI_of (H.cell 2 rfl rfl) ?_)
        have HG : Hp h1 _ h1 ([procE r29 pm (fvC p) base t skip, mapE pm qm W X ws.length (ws.length + mrest.length), ⟨qm, true, T_uint64, u64s ws ++ mrest⟩] ++ codL p q r s rest) := H.give [3, 4, 5, 6, 7, 8] (by decide) rfl
        refine grun_ok (S := codS p q) (NN := NN) codS.w (hdec hmay ⟨by omega, by omega⟩) ⟨by omega, by omega⟩ ht ⟨r, rest, rfl⟩ HG rfl rfl hmay.1 (may_len hmay) hw1 (fun y hy x h1 h2 => pix_of_may hmay hy h1 h2) hok hNN' (fun ws' s' M h' k hM hrun hl' hw' hz' hk hok' H' => ?_) fun e ws' s' M h' k hM hrun hl' hk hok' H' => ?_
        · obtain ⟨r', rest', rfl⟩ := hM
          have H := H.put [3, 4, 5, 6, 7, 8] (by decide) rfl rfl H' rfl rfl
          exact hK h' _ ⟨_, s', k, r', rest', ws', hrun, hk, hok', rfl⟩ H
        · obtain ⟨r', rest', rfl⟩ := hM
          have H := H.put [3, 4, 5, 6, 7, 8] (by decide) rfl rfl H' rfl rfl
          exact hKp e h' _ ⟨s', k, r', rest', ws', hrun, hk, hok', rfl⟩ H
      · obtain ⟨G, s', k, r', rest', ws', hrun, hk, hok', rfl⟩ := hp
        refine ⟨_, rfl, ?_⟩
        exact hk0 G s' k r' rest' h' htt hmay hft2 hrun hk hok' (Hp.suf H)
      · obtain ⟨s', k, r', rest', ws', hrun, hk, hok', rfl⟩ := hp
        refine ⟨_, rfl, ?_⟩
        exact hke e s' k r' rest' h' htt hmay hft2 hrun hk hok' (Hp.suf H)
    · have H := H.ext e5
      refine ⟨_, _, rfl, ?_⟩
      refine bcase_true (by rfl) ?_
      exact hk62 _ htt hmay (HC.ext H.hext)
  · have H := H.ext e2
    refine ⟨_, _, rfl, ?_⟩
    refine newC_hp H fun r10 h H => ?_
    repeat first | with_reducible refine stA H 0 (by with_unfolding_all exact rfl) (by with_unfolding_all exact rfl) (by with_unfolding_all exact rfl) fun h H => ?_ | with_reducible refine stA H 1 (by with_unfolding_all exact rfl) (by with_unfolding_all exact rfl) (by with_unfolding_all exact rfl) fun h H => ?_ | with_reducible refine st0 H 0 (by with_unfolding_all exact rfl) (by with_unfolding_all exact rfl) (by with_unfolding_all exact rfl) fun h H => ?_ | with_reducible refine st0 H 1 (by with_unfolding_all exact rfl) (by with_unfolding_all exact rfl) (by with_unfolding_all exact rfl) fun h H => ?_ | with_reducible refine stB H 0 (by with_unfolding_all exact rfl) (by with_unfolding_all exact rfl) (by with_unfolding_all exact rfl) fun h H => ?_ | with_reducible refine stB H 1 (by with_unfolding_all exact rfl) (by with_unfolding_all exact rfl) (by with_unfolding_all exact rfl) fun h H => ?_
    refine bcase_true (by rfl) ?_
    exact hk60 _ hn (HC.ext H.hext)
end Go.Bm

/- GnF: generic.Get, Encode, Decode. -/
set_option linter.unusedVariables false
set_option linter.unusedSimpArgs false
namespace Go.Bm
open Go Go.Den Go.Den.YtfaclehehhgpcaaGreat
open Go.Ar (CodOk Dec decL BOk newC newC_ok flushM bytesM u8s)

section
variable {σ : Type} {step : σ → Nat → Bool → (Bool × σ) ⊕ (Int × σ)}
theorem rowG_inl (h : ∀ s n b, ∃ r, step s n b = .inl r) (t y : Nat) (g : (Int → Int → Bool) × σ) : ∀ k, ∃ g', rowG t step y k g = .inl g'
  | 0 => ⟨_, rfl⟩
  | k + 1 => by
    obtain ⟨⟨G, s⟩, hg⟩ := rowG_inl h t y g k
    obtain ⟨⟨b, s'⟩, hr⟩ := h s (gctx t G (k : Int) (y : Int)) (G (k : Int) (y : Int))
    unfold rowG
    rw [hg]
    simp only [hr]
    exact ⟨_, rfl⟩
theorem runG_inl (h : ∀ s n b, ∃ r, step s n b = .inl r) (W t : Nat) (skip : Bool) (g : (Int → Int → Bool) × σ) : ∀ y, ∃ g', runG W t skip step y g = .inl g'
  | 0 => ⟨_, rfl⟩
  | y + 1 => by
    obtain ⟨⟨G, s⟩, hg⟩ := runG_inl h W t skip g y
    unfold runG
    rw [hg]
    cases skip with
    | false => exact rowG_inl h t y (G, s) W
    | true =>
      obtain ⟨⟨b, s'⟩, hr⟩ := h s (gsize t) (sameB G W y)
      simp only [hr]
      cases b with
      | true => exact ⟨_, rfl⟩
      | false => exact rowG_inl h t y (G, s') W
end
def GGetR (bytes : List Nat) (m n0 : Nat) (base w b template : Int) (skip : Bool) (s : Dec) (e w' b' : Int) (bs : List Nat) (s' : Dec) : Prop :=
  ¬ (0 ≤ template ∧ template < 4) ∧ e = 60 ∧ w' = 0 ∧ b' = 0 ∧ bs = [] ∧ s' = s ∨
  (0 ≤ template ∧ template < 4) ∧ ¬ SizeP w b ∧ e = 63 ∧ w' = 0 ∧ b' = 0 ∧ bs = [] ∧ s' = s ∨
  (0 ≤ template ∧ template < 4) ∧ SizeP w b ∧ ¬ (0 ≤ base ∧ base ≤ (m : Int) - ((gsize template.toNat : Nat) + 1)) ∧ e = 51 ∧ w' = 0 ∧ b' = 0 ∧ bs = [] ∧ s' = s ∨
  (0 ≤ template ∧ template < 4) ∧ SizeP w b ∧ (0 ≤ base ∧ base ≤ (m : Int) - ((gsize template.toNat : Nat) + 1)) ∧ e = 0 ∧ w' = w ∧ b' = b ∧ runG w.toNat template.toNat skip (stepG m base) b.toNat (fun _ _ => false, s) = .inl (getP bs w.toNat b.toNat, s') ∧
    bs.length = b.toNat * wds w.toNat ∧ W64 bs ∧ PadZ w.toNat b.toNat bs ∧ ∃ k, k ≤ b.toNat * (w.toNat + 1) ∧ Go.Ar.DecOk bytes m (n0 + k) s'

set_option maxRecDepth 100000 in
set_option maxHeartbeats 2000000 in
theorem gget_ok {h0 hA : Heap} {FF : List Nat} {p q m n0 : Nat} {e0 : Ent} {bp : Option Addr} {bc : Nat} {s : Dec} {bytes : List Nat} (HC : Hp h0 FF hA (decL p q e0 bp bc s)) (hb : BOk e0 bp s.b) (hbl : bytes.length < 140737488351300) (hc : Go.Ar.DecOk bytes m n0 s) (hm1 : 1 ≤ m) (hm2 : m ≤ 131072) {base w b template : Int} {skip : Bool}
    (hN : SizeP w b → n0 + b.toNat * (w.toNat + 1) ≤ 16777216) {K : Value → Heap → Prop} {Kp : List PanicEntry → Heap → Prop}
    (hk : ∀ e w' b' bs s' D qo c h', GGetR bytes m n0 base w b template skip s e w' b' bs s' → Slot T_uint64 1 D qo bs.length c (u64s bs) → Hp h0 FF h' (decL p q e0 bp bc s' ++ D) → K (.tuple #[.agg #[.int .i64 w', .int .i64 b', .slice qo bs.length c], .int .i64 e]) h') :
    CP F_generic_Get #[.pointer (at0 p), .int .i64 base, .int .i64 w, .int .i64 b, .int .i64 template, .bool skip] hA K Kp := by
  refine call_generic_Get ?_
  unfold generic_Get
  have hew := hb.1
  have H := Hp.nil hA []
  refine newC_hp H fun r1 h H => ?_
  refine bcase_false (by rfl) ?_
  have bad : ∀ (e : Int) (h' : Heap) (T : List Ent), hext hA h' → (∀ h', hext hA h' → K (.tuple #[.agg #[.int .i64 0, .int .i64 0, .slice none 0 0], .int .i64 e]) h') → Hp hA [] h' ([⟨r1, true, T_api_Bitmap, [.int .i64 0, .int .i64 0, .slice none 0 0]⟩] ++ T) →
      stV h' ((⟨r1, 0, none⟩ : Addr).add 0) (.int .i64 0) fun h_13 => stV h_13 ((⟨r1, 0, none⟩ : Addr).add 1) (.int .i64 0) fun h_14 => stV h_14 ((⟨r1, 0, none⟩ : Addr).add 2) (.slice none 0 0) fun h_15 =>
        ldI h_15 ((⟨r1, 0, none⟩ : Addr).add 0) .i64 fun r_16 => ldI h_15 ((⟨r1, 0, none⟩ : Addr).add 1) .i64 fun r_17 => ldS h_15 ((⟨r1, 0, none⟩ : Addr).add 2) fun r_18 r_18n r_18c =>
          K (.tuple #[.agg #[.int .i64 r_16, .int .i64 r_17, .slice r_18 r_18n r_18c], .int .i64 e]) h_15 := fun e h' T _ hk H => by
    repeat first | with_reducible refine ldI_of (by with_unfolding_all first | exact hpA H 0 rfl rfl | exact Hp.cell H 0 rfl rfl | exact hpB H 0 rfl rfl | exact hpC H 0 rfl rfl) ?_ | with_reducible refine ldS_of (by with_unfolding_all first | exact hpA H 0 rfl rfl | exact Hp.cell H 0 rfl rfl | exact hpB H 0 rfl rfl | exact hpC H 0 rfl rfl) ?_ | with_reducible refine ldP_of (by with_unfolding_all first | exact hpA H 0 rfl rfl | exact Hp.cell H 0 rfl rfl | exact hpB H 0 rfl rfl | exact hpC H 0 rfl rfl) ?_ | with_reducible refine ldB_of (by with_unfolding_all first | exact hpA H 0 rfl rfl | exact Hp.cell H 0 rfl rfl | exact hpB H 0 rfl rfl | exact hpC H 0 rfl rfl) ?_ | with_reducible refine ldT_of (by with_unfolding_all first | exact hpA H 0 rfl rfl | exact Hp.cell H 0 rfl rfl | exact hpB H 0 rfl rfl | exact hpC H 0 rfl rfl) ?_ | with_reducible refine stA H 0 (by with_unfolding_all exact rfl) (by with_unfolding_all exact rfl) (by with_unfolding_all exact rfl) fun h H => ?_ | with_reducible refine st0 H 0 (by with_unfolding_all exact rfl) (by with_unfolding_all exact rfl) (by with_unfolding_all exact rfl) fun h H => ?_ | with_reducible refine stB H 0 (by with_unfolding_all exact rfl) (by with_unfolding_all exact rfl) (by with_unfolding_all exact rfl) fun h H => ?_
    exact hk _ H.hext
  refine csize_ok (fun t ht et h2 e2 => ?_) fun hn h2 e2 => ?_
  · have H := H.ext e2
    clear e2
    subst et
    have htt : 0 ≤ ((t : Nat) : Int) ∧ ((t : Nat) : Int) < 4 := by omega
    have hgs := gsize_le ht
    refine ⟨_, _, rfl, ?_⟩
    refine newC_hp H fun r13 h H => ?_
    repeat first | with_reducible refine stA H 0 (by with_unfolding_all exact rfl) (by with_unfolding_all exact rfl) (by with_unfolding_all exact rfl) fun h H => ?_ | with_reducible refine stA H 1 (by with_unfolding_all exact rfl) (by with_unfolding_all exact rfl) (by with_unfolding_all exact rfl) fun h H => ?_ | with_reducible refine st0 H 0 (by with_unfolding_all exact rfl) (by with_unfolding_all exact rfl) (by with_unfolding_all exact rfl) fun h H => ?_ | with_reducible refine st0 H 1 (by with_unfolding_all exact rfl) (by with_unfolding_all exact rfl) (by with_unfolding_all exact rfl) fun h H => ?_ | with_reducible refine stB H 0 (by with_unfolding_all exact rfl) (by with_unfolding_all exact rfl) (by with_unfolding_all exact rfl) fun h H => ?_ | with_reducible refine stB H 1 (by with_unfolding_all exact rfl) (by with_unfolding_all exact rfl) (by with_unfolding_all exact rfl) fun h H => ?_
    refine bcase_false (by rfl) ?_
    refine newM_ok (fun W X pm qm h5 hwW hbX hsz H' => ?_) fun hns => ?_
    · subst hwW hbX
      have H2 := H'
      unfold mapL at H2
      rw [List.length_replicate] at H2
      clear H'
      have H := H.join H2 rfl
      clear H2
      refine ⟨_, _, rfl, ?_⟩
      refine bcase_false (by rfl) ?_
      refine ptr_of (a := ⟨p, 0, none⟩) ?_
      repeat first | with_reducible refine ldI_of (by with_unfolding_all first | exact hpA H 0 rfl rfl | exact hpA H 1 rfl rfl | exact Hp.cell H 0 rfl rfl | exact Hp.cell H 1 rfl rfl | exact hpB H 0 rfl rfl | exact hpB H 1 rfl rfl | exact hpC H 0 rfl rfl | exact hpC H 1 rfl rfl) ?_ | with_reducible refine ldS_of (by with_unfolding_all first | exact hpA H 0 rfl rfl | exact hpA H 1 rfl rfl | exact Hp.cell H 0 rfl rfl | exact Hp.cell H 1 rfl rfl | exact hpB H 0 rfl rfl | exact hpB H 1 rfl rfl | exact hpC H 0 rfl rfl | exact hpC H 1 rfl rfl) ?_ | with_reducible refine ldP_of (by with_unfolding_all first | exact hpA H 0 rfl rfl | exact hpA H 1 rfl rfl | exact Hp.cell H 0 rfl rfl | exact Hp.cell H 1 rfl rfl | exact hpB H 0 rfl rfl | exact hpB H 1 rfl rfl | exact hpC H 0 rfl rfl | exact hpC H 1 rfl rfl) ?_ | with_reducible refine ldB_of (by with_unfolding_all first | exact hpA H 0 rfl rfl | exact hpA H 1 rfl rfl | exact Hp.cell H 0 rfl rfl | exact Hp.cell H 1 rfl rfl | exact hpB H 0 rfl rfl | exact hpB H 1 rfl rfl | exact hpC H 0 rfl rfl | exact hpC H 1 rfl rfl) ?_ | with_reducible refine ldT_of (by with_unfolding_all first | exact hpA H 0 rfl rfl | exact hpA H 1 rfl rfl | exact Hp.cell H 0 rfl rfl | exact Hp.cell H 1 rfl rfl | exact hpB H 0 rfl rfl | exact hpB H 1 rfl rfl | exact hpC H 0 rfl rfl | exact hpC H 1 rfl rfl) ?_
      refine bindI_of (((gsize t + 1 : Nat) : Int)) (by exact i64_at _ _ (by omega) (by omega) (by omega)) ?_
      refine Go.Ar.contexts_ok (n := s.st.length) (HC.ext H.hext) 0 rfl ?_
      refine ⟨_, rfl, hext.refl _, ?_⟩
      rw [hc.len]
      refine gfits_ok (by omega) (by omega) fun bf hbf => ?_
      refine ⟨_, rfl, ?_⟩
      refine bcase_not (fun h2 => ?_) fun h2 => ?_
      · exact bad 51 _ _ H.hext (fun h' e' => hk 51 0 0 [] s [] none 0 h' (.inr (.inr (.inl ⟨htt, hsz, (fun hh => by rw [hbf.2 (by simp only [Int.toNat_natCast] at hh; omega)] at h2; cases h2), rfl, rfl, rfl, rfl, rfl⟩))) (Slot.nil _ _) ((HC.ext e').as (List.append_nil _).symm)) H
      have hft := hbf.1 h2
      have hft2 : 0 ≤ base ∧ base ≤ (m : Int) - ((gsize t : Nat) + 1) := by omega
      refine newC_hp H fun r47 h H => ?_
      refine newC_hp H fun r49 h H => ?_
      repeat first | with_reducible refine stA H 5 (by with_unfolding_all exact rfl) (by with_unfolding_all exact rfl) (by with_unfolding_all exact rfl) fun h H => ?_ | with_reducible refine st0 H 5 (by with_unfolding_all exact rfl) (by with_unfolding_all exact rfl) (by with_unfolding_all exact rfl) fun h H => ?_ | with_reducible refine stB H 5 (by with_unfolding_all exact rfl) (by with_unfolding_all exact rfl) (by with_unfolding_all exact rfl) fun h H => ?_
      have H := (HC.join H rfl).pick [8, 4, 7, 5, 6, 0, 1, 2, 3] (by decide) (L' := [⟨r49, true, T_p_generic_procedure, [.pointer (some ⟨r47, 0, none⟩)]⟩, ⟨r13, true, T_int, [.int .i64 (gsize t : Nat)]⟩, procE r47 pm (fvD p) base t skip, mapE pm qm W X (X * wds W) (X * wds W), ⟨qm, true, T_uint64, u64s (List.replicate (X * wds W) 0) ++ []⟩] ++ decL p q e0 bp bc s ++ [⟨r1, true, T_api_Bitmap, [.int .i64 0, .int .i64 0, .slice none 0 0]⟩]) rfl
      obtain ⟨W', X', e1, e2, hW1, hW2, hX1, hX2, hWX⟩ := size_nat hsz
      obtain rfl : W = W' := by omega
      obtain rfl : X = X' := by omega
      clear e1 e2
      have hN' := hN hsz
      simp only [Int.toNat_natCast] at hN'
      have hrl : (List.replicate (X * wds W) 0).length = X * wds W := List.length_replicate
      refine caught_ok (fun L2 => ∃ s' k ws', runG W t skip (stepG m base) X (fun _ _ => false, s) = .inl (getP ws' W X, s') ∧ ws'.length = X * wds W ∧ W64 ws' ∧ PadZ W X ws' ∧ k ≤ X * (W + 1) ∧ Go.Ar.DecOk bytes m (n0 + k) s' ∧ BOk e0 bp s'.b ∧ L2 = [⟨r49, true, T_p_generic_procedure, [.pointer (some ⟨r47, 0, none⟩)]⟩, ⟨r13, true, T_int, [.int .i64 (gsize t : Nat)]⟩, procE r47 pm (fvD p) base t skip, mapE pm qm W X (X * wds W) (X * wds W), ⟨qm, true, T_uint64, u64s ws' ++ []⟩] ++ decL p q e0 bp bc s' ++ [⟨r1, true, T_api_Bitmap, [.int .i64 0, .int .i64 0, .slice none 0 0]⟩])
        (fun e L2 => False) H (fun {r1' h1 K1 Kp1} H hK hKp => ?_) (fun h' L' hp H => ?_) fun e h' L' hp H => hp.elim
      · show CP F_generic_Get_c1 #[.pointer (some ⟨r49, 0, none⟩), .pointer (some ⟨r13, 0, none⟩)] h1 K1 Kp1
        refine call_generic_Get_c1 (cap0 := ⟨r49, 0, none⟩) (cap1 := ⟨r13, 0, none⟩) ?_
        unfold generic_Get_c1
        refine ldP_of (H.cell 1 rfl rfl) (ldI_of (H.cell 2 rfl rfl) ?_)
        have HG : Hp h1 _ h1 ([procE r47 pm (fvD p) base t skip, mapE pm qm W X (X * wds W) (X * wds W), ⟨qm, true, T_uint64, u64s (List.replicate (X * wds W) 0) ++ []⟩] ++ decL p q e0 bp bc s) := H.give [3, 4, 5, 6, 7, 8] (by decide) rfl
        refine grun_ok (S := decS p q e0 bp bc) (NN := X * (W + 1)) (Ok := fun k s => Go.Ar.DecOk bytes m (n0 + k) s) decS.w (decI_ok hbl ⟨by omega, by omega⟩ hm1 hm2 hN') ⟨by omega, by omega⟩ ht ⟨hb, rfl⟩ HG hrl (by simp) hsz rfl (W64.zero _) (fun y hy x h1 h2 => pix_zero _ _ _ _) hc (Nat.le_refl _) (fun ws' s' M h' k hM hrun hl' hw' hz' hk' hok' H' => ?_) fun e ws' s' M h' k hM hrun hl' hk' hok' H' => ?_
        · obtain ⟨hb', rfl⟩ := hM
          have H := H.put [3, 4, 5, 6, 7, 8] (by decide) rfl (by simp [decL, Go.Ar.decE, hew, procE, mapE]) H' (by simp [decL, Go.Ar.decE, hew, procE, mapE]) rfl
          rw [getP_zero] at hrun
          exact hK h' _ ⟨s', k, ws', hrun, hl', hw', hz', hk', hok', hb', rfl⟩ H
        · obtain ⟨g', hg'⟩ := runG_inl (step := stepG m base) (fun s n b => ⟨_, rfl⟩) W t skip (getP (List.replicate (X * wds W) 0) W X, s) X
          rw [hg'] at hrun
          cases hrun
      · obtain ⟨s', k, ws', hrun, hl', hw', hz', hk', hok', hb', rfl⟩ := hp
        refine ⟨_, rfl, ?_⟩
        refine bcase_false (by rfl) ?_
        have hhw := hw_le hW1 hWX
        have hpos : 1 ≤ X * wds W := Nat.mul_pos hX1 (by unfold wds; omega)
        refine plain_ok (ws := ws') (rest := []) H 3 4 (by rw [hl']; rfl) rfl (by omega) (by omega) fun o orest h' H => ?_
        refine ⟨_, _, _, _, _, rfl, ?_⟩
        repeat first | with_reducible refine stA H 8 (by with_unfolding_all exact rfl) (by with_unfolding_all exact rfl) (by with_unfolding_all exact rfl) fun h H => ?_ | with_reducible refine st0 H 8 (by with_unfolding_all exact rfl) (by with_unfolding_all exact rfl) (by with_unfolding_all exact rfl) fun h H => ?_ | with_reducible refine stB H 8 (by with_unfolding_all exact rfl) (by with_unfolding_all exact rfl) (by with_unfolding_all exact rfl) fun h H => ?_
        repeat first | with_reducible refine ldI_of (by with_unfolding_all first | exact hpA H 8 rfl rfl | exact Hp.cell H 8 rfl rfl | exact hpB H 8 rfl rfl | exact hpC H 8 rfl rfl) ?_ | with_reducible refine ldS_of (by with_unfolding_all first | exact hpA H 8 rfl rfl | exact Hp.cell H 8 rfl rfl | exact hpB H 8 rfl rfl | exact hpC H 8 rfl rfl) ?_ | with_reducible refine ldP_of (by with_unfolding_all first | exact hpA H 8 rfl rfl | exact Hp.cell H 8 rfl rfl | exact hpB H 8 rfl rfl | exact hpC H 8 rfl rfl) ?_ | with_reducible refine ldB_of (by with_unfolding_all first | exact hpA H 8 rfl rfl | exact Hp.cell H 8 rfl rfl | exact hpB H 8 rfl rfl | exact hpC H 8 rfl rfl) ?_ | with_reducible refine ldT_of (by with_unfolding_all first | exact hpA H 8 rfl rfl | exact Hp.cell H 8 rfl rfl | exact hpB H 8 rfl rfl | exact hpC H 8 rfl rfl) ?_
        refine hk 0 _ _ ws' s' [⟨o, true, T_uint64, u64s ws' ++ orest⟩] _ _ h (.inr (.inr (.inr ⟨htt, hsz, hft2, rfl, rfl, rfl, by simpa using hrun, by simpa using hl', hw', by simpa using hz', k, by simpa using hk', hok'⟩))) (Slot.one (by rw [u64s_length, Nat.mul_one]) (by rw [List.length_append, u64s_length, Nat.mul_one])) ?_
        exact H.pick [5, 6, 7, 9] (by decide) rfl
    · refine ⟨_, _, rfl, ?_⟩
      refine bcase_true (by rfl) ?_
      exact bad 63 _ _ H.hext (fun h' e' => hk 63 0 0 [] s [] none 0 h' (.inr (.inl ⟨htt, hns, rfl, rfl, rfl, rfl, rfl⟩)) (Slot.nil _ _) ((HC.ext e').as (List.append_nil _).symm)) H
  · have H := H.ext e2
    refine ⟨_, _, rfl, ?_⟩
    refine newC_hp H fun r13 h H => ?_
    repeat first | with_reducible refine stA H 1 (by with_unfolding_all exact rfl) (by with_unfolding_all exact rfl) (by with_unfolding_all exact rfl) fun h H => ?_ | with_reducible refine st0 H 1 (by with_unfolding_all exact rfl) (by with_unfolding_all exact rfl) (by with_unfolding_all exact rfl) fun h H => ?_ | with_reducible refine stB H 1 (by with_unfolding_all exact rfl) (by with_unfolding_all exact rfl) (by with_unfolding_all exact rfl) fun h H => ?_
    refine bcase_true (by rfl) ?_
    exact bad 60 _ _ H.hext (fun h' e' => hk 60 0 0 [] s [] none 0 h' (.inl ⟨hn, rfl, rfl, rfl, rfl, rfl⟩) (Slot.nil _ _) ((HC.ext e').as (List.append_nil _).symm)) H

def GEncR (w b : Int) (ws : List Nat) (template : Int) (skip : Bool) (e : Int) (bs : List Nat) : Prop :=
  ¬ (0 ≤ template ∧ template < 4) ∧ e = 60 ∧ bs = [] ∨
  (0 ≤ template ∧ template < 4) ∧ ¬ MayP w b ws ∧ e = 62 ∧ bs = [] ∨
  (0 ≤ template ∧ template < 4) ∧ MayP w b ws ∧ e = 0 ∧ ∃ G s' k, runG w.toNat template.toNat skip (stepP (gsize template.toNat + 1) 0) b.toNat (getP ws w.toNat b.toNat, newC (gsize template.toNat + 1)) = .inl (G, s') ∧ k ≤ b.toNat * (w.toNat + 1) ∧ CodOk (gsize template.toNat + 1) k s' ∧ bs = bytesM (flushM s')
theorem size_px1 {w b : Int} (h : SizeP w b) : 0 + b.toNat * (w.toNat + 1) ≤ 16777216 := by
  obtain ⟨W, X, rfl, rfl, hW1, hW2, hX1, hX2, hWX⟩ := size_nat h
  simp only [Int.toNat_natCast]
  rw [Nat.mul_add, Nat.mul_comm]
  omega

section
variable {hB : Heap} {w b template : Int} {skip : Bool} {K : Value → Heap → Prop} {Kp : List PanicEntry → Heap → Prop}
set_option maxRecDepth 100000 in
set_option maxHeartbeats 1000000 in
theorem gEnc_ok {q1 : Option Addr} {c1 : Nat} {ws : List Nat} (hr1 : rdO hB q1 (ws.length * 1) (u64s ws)) (hw1 : W64 ws) (hl1 : ws.length < 140737488351300)
    (hk : ∀ e bs D qo c h', GEncR w b ws template skip e bs → Slot T_uint8 1 D qo bs.length c (u8s bs) → Hp hB [] h' D → K (.tuple #[.slice qo bs.length c, .int .i64 e]) h') :
    CP F_generic_Encode #[.agg #[.int .i64 w, .int .i64 b, .slice q1 ws.length c1], .int .i64 template, .bool skip] hB K Kp := by
  refine call_generic_Encode ?_
  unfold generic_Encode
  have H := Hp.nil hB []
  refine newC_hp H fun r4 h H => ?_
  refine csize_ok (fun t ht et h2 e2 => ?_) fun hn h2 e2 => ?_
  · have H := H.ext e2
    clear e2
    subst et
    have htt : 0 ≤ ((t : Nat) : Int) ∧ ((t : Nat) : Int) < 4 := by omega
    have hgs := gsize_le ht
    refine ⟨_, _, rfl, ?_⟩
    refine bcase_false (by rfl) ?_
    refine bindI_of (((gsize t + 1 : Nat) : Int)) (by exact i64_at _ _ (by omega) (by omega) (by omega)) ?_
    refine Go.Ar.new_ok (n := gsize t + 1) (by omega) (by omega) fun p q r h H' => ?_
    replace H := H.join H' rfl
    clear H'
    refine ⟨_, _, rfl, ?_⟩
    refine bcase_false (by rfl) ?_
    repeat first | with_reducible refine ldI_of (by with_unfolding_all first | exact hpA H 0 rfl rfl | exact Hp.cell H 0 rfl rfl | exact hpB H 0 rfl rfl | exact hpC H 0 rfl rfl) ?_ | with_reducible refine ldS_of (by with_unfolding_all first | exact hpA H 0 rfl rfl | exact Hp.cell H 0 rfl rfl | exact hpB H 0 rfl rfl | exact hpC H 0 rfl rfl) ?_ | with_reducible refine ldP_of (by with_unfolding_all first | exact hpA H 0 rfl rfl | exact Hp.cell H 0 rfl rfl | exact hpB H 0 rfl rfl | exact hpC H 0 rfl rfl) ?_ | with_reducible refine ldB_of (by with_unfolding_all first | exact hpA H 0 rfl rfl | exact Hp.cell H 0 rfl rfl | exact hpB H 0 rfl rfl | exact hpC H 0 rfl rfl) ?_ | with_reducible refine ldT_of (by with_unfolding_all first | exact hpA H 0 rfl rfl | exact Hp.cell H 0 rfl rfl | exact hpB H 0 rfl rfl | exact hpC H 0 rfl rfl) ?_
    refine gput_ok (m := gsize t + 1) (NN := b.toNat * (w.toNat + 1)) (base := 0) (Ok := fun k s => CodOk (gsize t + 1) (0 + k) s) (step := stepP (gsize t + 1) 0) (H.give [1, 2, 3] (by decide) rfl) (newC_ok _).len (by omega) (fun h' e => rdO_ext e (H.rdO hr1)) hw1 hl1 (fun hm hb => codI_ok hb (by omega) (by omega) (size_px1 hm.1)) (newC_ok _) (fun _ => Nat.le_refl _) (fun h' hn H' => absurd htt hn) (fun h' _ hn H' => ?_)
      (fun h' _ hm hn H' => absurd ⟨by omega, by simp only [Int.toNat_natCast]; omega⟩ hn) (fun G s' k r' rest' h' _ hm hf hrun hk' hok' H' => ?_) fun e s' k r' rest' h' _ hm hf hrun hk' hok' H' => ?_
    · refine ⟨_, rfl, ?_⟩
      refine bcase_true (by rfl) ?_
      exact hk 62 [] [] none 0 h' (.inr (.inl ⟨htt, hn, rfl, rfl⟩)) (Slot.nil _ _) ((H.put [1, 2, 3] (by decide) rfl rfl H' rfl rfl).take 0)
    · replace H := H.put [1, 2, 3] (by decide) rfl rfl H' rfl rfl
      clear H'
      rw [Nat.zero_add] at hok'
      refine ⟨_, rfl, ?_⟩
      refine bcase_false (by rfl) ?_
      refine Go.Ar.flush_ok (H.give [1, 2, 3] (by decide) rfl) hok'.wf hok'.done fun r3 rest3 o orest h' H' => ?_
      have H := Go.Bm.Hp.backD H [1, 2, 3] (by decide) rfl rfl H' rfl rfl rfl
      clear H'
      refine ⟨_, _, _, _, rfl, ?_⟩
      refine hk 0 _ [⟨o, true, T_uint8, u8s (bytesM (flushM s')) ++ orest⟩] _ _ h' (.inr (.inr ⟨htt, hm, rfl, G, s', k, hrun, hk', hok', rfl⟩)) (Slot.one (by rw [Go.Ar.u8s_length, Nat.mul_one]) (by rw [List.length_append, Go.Ar.u8s_length, Nat.mul_one])) (Hp.suf H)
    · obtain ⟨g', hg'⟩ := runG_inl (step := stepP (gsize t + 1) 0) (fun s n b => ⟨_, rfl⟩) w.toNat t skip (getP ws w.toNat b.toNat, newC (gsize t + 1)) b.toNat
      simp only [Int.toNat_natCast] at hrun
      rw [hg'] at hrun
      cases hrun
  · have H := H.ext e2
    refine ⟨_, _, rfl, ?_⟩
    refine bcase_true (by rfl) ?_
    exact hk 60 [] [] none 0 _ (.inl ⟨hn, rfl, rfl⟩) (Slot.nil _ _) (H.take 0)
end
end Go.Bm

/- RdA: the document's own decoder in memory; bytes that are lent. -/
set_option linter.unusedVariables false
set_option linter.unusedSimpArgs false
namespace Go.Ar
open Go Go.Den Go.Den.YtfaclehehhgpcaaGreat

/-! ### bytes that are lent -/
/-! ### the document's decoder -/
section
variable {h : Heap} {A : RP} {e : Ent} {bp : Option Addr} {bc : Nat} {s : Dec} {F : List Nat} {h0 : Heap}

end

/-! ### NewDecoder -/
end Go.Ar

/- Written by gen.py: the conditions of the functions of burinref7. -/
set_option linter.unusedVariables false
set_option linter.unusedSimpArgs false
namespace Go.Den.YtfaclehehhgpcaaGreat
open Go Go.Den

/- burin/burinref7.Encode -/
/- burin/burinref7.Decode -/
/- burin/burinref7.Need -/
/- burin/burinref7.Put -/
/- burin/burinref7.Get -/
/- burin/burinref7.same -/
end Go.Den.YtfaclehehhgpcaaGreat

/- Written by gen.py: each condition of the functions of burinref7 is the one of its body; so it is enough for its call. -/
set_option linter.unusedVariables false
set_option linter.unusedSimpArgs false
namespace Go.Den.YtfaclehehhgpcaaGreat
open Go Go.Den

end Go.Den.YtfaclehehhgpcaaGreat

/- GnG: generic.Decode; the document's side of generic coding. -/
set_option linter.unusedVariables false
set_option linter.unusedSimpArgs false
namespace Go.Bm
open Go Go.Den Go.Den.YtfaclehehhgpcaaGreat
open Go.Ar (decL newD newD_ok u8s)

section
variable {hB : Heap} {w b template : Int} {skip : Bool} {K : Value → Heap → Prop} {Kp : List PanicEntry → Heap → Prop}
set_option maxRecDepth 100000 in
set_option maxHeartbeats 1000000 in
theorem gDec_ok {src : Option Addr} {bc0 : Nat} {bytes : List Nat} (hbb : ∀ x ∈ bytes, x < 256) (hbl : bytes.length < 140737488351300) (hr : rdO hB src (bytes.length * 1) (u8s bytes))
    (hk : ∀ e w' b' bs s' D qo c h', GGetR bytes (gsize template.toNat + 1) 0 0 w b template skip (newD bytes (gsize template.toNat + 1)) e w' b' bs s' → Slot T_uint64 1 D qo bs.length c (u64s bs) → Hp hB [] h' D → K (.tuple #[.agg #[.int .i64 w', .int .i64 b', .slice qo bs.length c], .int .i64 e]) h') :
    CP F_generic_Decode #[.slice src bytes.length bc0, .int .i64 w, .int .i64 b, .int .i64 template, .bool skip] hB K Kp := by
  refine call_generic_Decode ?_
  unfold generic_Decode
  have H := Hp.nil hB []
  refine newC_hp H fun r1 h H => ?_
  refine csize_ok (fun t ht et h2 e2 => ?_) fun hn h2 e2 => ?_
  · have H := H.ext e2
    clear e2
    subst et
    have htt : 0 ≤ ((t : Nat) : Int) ∧ ((t : Nat) : Int) < 4 := by omega
    have hgs := gsize_le ht
    simp only [Int.toNat_natCast] at hk
    refine ⟨_, _, rfl, ?_⟩
    refine bcase_false (by rfl) ?_
    refine bindI_of (((gsize t + 1 : Nat) : Int)) (by exact i64_at _ _ (by omega) (by omega) (by omega)) ?_
    refine Go.Ar.newDecoder_ok (n := gsize t + 1) (by omega) (by omega) hbb hbl (H.rdO hr) fun p q e0 bp bc h3 hbok H' => ?_
    have hew := hbok.1
    replace H := H.join H' (by simp [decL, Go.Ar.decE, hbok.1])
    clear H'
    refine ⟨_, _, rfl, ?_⟩
    refine bcase_false (by rfl) ?_
    have hd := newD_ok hbb (gsize t + 1)
    refine gget_ok (bytes := bytes) (base := 0) (n0 := 0) (H.give [1, 2, 3] (by decide) rfl) (by rw [hd.b]; exact hbok) hbl hd (by omega) (by omega) size_px1 fun e w' b' bs s' D qo c h' hg hsl H' => ?_
    have H := Go.Bm.Hp.backD H [1, 2, 3] (by decide) rfl (by simp [decL, Go.Ar.decE, hew]) H' (by simp [decL, Go.Ar.decE, hew]) hsl.w rfl
    clear H'
    refine ⟨_, _, _, _, _, _, rfl, ?_⟩
    repeat first | with_reducible refine stA H 0 (by with_unfolding_all exact rfl) (by with_unfolding_all exact rfl) (by with_unfolding_all exact rfl) fun h H => ?_ | with_reducible refine st0 H 0 (by with_unfolding_all exact rfl) (by with_unfolding_all exact rfl) (by with_unfolding_all exact rfl) fun h H => ?_ | with_reducible refine stB H 0 (by with_unfolding_all exact rfl) (by with_unfolding_all exact rfl) (by with_unfolding_all exact rfl) fun h H => ?_
    have H : Hp hB [] h (([⟨r1, true, T_api_Bitmap, [.int .i64 w', .int .i64 b', .slice qo bs.length c]⟩] ++ decL p q e0 bp bc s') ++ D) := H
    repeat first | with_reducible refine ldI_of (by with_unfolding_all first | exact hpA H 0 rfl rfl | exact Hp.cell H 0 rfl rfl | exact hpB H 0 rfl rfl | exact hpC H 0 rfl rfl) ?_ | with_reducible refine ldS_of (by with_unfolding_all first | exact hpA H 0 rfl rfl | exact Hp.cell H 0 rfl rfl | exact hpB H 0 rfl rfl | exact hpC H 0 rfl rfl) ?_ | with_reducible refine ldP_of (by with_unfolding_all first | exact hpA H 0 rfl rfl | exact Hp.cell H 0 rfl rfl | exact hpB H 0 rfl rfl | exact hpC H 0 rfl rfl) ?_ | with_reducible refine ldB_of (by with_unfolding_all first | exact hpA H 0 rfl rfl | exact Hp.cell H 0 rfl rfl | exact hpB H 0 rfl rfl | exact hpC H 0 rfl rfl) ?_ | with_reducible refine ldT_of (by with_unfolding_all first | exact hpA H 0 rfl rfl | exact Hp.cell H 0 rfl rfl | exact hpB H 0 rfl rfl | exact hpC H 0 rfl rfl) ?_
    exact hk e w' b' bs s' D qo c h hg hsl (Hp.suf H)
  · have H := H.ext e2
    refine ⟨_, _, rfl, ?_⟩
    refine bcase_true (by rfl) ?_
    repeat first | with_reducible refine ldI_of (by with_unfolding_all first | exact hpA H 0 rfl rfl | exact Hp.cell H 0 rfl rfl | exact hpB H 0 rfl rfl | exact hpC H 0 rfl rfl) ?_ | with_reducible refine ldS_of (by with_unfolding_all first | exact hpA H 0 rfl rfl | exact Hp.cell H 0 rfl rfl | exact hpB H 0 rfl rfl | exact hpC H 0 rfl rfl) ?_ | with_reducible refine ldP_of (by with_unfolding_all first | exact hpA H 0 rfl rfl | exact Hp.cell H 0 rfl rfl | exact hpB H 0 rfl rfl | exact hpC H 0 rfl rfl) ?_ | with_reducible refine ldB_of (by with_unfolding_all first | exact hpA H 0 rfl rfl | exact Hp.cell H 0 rfl rfl | exact hpB H 0 rfl rfl | exact hpC H 0 rfl rfl) ?_ | with_reducible refine ldT_of (by with_unfolding_all first | exact hpA H 0 rfl rfl | exact Hp.cell H 0 rfl rfl | exact hpB H 0 rfl rfl | exact hpC H 0 rfl rfl) ?_ | with_reducible refine stA H 0 (by with_unfolding_all exact rfl) (by with_unfolding_all exact rfl) (by with_unfolding_all exact rfl) fun h H => ?_ | with_reducible refine st0 H 0 (by with_unfolding_all exact rfl) (by with_unfolding_all exact rfl) (by with_unfolding_all exact rfl) fun h H => ?_ | with_reducible refine stB H 0 (by with_unfolding_all exact rfl) (by with_unfolding_all exact rfl) (by with_unfolding_all exact rfl) fun h H => ?_
    exact hk 60 0 0 [] _ [] none 0 _ (.inl ⟨hn, rfl, rfl, rfl, rfl, rfl⟩) (Slot.nil _ _) (H.take 0)

/-! ### the document's -/
end
theorem copy_same {G : Int → Int → Bool} {W y : Nat} (hG : ∀ a b : Int, ¬ (0 ≤ a ∧ a < W) → G a b = false) (h : sameB G W y = true) : copyRow G y = G := by
  funext a b
  unfold copyRow
  by_cases hc : b = (y : Int) ∧ y ≠ 0
  · rw [if_pos hc]
    by_cases hin : 0 ≤ a ∧ a < W
    · unfold sameB at h
      rw [List.all_eq_true] at h
      have := h a.toNat (List.mem_range.2 (by omega))
      have ea : ((a.toNat : Nat) : Int) = a := by omega
      rw [ea] at this
      rw [hc.1]
      exact (by simpa using this : G a (y : Int) = G a ((y : Int) - 1)).symm
    · rw [hG _ _ hin, hG _ _ hin]
  · rw [if_neg hc]
end Go.Bm

/- RfR: refinement, plain laws: what is read is one; a reference that is seen alike; a few rows; many bitmaps one behind the other. -/
set_option linter.unusedVariables false
set_option linter.unusedSimpArgs false
namespace Go.Bm
open Go Go.Den Go.Den.YtfaclehehhgpcaaGreat
-- (nothing of Go.Ar opened)

theorem EncR.ok {w b w2 b2 : Int} {ws ws2 : List Nat} {dx dy e : Int} {bs : List Nat} (hm : MayP w b ws) (hm2 : MayP w2 b2 ws2) (hs : ShiftP dx dy) (h : EncR w b w2 b2 ws ws2 dx dy e bs) : e = 0 := by
  rcases h with ⟨a, _⟩ | ⟨_, a, _⟩ | ⟨_, _, e, _⟩
  · exact absurd ⟨hm, hm2⟩ a
  · exact absurd hs a
  · exact e

theorem part_rows (ws : List Nat) (W X n : Nat) : partG (getP ws W X) W (n * W) = fun (x y : Int) => decide (y < n) && getP ws W X x y := by
  funext x y
  unfold partG
  by_cases h : 0 ≤ x ∧ 0 ≤ y ∧ x < W ∧ y < X
  · congr 1
    rw [decide_eq_decide]
    constructor
    · rintro ⟨_, _, _, h4⟩
      rcases Nat.lt_or_ge y.toNat n with h5 | h5
      · omega
      · have : n * W ≤ y.toNat * W := Nat.mul_le_mul_right _ h5
        omega
    · intro h4
      have : (y.toNat + 1) * W ≤ n * W := Nat.mul_le_mul_right _ (by omega)
      rw [Nat.add_mul, Nat.one_mul] at this
      exact ⟨h.1, h.2.2.1, h.2.1, by omega⟩
  · unfold getP
    rw [decide_eq_false h, Bool.false_and, Bool.and_false, Bool.and_false]

section
variable (G R : Int → Int → Bool) (W m : Nat) (dx dy base : Int) {k b : Nat → Nat} {n0 cnt : Nat}
end
end Go.Bm

/- RfS: burinref8.Get and burinref8.Decode. -/
set_option linter.unusedVariables false
set_option linter.unusedSimpArgs false
namespace Go.Bm
open Go Go.Den Go.Den.YtfaclehehhgpcaaGreat
-- (nothing of Go.Ar opened)

end Go.Bm

/- GnH: burinref7.Get, Encode, Decode. -/
set_option linter.unusedVariables false
set_option linter.unusedSimpArgs false
namespace Go.Bm
open Go Go.Den Go.Den.YtfaclehehhgpcaaGreat
-- (nothing of Go.Ar opened)

end Go.Bm

/- GnI: burinref7.Encode and Decode; the answers are one. -/
set_option linter.unusedVariables false
set_option linter.unusedSimpArgs false
namespace Go.Bm
open Go Go.Den Go.Den.YtfaclehehhgpcaaGreat
-- (nothing of Go.Ar opened)

section
variable {hB : Heap} {w b template : Int} {skip : Bool} {K : Value → Heap → Prop} {Kp : List PanicEntry → Heap → Prop}
end
end Go.Bm

/- PbH: page.DecodeRegion. -/
set_option linter.unusedVariables false
set_option linter.unusedSimpArgs false
namespace Go.Bm
open Go Go.Den Go.Den.YtfaclehehhgpcaaGreat
open Go.Ar (u8s u8s_length newD)

def regPR (b : List Nat) : Except Int (Nat × Nat × Nat × Nat × Nat × Nat) := match placeP b 0 with
  | .error e => .error e
  | .ok (x, i1) => match placeP b i1 with
    | .error e => .error e
    | .ok (y, i2) => match sizeP b i2 with
      | .error e => .error e
      | .ok ((w, h), i3) => match byteP b i3 with
        | .error e => .error e
        | .ok (how, i4) => if 63 < how ∨ 4 < how / 8 then .error 150 else .ok (x, y, w, h, how, i4)
/-- What decoding a region answers. -/
def RgR (b : List Nat) (e x y op t : Int) (sk : Bool) (w g : Int) (ys : List Nat) : Prop :=
  (regPR b = .error e ∧ e ≠ 0 ∧ x = 0 ∧ y = 0 ∧ op = 0 ∧ t = 0 ∧ sk = false ∧ w = 0 ∧ g = 0 ∧ ys = []) ∨
  ∃ x0 y0 w0 h0 how i : Nat, regPR b = .ok (x0, y0, w0, h0, how, i) ∧ i ≤ b.length ∧ how < 64 ∧ how / 8 ≤ 4 ∧ SizeP (w0 : Int) (h0 : Int) ∧ e = 0 ∧ x = (x0 : Int) ∧ y = (y0 : Int) ∧ op = ((how / 8 : Nat) : Int) ∧ t = ((how % 4 : Nat) : Int) ∧ sk = Nat.beq (how / 4 % 2) 1 ∧ w = (w0 : Int) ∧ g = (h0 : Int) ∧
    ∃ s', GGetR (b.drop i) (gsize (how % 4) + 1) 0 0 (w0 : Int) (h0 : Int) ((how % 4 : Nat) : Int) (Nat.beq (how / 4 % 2) 1) (newD (b.drop i) (gsize (how % 4) + 1)) 0 (w0 : Int) (h0 : Int) ys s'
theorem rdO_drop {h : Heap} {q : Option Addr} {c i : Nat} {b : List Nat} (hr : rdO h q (b.length * 1) (u8s b)) (hi : i ≤ b.length) (hc : b.length ≤ c) : rdO h (subA q c i 1) ((b.drop i).length * 1) (u8s (b.drop i)) := by
  have hd : u8s (b.drop i) = (u8s b).drop i := by simp [u8s, List.map_drop]
  cases q with
  | none =>
    have h0 : u8s b = [] := hr
    have e : subA none c i 1 = none := by unfold subA; split <;> rfl
    rw [e, hd, h0]
    exact List.drop_nil
  | some a =>
    unfold subA
    by_cases h1 : c = i
    · rw [if_pos h1]
      have : b.drop i = [] := List.drop_eq_nil_of_le (by omega)
      rw [this]
      exact ⟨rfl, fun j v hj => by simp [u8s] at hj⟩
    · rw [if_neg h1]
      refine ⟨by rw [u8s_length, Nat.mul_one], fun j v hj => ?_⟩
      rw [hd, List.getElem?_drop] at hj
      have := hr.2 _ v hj
      show hcell h ((a.add (i * 1)).add j) = _
      rw [Nat.mul_one, Go.Ar.add_add']
      exact this
def how3 : Bool := (List.range 256).all fun x => Nat.beq (x &&& 3) (x % 4) && (Nat.beq (x &&& 4) 0 == !(Nat.beq (x / 4 % 2) 1))
theorem how3_t : how3 = true := by kernel_rfl
theorem how_of {x : Nat} (hx : x < 256) : (x &&& 3) = x % 4 ∧ (((x &&& 4 : Nat) : Int) != 0) = Nat.beq (x / 4 % 2) 1 := by
  have h := List.all_eq_true.1 how3_t x (List.mem_range.2 hx)
  simp only [Bool.and_eq_true] at h
  refine ⟨Nat.eq_of_beq_eq_true h.1, ?_⟩
  have h2 := h.2
  by_cases h0 : (x &&& 4) = 0
  · rw [h0] at h2 ⊢
    have h2 : (true == !(Nat.beq (x / 4 % 2) 1)) = true := h2
    cases hb : Nat.beq (x / 4 % 2) 1 with
    | true => rw [hb] at h2; cases h2
    | false => rfl
  · have hb0 : Nat.beq (x &&& 4) 0 = false := Bool.eq_false_iff.2 fun hh => h0 (Nat.eq_of_beq_eq_true hh)
    rw [hb0] at h2
    have h2 : (false == !(Nat.beq (x / 4 % 2) 1)) = true := h2
    cases hb : Nat.beq (x / 4 % 2) 1 with
    | true => simp; omega
    | false => rw [hb] at h2; cases h2
section
variable {hB : Heap} {K : Value → Heap → Prop} {Kp : List PanicEntry → Heap → Prop} {q : Option Addr} {c : Nat} {b : List Nat}
def zReg : List Value := [.int .i64 0, .int .i64 0, .int .i64 0, .int .i64 0, .bool false, .int .i64 0, .int .i64 0, .slice none 0 0]
set_option maxRecDepth 100000 in
set_option maxHeartbeats 8000000 in
theorem decRegion_ok (hb : RdB b) (hr : rdO hB q (b.length * 1) (u8s b)) (hcap : b.length ≤ c)
    (hk : ∀ e x y op t sk w g ys D qo co h', RgR b e x y op t sk w g ys → Slot T_uint64 1 D qo ys.length co (u64s ys) → Hp hB [] h' D → K (.tuple #[.agg #[.int .i64 x, .int .i64 y, .int .i64 op, .int .i64 t, .bool sk, .int .i64 w, .int .i64 g, .slice qo ys.length co], .int .i64 e]) h') :
    CP F_page_DecodeRegion #[.slice q b.length c] hB K Kp := by
  refine call_page_DecodeRegion ?_
  unfold page_DecodeRegion
  have hbl := hb.bl
  have H := Hp.nil hB []
  refine newC_hp H fun r1 h H => ?_
  refine newC_hp H fun r3 h H => ?_
  refine newC_hp H fun r5 h H => ?_
  have H : Hp hB [] h [⟨r1, true, T_s_uint8, [.slice q b.length c]⟩, ⟨r3, true, T_api_Region, zReg⟩, ⟨r5, true, T_api_Region, zReg⟩] := H
  refine ldS_of (H.cell 0 rfl rfl) ?_
  refine pread_ok (fun L2 => ∃ x y op t sk w g ys D qo co, RgR b 0 x y op t sk w g ys ∧ Slot T_uint64 1 D qo ys.length co (u64s ys) ∧ L2 = [⟨r1, true, T_s_uint8, [.slice q b.length c]⟩, ⟨r3, true, T_api_Region, zReg⟩, ⟨r5, true, T_api_Region, [.int .i64 x, .int .i64 y, .int .i64 op, .int .i64 t, .bool sk, .int .i64 w, .int .i64 g, .slice qo ys.length co]⟩] ++ D)
    (fun e L2 => regPR b = .error e ∧ e ≠ 0 ∧ ∃ cs, L2 = [⟨r1, true, T_s_uint8, [.slice q b.length c]⟩, ⟨r3, true, T_api_Region, zReg⟩, ⟨r5, true, T_api_Region, cs⟩]) hb hr H (fun {r rr q' c' D h1 K1 Kp1} hs H hK hKp => ?_) (fun h' L' hp H => ?_) fun e h' L' hp H => ?_
  · show CP F_page_DecodeRegion_c1 #[.agg #[.pointer (some ⟨rr, 0, none⟩)], .pointer (some ⟨r5, 0, none⟩), .pointer (some ⟨r1, 0, none⟩)] h1 K1 Kp1
    refine call_page_DecodeRegion_c1 (cap0 := ⟨r5, 0, none⟩) (cap1 := ⟨r1, 0, none⟩) ?_
    unfold page_DecodeRegion_c1
    refine newC_hp H fun r2 h H => ?_
    have H := H.rot
    obtain ⟨A, hA⟩ : ∃ A : List Value → List Ent, A = fun cs => [⟨r2, true, T_page_reader, [.pointer (some ⟨rr, 0, none⟩)]⟩, ⟨r, true, T_api_Errno, [.int .i64 0]⟩, ⟨r1, true, T_s_uint8, [.slice q b.length c]⟩, ⟨r3, true, T_api_Region, zReg⟩, ⟨r5, true, T_api_Region, cs⟩] := ⟨_, rfl⟩
    have hAd : ∀ cs, A cs = [⟨r2, true, T_page_reader, [.pointer (some ⟨rr, 0, none⟩)]⟩, ⟨r, true, T_api_Errno, [.int .i64 0]⟩, ⟨r1, true, T_s_uint8, [.slice q b.length c]⟩, ⟨r3, true, T_api_Region, zReg⟩, ⟨r5, true, T_api_Region, cs⟩] := fun cs => by rw [hA]
    have bad : ∀ {e : Int} {i' : Nat} {h : Heap} {cs : List Value}, regPR b = .error e → e ≠ 0 → Hp hB [] h (A cs ++ (rdE rr q' b.length c' i' :: D)) → Kp1 (flt e) h := fun {e i' h cs} he he0 H => by
      refine hKp e h _ i' ⟨he, he0, cs, rfl⟩ ?_
      rw [hAd] at H
      exact Hp.suf (X := [⟨r2, true, T_page_reader, [.pointer (some ⟨rr, 0, none⟩)]⟩]) H
    have H : Hp hB [] h (A zReg ++ (rdE rr q' b.length c' 0 :: D)) := by rw [hAd]; exact H
    have rdp : ∀ {i' : Nat} {h : Heap} {cs : List Value} {K2 : Option Addr → Prop}, Hp hB [] h (A cs ++ (rdE rr q' b.length c' i' :: D)) → K2 (some ⟨rr, 0, none⟩) → ldP h ((⟨r2, 0, none⟩ : Addr).add 0) K2 := fun {i' h cs K2} H hK2 => by
      rw [hAd] at H
      exact ldP_of (hpA H 0 rfl rfl) hK2
    refine rdp H ?_
    refine place_ok (Hp.giveS H) hs hb (Nat.zero_le _) (fun x i1 h hx hi1 hxM H' => ?_) fun i' h hx hi' H' => ?_
    rotate_left
    · exact bad (e := 150) (by unfold regPR; rw [hx]) (by decide) (Hp.putS H (rdw hs _) H' (rdw hs _))
    have H := Hp.putS H (rdw hs _) H' (rdw hs _)
    clear H'
    refine ⟨_, rfl, ?_⟩
    rw [hAd] at H
    refine stA H 4 rfl rfl rfl fun h H => ?_
    have H : Hp hB [] h (A [.int .i64 (x : Nat), .int .i64 0, .int .i64 0, .int .i64 0, .bool false, .int .i64 0, .int .i64 0, .slice none 0 0] ++ (rdE rr q' b.length c' i1 :: D)) := by rw [hAd]; exact H
    refine rdp H ?_
    refine place_ok (Hp.giveS H) hs hb hi1 (fun y i2 h hy hi2 hyM H' => ?_) fun i' h hy hi' H' => ?_
    rotate_left
    · exact bad (e := 150) (by unfold regPR; rw [hx]; dsimp only; rw [hy]) (by decide) (Hp.putS H (rdw hs _) H' (rdw hs _))
    have H := Hp.putS H (rdw hs _) H' (rdw hs _)
    clear H'
    refine ⟨_, rfl, ?_⟩
    rw [hAd] at H
    refine stA H 4 rfl rfl rfl fun h H => ?_
    have H : Hp hB [] h (A [.int .i64 (x : Nat), .int .i64 (y : Nat), .int .i64 0, .int .i64 0, .bool false, .int .i64 0, .int .i64 0, .slice none 0 0] ++ (rdE rr q' b.length c' i2 :: D)) := by rw [hAd]; exact H
    refine rdp H ?_
    refine size_ok (Hp.giveS H) hs hb hi2 (fun w g i3 h hsz hi3 hP H' => ?_) fun e i' h hsz he hi' H' => ?_
    rotate_left
    · exact bad (by unfold regPR; rw [hx]; dsimp only; rw [hy]; dsimp only; rw [hsz]) he (Hp.putS H (rdw hs _) H' (rdw hs _))
    have H := Hp.putS H (rdw hs _) H' (rdw hs _)
    clear H'
    refine ⟨_, _, rfl, ?_⟩
    refine rdp H ?_
    refine pbyte_ok (Hp.giveS H) hs hb hi3 (fun how i4 h hhow hi4 hh8 H' => ?_) fun i' h hhow hi' H' => ?_
    rotate_left
    · exact bad (e := 150) (by unfold regPR; rw [hx]; dsimp only; rw [hy]; dsimp only; rw [hsz]; dsimp only; rw [hhow]) (by decide) (Hp.putS H (rdw hs _) H' (rdw hs _))
    have H := Hp.putS H (rdw hs _) H' (rdw hs _)
    clear H'
    refine ⟨_, rfl, ?_⟩
    have hreg : regPR b = if 63 < how ∨ 4 < how / 8 then .error 150 else .ok (x, y, w, g, how, i4) := by unfold regPR; rw [hx]; dsimp only; rw [hy]; dsimp only; rw [hsz]; dsimp only; rw [hhow]
    refine ⟨fun _ h' => ¬ (63 < how ∨ 4 < how / 8) ∧ h' = h, ?_, ?_⟩
    · refine bcase_dec (fun h1 => ?_) fun h1 => ?_
      · refine wrong_ok (fun h2 => by cases h2) fun _ => ?_
        exact bad (e := 150) (by rw [hreg, if_pos (.inl (by omega))]) (by decide) H
      · refine bindI_of (((how / 8 : Nat) : Int)) (by exact shr_of (i := 3) (by decide)) ?_
        refine operation_ok fun bo hbo => ?_
        refine ⟨_, rfl, ?_⟩
        refine wrong_ok (fun h2 => ?_) fun h2 => ?_
        · have h2 : bo = true := by simpa using h2
          have := hbo.1 h2
          exact ⟨by omega, rfl⟩
        · have h2 : bo = false := by simpa using h2
          have h3 : ¬ (0 ≤ ((how / 8 : Nat) : Int) ∧ ((how / 8 : Nat) : Int) ≤ 4) := fun hh => by rw [hbo.2 hh] at h2; cases h2
          exact bad (e := 150) (by rw [hreg, if_pos (.inr (by omega))]) (by decide) H
    rintro h' u ⟨hok, rfl⟩
    rw [if_neg hok] at hreg
    obtain ⟨hw1, hw2⟩ := how_of hh8
    refine bindI_of (((how / 8 : Nat) : Int)) (by exact shr_of (i := 3) (by decide)) ?_
    refine bindI_of (((how % 4 : Nat) : Int)) (by exact (and63 how 3 (by omega) (by decide)).trans (by rw [hw1])) ?_
    refine bindI_of (((how &&& 4 : Nat) : Int)) (by exact and63 how 4 (by omega) (by decide)) ?_
    rw [hw2]
    generalize hsk : Nat.beq (how / 4 % 2) 1 = sk
    rw [hAd] at H
    refine stA H 4 rfl rfl rfl fun h H => ?_
    refine stA H 4 rfl rfl rfl fun h H => ?_
    refine stA H 4 rfl rfl rfl fun h H => ?_
    have H : Hp hB [] h (A [.int .i64 (x : Nat), .int .i64 (y : Nat), .int .i64 ((how / 8 : Nat) : Int), .int .i64 ((how % 4 : Nat) : Int), .bool sk, .int .i64 0, .int .i64 0, .slice none 0 0] ++ (rdE rr q' b.length c' i4 :: D)) := by rw [hAd]; exact H
    have H2 := H
    rw [hAd] at H2
    refine ldS_of (H2.cell 2 rfl rfl) (ldS_of (H2.cell 2 rfl rfl) ?_)
    refine rdp H ?_
    refine ldI_of (hpA H2 4 rfl rfl) (ldB_of (hpA H2 4 rfl rfl) ?_)
    clear H2
    refine rleft_ok (Hp.suf H) hb hi4 ?_
    refine ⟨_, rfl, hext.refl _, ?_⟩
    refine bindI_of (((b.length - i4 : Nat) : Int)) (by exact i64_at _ _ (by rw [show ((8 * (b.length - i4) : Nat) : Int).tdiv 8 = ((8 * (b.length - i4) / 8 : Nat) : Int) from rfl]; omega) (by omega) (by omega)) ?_
    refine bindI_of (((i4 : Nat) : Int)) (by exact i64_at _ _ (by omega) (by omega) (by omega)) ?_
    refine needs_of (by omega) ?_
    rw [Int.toNat_natCast]
    have hdl : (b.drop i4).length = b.length - i4 := List.length_drop
    have ht4 : (0 : Int) ≤ ((how % 4 : Nat) : Int) ∧ ((how % 4 : Nat) : Int) < 4 := by omega
    rw [← hdl]
    refine gDec_ok (bytes := b.drop i4) (fun z hz => hb.b8 z (List.mem_of_mem_drop hz)) (by omega) (H.rdO (rdO_drop hr hi4 hcap)) fun e1 w1 g1 ys s1 DD qo co h hg hsl H' => ?_
    have hg2 := hg
    have e10 : e1 = 0 ∧ w1 = (w : Int) ∧ g1 = (g : Int) := by
      rcases hg2 with ⟨hh, _⟩ | ⟨_, hh, _⟩ | ⟨_, _, hh, _⟩ | ⟨_, _, _, h1, h2, h3, _⟩
      · exact absurd ht4 hh
      · exact absurd hP hh
      · exact absurd ⟨by omega, by simp only [Int.toNat_natCast]; omega⟩ hh
      · exact ⟨h1, h2, h3⟩
    clear hg2
    obtain ⟨rfl, rfl, rfl⟩ := e10
    replace H := H.join H' hsl.w
    clear H'
    refine ⟨_, _, _, _, _, _, rfl, ?_⟩
    rw [hAd] at H
    refine stB H 4 rfl rfl rfl fun h H => ?_
    refine stB H 4 rfl rfl rfl fun h H => ?_
    refine stB H 4 rfl rfl rfl fun h H => ?_
    refine bcase_false (by rfl) ?_
    have H : Hp hB [] h (([⟨r2, true, T_page_reader, [.pointer (some ⟨rr, 0, none⟩)]⟩, ⟨r, true, T_api_Errno, [.int .i64 0]⟩, ⟨r1, true, T_s_uint8, [.slice q b.length c]⟩, ⟨r3, true, T_api_Region, zReg⟩, ⟨r5, true, T_api_Region, [.int .i64 (x : Nat), .int .i64 (y : Nat), .int .i64 ((how / 8 : Nat) : Int), .int .i64 ((how % 4 : Nat) : Int), .bool sk, .int .i64 (w : Nat), .int .i64 (g : Nat), .slice qo ys.length co]⟩] ++ (rdE rr q' b.length c' i4 :: D)) ++ DD) := H
    refine hK h _ i4 ⟨_, _, _, _, sk, _, _, ys, DD, qo, co, .inr ⟨x, y, w, g, how, i4, hreg, hi4, by omega, by omega, hP, rfl, rfl, rfl, rfl, rfl, hsk.symm, rfl, rfl, s1, by rw [hsk]; simp only [Int.toNat_natCast] at hg; exact hg⟩, hsl, rfl⟩ ?_
    have H3 := Hp.suf (X := [⟨r2, true, T_page_reader, [.pointer (some ⟨rr, 0, none⟩)]⟩]) (Y := ([⟨r, true, T_api_Errno, [.int .i64 0]⟩, ⟨r1, true, T_s_uint8, [.slice q b.length c]⟩, ⟨r3, true, T_api_Region, zReg⟩, ⟨r5, true, T_api_Region, [.int .i64 (x : Nat), .int .i64 (y : Nat), .int .i64 ((how / 8 : Nat) : Int), .int .i64 ((how % 4 : Nat) : Int), .bool sk, .int .i64 (w : Nat), .int .i64 (g : Nat), .slice qo ys.length co]⟩] ++ (rdE rr q' b.length c' i4 :: D)) ++ DD) H
    exact (Hp.swap H3).as (by simp only [List.append_assoc, List.cons_append, List.nil_append])
  · obtain ⟨x, y, op, t, sk, w, g, ys, D, qo, co, hR, hsl, rfl⟩ := hp
    refine ⟨_, rfl, ?_⟩
    refine bcase_false (by rfl) ?_
    refine ldI_of (hpA H 2 rfl rfl) (ldI_of (hpA H 2 rfl rfl) (ldI_of (hpA H 2 rfl rfl) (ldI_of (hpA H 2 rfl rfl) (ldB_of (hpA H 2 rfl rfl) (ldI_of (hpA H 2 rfl rfl) (ldI_of (hpA H 2 rfl rfl) (ldS_of (hpA H 2 rfl rfl) ?_)))))))
    repeat first | with_reducible refine stA H 1 (by with_unfolding_all exact rfl) (by with_unfolding_all exact rfl) (by with_unfolding_all exact rfl) fun h H => ?_ | with_reducible refine st0 H 1 (by with_unfolding_all exact rfl) (by with_unfolding_all exact rfl) (by with_unfolding_all exact rfl) fun h H => ?_ | with_reducible refine stB H 1 (by with_unfolding_all exact rfl) (by with_unfolding_all exact rfl) (by with_unfolding_all exact rfl) fun h H => ?_
    refine ldI_of (hpA H 1 rfl rfl) (ldI_of (hpA H 1 rfl rfl) (ldI_of (hpA H 1 rfl rfl) (ldI_of (hpA H 1 rfl rfl) (ldB_of (hpA H 1 rfl rfl) (ldI_of (hpA H 1 rfl rfl) (ldI_of (hpA H 1 rfl rfl) (ldS_of (hpA H 1 rfl rfl) ?_)))))))
    have H : Hp hB [] h ([⟨r1, true, T_s_uint8, [.slice q b.length c]⟩, ⟨r3, true, T_api_Region, [.int .i64 x, .int .i64 y, .int .i64 op, .int .i64 t, .bool sk, .int .i64 w, .int .i64 g, .slice qo ys.length co]⟩, ⟨r5, true, T_api_Region, [.int .i64 x, .int .i64 y, .int .i64 op, .int .i64 t, .bool sk, .int .i64 w, .int .i64 g, .slice qo ys.length co]⟩] ++ D) := H
    exact hk 0 x y op t sk w g ys D qo co h hR hsl (Hp.suf H)
  · obtain ⟨hsh, he, cs, rfl⟩ := hp
    refine ⟨_, rfl, ?_⟩
    refine bcase_ne (fun _ => ?_) fun hh => absurd hh he
    repeat first | with_reducible refine stA H 1 (by with_unfolding_all exact rfl) (by with_unfolding_all exact rfl) (by with_unfolding_all exact rfl) fun h H => ?_ | with_reducible refine st0 H 1 (by with_unfolding_all exact rfl) (by with_unfolding_all exact rfl) (by with_unfolding_all exact rfl) fun h H => ?_ | with_reducible refine stB H 1 (by with_unfolding_all exact rfl) (by with_unfolding_all exact rfl) (by with_unfolding_all exact rfl) fun h H => ?_
    refine ldI_of (hpA H 1 rfl rfl) (ldI_of (hpA H 1 rfl rfl) (ldI_of (hpA H 1 rfl rfl) (ldI_of (hpA H 1 rfl rfl) (ldB_of (hpA H 1 rfl rfl) (ldI_of (hpA H 1 rfl rfl) (ldI_of (hpA H 1 rfl rfl) (ldS_of (hpA H 1 rfl rfl) ?_)))))))
    exact hk e 0 0 0 0 false 0 0 [] [] none 0 h (.inl ⟨hsh, he, rfl, rfl, rfl, rfl, rfl, rfl, rfl, rfl⟩) (Slot.nil _ _) (H.take 0)
end
end Go.Bm

/- Written by gen.py: the conditions of the functions of burinref1. -/
set_option linter.unusedVariables false
set_option linter.unusedSimpArgs false
namespace Go.Den.YtfaclehehhgpcaaGreat
open Go Go.Den

/- burin/burinref1.Groups -/
/- (*burin/burinref1.Reader).Left -/
/- (*burin/burinref1.Reader).Var -/
/- (*burin/burinref1.Reader).Take -/
end Go.Den.YtfaclehehhgpcaaGreat

/- Written by gen.py: each condition of the functions of burinref1 is the one of its body; so it is enough for its call. -/
set_option linter.unusedVariables false
set_option linter.unusedSimpArgs false
namespace Go.Den.YtfaclehehhgpcaaGreat
open Go Go.Den

end Go.Den.YtfaclehehhgpcaaGreat

/- PbI: the document's readers: bits, numbers, sheets. -/
set_option linter.unusedVariables false
set_option linter.unusedSimpArgs false
namespace Go.Bm
open Go Go.Den Go.Den.YtfaclehehhgpcaaGreat
-- (nothing of Go.Ar opened)

section
variable {hB h : Heap} {K : Value → Heap → Prop} {Kp : List PanicEntry → Heap → Prop} {q : Option Addr} {c i ra rb : Nat} {b : List Nat} {M : List Ent} {e : Int}
/-! ### burinref15's reader -/
end
end Go.Bm

/- PbJ: the document's DecodeSheet and DecodeRegion. -/
set_option linter.unusedVariables false
set_option linter.unusedSimpArgs false
namespace Go.Bm
open Go Go.Den Go.Den.YtfaclehehhgpcaaGreat
-- (nothing of Go.Ar opened)

section
variable {hB : Heap} {K : Value → Heap → Prop} {Kp : List PanicEntry → Heap → Prop} {q : Option Addr} {c : Nat} {b : List Nat}
end
end Go.Bm

/- PbJb: the document's DecodeRegion. -/
set_option linter.unusedVariables false
set_option linter.unusedSimpArgs false
namespace Go.Bm
open Go Go.Den Go.Den.YtfaclehehhgpcaaGreat
-- (nothing of Go.Ar opened)
section
variable {hB : Heap} {K : Value → Heap → Prop} {Kp : List PanicEntry → Heap → Prop} {q : Option Addr} {c : Nat} {b : List Nat}
end
end Go.Bm

/- GnJa: decisions as a list; the decoder's walk over them. -/
set_option linter.unusedVariables false
set_option linter.unusedSimpArgs false
namespace Go.Bm
open Go Go.Den Go.Den.YtfaclehehhgpcaaGreat
open Go.Ar (Cod Dec CodOk codN decN newC_ok bytesM flushM putM getD)

/-! ### decisions as a list -/
def kOf (L : List (Nat × Nat)) (i : Nat) : Nat := (L[i]?.getD (0, 0)).1
def bOf (L : List (Nat × Nat)) (i : Nat) : Nat := (L[i]?.getD (0, 0)).2
def cdL (m : Nat) (L : List (Nat × Nat)) : Cod := codN (kOf L) (bOf L) m L.length
theorem codN_cong {k b k' b' : Nat → Nat} {m : Nat} : ∀ {n : Nat}, (∀ j, j < n → k j = k' j ∧ b j = b' j) → codN k b m n = codN k' b' m n
  | 0, _ => rfl
  | n + 1, h => by
    have := codN_cong (m := m) (n := n) fun j hj => h j (by omega)
    unfold codN
    rw [this, (h n (by omega)).1, (h n (by omega)).2]
theorem cdL_snoc (m : Nat) (L : List (Nat × Nat)) (d : Nat × Nat) : cdL m (L ++ [d]) = putM (cdL m L) d.1 d.2 := by
  have e : codN (kOf (L ++ [d])) (bOf (L ++ [d])) m L.length = cdL m L := codN_cong fun j hj => by
    unfold kOf bOf
    rw [List.getElem?_append_left hj]
    exact ⟨rfl, rfl⟩
  unfold cdL at e ⊢
  rw [List.length_append, List.length_singleton, codN, e]
  unfold kOf bOf
  rw [List.getElem?_append_right (Nat.le_refl _), Nat.sub_self]
  rfl
theorem cdL_ok {m : Nat} {L : List (Nat × Nat)} (h : L.length ≤ 16777216) : CodOk m L.length (cdL m L) := by
  have key : ∀ i, i ≤ 16777216 → CodOk m i (codN (kOf L) (bOf L) m i) := by
    intro i
    induction i with
    | zero => exact fun _ => newC_ok m
    | succ i ih => exact fun hi => Go.Ar.putM_ok (ih (by omega)) _ _ (by omega)
  exact key _ h
theorem bOf_le {L : List (Nat × Nat)} (h : ∀ d ∈ L, d.2 ≤ 1) : ∀ i, i < L.length → bOf L i ≤ 1 := fun i hi => by
  unfold bOf
  rw [List.getElem?_eq_getElem hi]
  exact h _ (List.getElem_mem hi)
theorem kOf_at {L A B : List (Nat × Nat)} {d : Nat × Nat} (h : L = A ++ d :: B) : kOf L A.length = d.1 ∧ bOf L A.length = d.2 := by
  subst h
  unfold kOf bOf
  rw [List.getElem?_append_right (Nat.le_refl _), Nat.sub_self]
  exact ⟨rfl, rfl⟩
/-- The decoder's walk over the decisions. -/
structure Walk (L : List (Nat × Nat)) (D : Nat → Dec) : Prop where
  step : ∀ i, i < L.length → getD (D i) (kOf L i) = (D (i + 1), bOf L i)
theorem Walk.at {L A B : List (Nat × Nat)} {D : Nat → Dec} {d : Nat × Nat} (h : Walk L D) (e : L = A ++ d :: B) : getD (D A.length) d.1 = (D (A.length + 1), d.2) := by
  obtain ⟨h1, h2⟩ := kOf_at e
  have := h.step A.length (by rw [e]; simp)
  rw [h1, h2] at this
  exact this
theorem walk_of {m : Nat} {L : List (Nat × Nat)} (h1 : ∀ d ∈ L, d.2 ≤ 1) (hc : L.length ≤ 16777216) : Walk L (decN (kOf L) (bytesM (flushM (cdL m L))) m) := by
  refine ⟨fun i hi => Prod.ext rfl ?_⟩
  have hlt : ∀ x ∈ bytesM (flushM (cdL m L)), x < 256 := Go.Ar.flushM_lt (cdL_ok hc).wf
  exact Go.Ar.back_bit (kOf L) (bOf L) m L.length (bOf_le h1) hc hlt hi

end Go.Bm

/- GnJ: generic coding, plain law: what is coded is decoded as the same bitmap, row by row. -/
set_option linter.unusedVariables false
set_option linter.unusedSimpArgs false
namespace Go.Bm
open Go Go.Den Go.Den.YtfaclehehhgpcaaGreat
open Go.Ar (Dec idx)

/-! ### the decisions of a bitmap -/
section
variable (G : Int → Int → Bool) (W m t : Nat) (skip : Bool) (base : Int)
def dsRow (y k : Nat) : List (Nat × Nat) := (List.range k).map fun (x : Nat) => (idx (base + ((gctx t G (x : Int) (y : Int) : Nat) : Int)) m, (G (x : Int) (y : Int)).toNat)
def dsLine (y : Nat) : List (Nat × Nat) := match skip with
  | false => dsRow G m t base y W
  | true => (idx (base + ((gsize t : Nat) : Int)) m, (sameB G W y).toNat) :: (match sameB G W y with
    | true => []
    | false => dsRow G m t base y W)
def dsG : Nat → List (Nat × Nat)
  | 0 => []
  | y + 1 => dsG y ++ dsLine G W m t skip base y
theorem dsRow_succ (y k : Nat) : dsRow G m t base y (k + 1) = dsRow G m t base y k ++ [(idx (base + ((gctx t G (k : Int) (y : Int) : Nat) : Int)) m, (G (k : Int) (y : Int)).toNat)] := by
  unfold dsRow
  rw [List.range_succ, List.map_append]
  rfl
theorem dsRow_len (y k : Nat) : (dsRow G m t base y k).length = k := by simp [dsRow]
theorem dsLine_len (y : Nat) : (dsLine G W m t skip base y).length ≤ W + 1 := by
  unfold dsLine
  cases skip with
  | false =>
    simp only [dsRow_len]
    omega
  | true =>
    cases sameB G W y <;> simp [dsRow_len]
theorem dsG_len : ∀ y, (dsG G W m t skip base y).length ≤ y * (W + 1)
  | 0 => by simp [dsG]
  | y + 1 => by
    have h1 := dsG_len y
    have h2 := dsLine_len G W m t skip base y
    unfold dsG
    rw [List.length_append, Nat.add_mul, Nat.one_mul]
    omega
theorem dsRow_bit (y k : Nat) : ∀ d ∈ dsRow G m t base y k, d.2 ≤ 1 := fun d hd => by
  unfold dsRow at hd
  obtain ⟨x, _, rfl⟩ := List.mem_map.1 hd
  exact toNat_le _
theorem dsLine_bit (y : Nat) : ∀ d ∈ dsLine G W m t skip base y, d.2 ≤ 1 := fun d hd => by
  unfold dsLine at hd
  cases skip with
  | false => exact dsRow_bit G m t base y W d hd
  | true =>
    rcases List.mem_cons.1 hd with rfl | hd
    · exact toNat_le _
    · cases hs : sameB G W y with
      | true => rw [hs] at hd; cases hd
      | false => rw [hs] at hd; exact dsRow_bit G m t base y W d hd
theorem dsG_bit : ∀ y, ∀ d ∈ dsG G W m t skip base y, d.2 ≤ 1
  | 0 => fun d hd => by cases hd
  | y + 1 => fun d hd => by
    unfold dsG at hd
    rcases List.mem_append.1 hd with hd | hd
    · exact dsG_bit y d hd
    · exact dsLine_bit G W m t skip base y d hd
theorem dsG_split {y : Nat} : ∀ {X : Nat}, y < X → ∃ C, dsG G W m t skip base X = dsG G W m t skip base y ++ (dsLine G W m t skip base y ++ C)
  | X + 1, h => by
    rcases Nat.lt_or_ge y X with h1 | h1
    · obtain ⟨C, hC⟩ := dsG_split h1
      refine ⟨C ++ dsLine G W m t skip base X, ?_⟩
      rw [dsG, hC]
      simp
    · obtain rfl : y = X := by omega
      exact ⟨[], by simp [dsG]⟩

/-! ### coding -/
theorem enc_row (L : List (Nat × Nat)) (y : Nat) : ∀ k, rowG t (stepP m base) y k (G, cdL m L) = .inl (G, cdL m (L ++ dsRow G m t base y k))
  | 0 => by simp [rowG, dsRow]
  | k + 1 => by
    unfold rowG
    rw [enc_row L y k]
    simp only [stepP, upd_self]
    rw [dsRow_succ, ← List.append_assoc, cdL_snoc]
variable (hG : ∀ x y : Int, ¬ (0 ≤ x ∧ x < W ∧ 0 ≤ y) → G x y = false)
include hG
theorem enc_g (L : List (Nat × Nat)) : ∀ y, runG W t skip (stepP m base) y (G, cdL m L) = .inl (G, cdL m (L ++ dsG G W m t skip base y))
  | 0 => by simp [runG, dsG]
  | y + 1 => by
    unfold runG
    rw [enc_g L y]
    cases skip with
    | false =>
      simp only []
      rw [enc_row, dsG, dsLine, List.append_assoc]
    | true =>
      simp only [stepP]
      rw [← cdL_snoc m _ (idx (base + ((gsize t : Nat) : Int)) m, (sameB G W y).toNat)]
      cases hs : sameB G W y with
      | true =>
        simp only []
        rw [copy_same (fun a b h => hG a b fun hh => h ⟨hh.1, hh.2.1⟩) hs, dsG]
        simp only [dsLine, hs]
        simp
      | false =>
        simp only []
        rw [enc_row, dsG]
        simp only [dsLine, hs]
        simp

/-! ### decoding -/
theorem part_gctx {x y : Nat} (ht : t < 4) (hx : x < W) : gctx t (partG G W (y * W + x)) x y = gctx t G x y := by
  unfold gctx pb
  congr 1
  refine List.map_congr_left fun p hp => ?_
  unfold plcs at hp
  obtain ⟨s, hs, hp⟩ := List.mem_flatMap.1 hp
  have hok := spanL_ok ht s hs
  have d1 := hok.d
  have d2 := hok.f
  have d3 := hok.t
  have d4 := hok.z
  unfold spl at hp
  obtain ⟨j, hj, rfl⟩ := List.mem_map.1 hp
  have hj := List.mem_range.1 hj
  unfold spanW at hj
  dsimp only
  refine partG_eq G W hG fun h1 h2 h3 => ?_
  by_cases h : s.1 = 0
  · have e : ((y : Int) + s.1).toNat = y := by omega
    rw [e]
    omega
  · have e : (((y : Int) + s.1).toNat + 1) * W ≤ y * W := Nat.mul_le_mul_right _ (by omega)
    rw [Nat.add_mul, Nat.one_mul] at e
    omega
theorem part_zero : partG G W 0 = fun _ _ => false := by
  have _ := hG
  funext x y
  unfold partG
  rw [decide_eq_false (by omega), Bool.false_and]
theorem part_same {y : Nat} (hs : sameB G W y = true) : copyRow (partG G W (y * W)) y = partG G W ((y + 1) * W) := by
  have hs := fun (x : Nat) (hx : x < W) => by
    unfold sameB at hs
    have := List.all_eq_true.1 hs x (List.mem_range.2 hx)
    exact of_decide_eq_true (p := G (x : Int) (y : Int) = G (x : Int) ((y : Int) - 1)) (by simpa using this)
  funext a b
  unfold copyRow
  by_cases hin : 0 ≤ a ∧ a < (W : Int) ∧ 0 ≤ b
  · by_cases hb : b = (y : Int)
    · subst hb
      have e2 : partG G W ((y + 1) * W) a y = G a y := partG_eq G W hG fun h1 h2 h3 => by
        rw [Int.toNat_natCast, Nat.add_mul, Nat.one_mul]
        omega
      have e3 := hs a.toNat (by omega)
      rw [show ((a.toNat : Nat) : Int) = a by omega] at e3
      rw [e2]
      by_cases hy : y = 0
      · rw [if_neg (fun hh => hh.2 hy)]
        subst hy
        rw [e3, hG a _ (by omega)]
        unfold partG
        rw [decide_eq_false (by omega), Bool.false_and]
      · rw [if_pos ⟨rfl, hy⟩, e3]
        refine partG_eq G W hG fun h1 h2 h3 => ?_
        have e4 : (((y : Int) - 1).toNat + 1) * W ≤ y * W := Nat.mul_le_mul_right _ (by omega)
        rw [Nat.add_mul, Nat.one_mul] at e4
        omega
    · rw [if_neg (fun hh => hb hh.1)]
      unfold partG
      congr 1
      rw [decide_eq_decide]
      constructor
      · rintro ⟨h2, h3, h4, h5⟩
        refine ⟨h2, h3, h4, ?_⟩
        rw [Nat.add_mul, Nat.one_mul]
        omega
      · rintro ⟨h2, h3, h4, h5⟩
        refine ⟨h2, h3, h4, ?_⟩
        rcases Nat.lt_or_ge b.toNat y with h6 | h6
        · have e4 : (b.toNat + 1) * W ≤ y * W := Nat.mul_le_mul_right _ (by omega)
          rw [Nat.add_mul, Nat.one_mul] at e4
          omega
        · exfalso
          have e4 : (y + 1) * W ≤ b.toNat * W := Nat.mul_le_mul_right _ (by omega)
          omega
  · have e : ∀ i a b, ¬ (0 ≤ a ∧ a < (W : Int) ∧ 0 ≤ b) → partG G W i a b = false := fun i a b h => by
      unfold partG
      rw [hG a b h, Bool.and_false]
    rw [e _ a b hin]
    by_cases hb : b = (y : Int) ∧ y ≠ 0
    · rw [if_pos hb, e _ a _ (by omega), e _ a b hin]
    · rw [if_neg hb, e _ a b hin]
variable {L : List (Nat × Nat)} {D : Nat → Dec} (hW : Walk L D)
include hW
theorem dec_row {A : List (Nat × Nat)} {y : Nat} (ht : t < 4) : ∀ k, k ≤ W → ∀ C, L = A ++ (dsRow G m t base y k ++ C) → rowG t (stepG m base) y k (partG G W (y * W), D A.length) = .inl (partG G W (y * W + k), D (A ++ dsRow G m t base y k).length)
  | 0, _, C, _ => by simp [rowG, dsRow]
  | k + 1, hk, C, hL => by
    have hL2 : L = (A ++ dsRow G m t base y k) ++ (idx (base + ((gctx t G (k : Int) (y : Int) : Nat) : Int)) m, (G (k : Int) (y : Int)).toNat) :: C := by
      rw [hL, dsRow_succ]
      simp
    have hs := hW.at hL2
    unfold rowG
    rw [dec_row ht k (by omega) ((idx (base + ((gctx t G (k : Int) (y : Int) : Nat) : Int)) m, (G (k : Int) (y : Int)).toNat) :: C) (hL2.trans (List.append_assoc _ _ _))]
    simp only [stepG]
    rw [part_gctx G W t hG ht (by omega), hs]
    dsimp only
    have hbit : decide ((G (k : Int) (y : Int)).toNat = 1) = G (k : Int) (y : Int) := by cases G (k : Int) (y : Int) <;> rfl
    rw [hbit, partG_next G W hG (by omega), dsRow_succ]
    simp [Nat.add_assoc]
theorem dec_g {A C : List (Nat × Nat)} {X : Nat} (ht : t < 4) (hL : L = A ++ (dsG G W m t skip base X ++ C)) : ∀ y, y ≤ X → runG W t skip (stepG m base) y (fun _ _ => false, D A.length) = .inl (partG G W (y * W), D (A ++ dsG G W m t skip base y).length)
  | 0, _ => by
    rw [Nat.zero_mul, part_zero G W hG]
    simp [runG, dsG]
  | y + 1, hy => by
    obtain ⟨C2, hC2⟩ := dsG_split G W m t skip base (y := y) (X := X) (by omega)
    unfold runG
    rw [dec_g ht hL y (by omega)]
    rw [hC2] at hL
    have hrow : (y + 1) * W = y * W + W := by rw [Nat.add_mul, Nat.one_mul]
    cases skip with
    | false =>
      simp only []
      rw [dec_row G W m t base hG hW (A := A ++ dsG G W m t false base y) ht W (Nat.le_refl _) (C2 ++ C) (hL.trans (by simp [dsLine])), dsG, dsLine, hrow, List.append_assoc]
    | true =>
      simp only [stepG]
      cases hs : sameB G W y with
      | true =>
        have h1 := hW.at (A := A ++ dsG G W m t true base y) (B := C2 ++ C) (d := (idx (base + ((gsize t : Nat) : Int)) m, 1)) (hL.trans (by simp [dsLine, hs]))
        rw [h1]
        simp only [decide_true]
        rw [part_same G W hG hs, dsG]
        simp [dsLine, hs, Nat.add_assoc]
      | false =>
        have h1 := hW.at (A := A ++ dsG G W m t true base y) (B := dsRow G m t base y W ++ (C2 ++ C)) (d := (idx (base + ((gsize t : Nat) : Int)) m, 0)) (hL.trans (by simp [dsLine, hs]))
        rw [h1]
        simp only [show decide ((0 : Nat) = 1) = false from rfl]
        have h2 := dec_row G W m t base hG hW (A := (A ++ dsG G W m t true base y) ++ [(idx (base + ((gsize t : Nat) : Int)) m, 0)]) (y := y) ht W (Nat.le_refl _) (C2 ++ C) (hL.trans (by simp [dsLine, hs]))
        rw [List.length_append, List.length_singleton] at h2
        rw [h2, dsG, hrow]
        simp [dsLine, hs, Nat.add_assoc]
end
end Go.Bm

/- GnK: generic coding: back again, a few rows, wakes, light. -/
set_option linter.unusedVariables false
set_option linter.unusedSimpArgs false
namespace Go.Bm
open Go Go.Den Go.Den.YtfaclehehhgpcaaGreat
open Go.Ar (Dec decN newC newD bytesM flushM)

theorem GEncR.bytes {w b template : Int} {skip : Bool} {ws : List Nat} {e : Int} {bs : List Nat} (h : GEncR w b ws template skip e bs) : (∀ x ∈ bs, x < 256) ∧ bs.length < 140737488351300 := by
  rcases h with ⟨_, _, rfl⟩ | ⟨_, _, _, rfl⟩ | ⟨_, _, _, G, s', k, _, _, hok, rfl⟩
  · exact ⟨(fun x hx => by cases hx), by decide⟩
  · exact ⟨(fun x hx => by cases hx), by decide⟩
  · refine ⟨Go.Ar.flushM_lt hok.wf, ?_⟩
    have h1 := Go.Ar.flushM_len s'
    have h2 := hok.wf.len
    have h3 := hok.wf.n
    omega
theorem GGetR.len {bytes : List Nat} {m n0 : Nat} {base w b template : Int} {skip : Bool} {s : Dec} {e a c : Int} {bs : List Nat} {s' : Dec} (h : GGetR bytes m n0 base w b template skip s e a c bs s') : bs.length < 140737488351300 := by
  rcases h with ⟨_, _, _, _, rfl, _⟩ | ⟨_, _, _, _, _, rfl, _⟩ | ⟨_, _, _, _, _, _, rfl, _⟩ | ⟨_, p2, _, _, _, _, _, l, _⟩
  · decide
  · decide
  · decide
  · obtain ⟨W, X, rfl, rfl, hW1, hW2, hX1, hX2, hWX⟩ := size_nat p2
    simp only [Int.toNat_natCast] at l
    have := hw_le hW1 hWX
    omega
theorem GEncR.ok {w b template : Int} {skip : Bool} {ws : List Nat} {e : Int} {bs : List Nat} (ht : 0 ≤ template ∧ template < 4) (hm : MayP w b ws) (h : GEncR w b ws template skip e bs) : e = 0 := by
  rcases h with ⟨a, _⟩ | ⟨_, a, _⟩ | ⟨_, _, e, _⟩
  · exact absurd ht a
  · exact absurd hm a
  · exact e
/-- What is coded, said with the list of decisions. -/
theorem GEncR.list {W X t : Nat} {skip : Bool} {ws : List Nat} {e : Int} {bs : List Nat} (ht : t < 4) (hm : MayP (W : Int) (X : Int) ws) (h : GEncR (W : Int) (X : Int) ws (t : Int) skip e bs) :
    e = 0 ∧ (dsG (getP ws W X) W (gsize t + 1) t skip 0 X).length ≤ 16777216 ∧ bs = bytesM (flushM (cdL (gsize t + 1) (dsG (getP ws W X) W (gsize t + 1) t skip 0 X))) := by
  have hpx := size_px1 hm.1
  simp only [Int.toNat_natCast, Nat.zero_add] at hpx
  rcases h with ⟨a, _⟩ | ⟨_, a, _⟩ | ⟨_, _, rfl, Gz, sz, k, hrun, hkk, hok, rfl⟩
  · exact absurd ⟨by omega, by omega⟩ a
  · exact absurd hm a
  simp only [Int.toNat_natCast] at hrun
  have h1 := enc_g (getP ws W X) W (gsize t + 1) t skip 0 (getP_out ws W X) [] X
  rw [List.nil_append] at h1
  have h2 : cdL (gsize t + 1) [] = Go.Ar.newC (gsize t + 1) := rfl
  rw [h2, hrun] at h1
  injection h1 with h1
  injection h1 with _ h1
  subst h1
  exact ⟨rfl, Nat.le_trans (dsG_len _ _ _ _ _ _ _) hpx, rfl⟩
/-- As many rows, or fewer. -/
theorem g_top {W X n t : Nat} {skip : Bool} {ws : List Nat} {e e' w' b' : Int} {bs bs' : List Nat} {s' : Dec} (ht : t < 4) (hn : n ≤ X) (hn1 : 1 ≤ n) (hm : MayP (W : Int) (X : Int) ws)
    (henc : GEncR (W : Int) (X : Int) ws (t : Int) skip e bs) (hget : GGetR bs (gsize t + 1) 0 0 (W : Int) (n : Int) (t : Int) skip (newD bs (gsize t + 1)) e' w' b' bs' s') :
    e = 0 ∧ e' = 0 ∧ w' = (W : Int) ∧ b' = (n : Int) ∧ bs'.length = n * wds W ∧ W64 bs' ∧ PadZ W n bs' ∧ getP bs' W n = fun (x y : Int) => decide (y < n) && getP ws W X x y := by
  obtain ⟨W', X', e1, e2, hW1, hW2, hX1, hX2, hWX⟩ := size_nat hm.1
  obtain rfl : W = W' := by omega
  obtain rfl : X = X' := by omega
  have hWn : W * n ≤ W * X := Nat.mul_le_mul_left _ hn
  have hsz : SizeP (W : Int) (n : Int) := by
    refine ⟨by omega, by omega, by omega, by omega, ?_⟩
    rw [mul_cast]
    omega
  obtain ⟨rfl, hlen, hbs⟩ := henc.list ht hm
  rcases hget with ⟨a, _⟩ | ⟨_, a, _⟩ | ⟨_, _, a, _⟩ | ⟨_, _, _, rfl, rfl, rfl, hrun2, hl, hww, hz, _⟩
  · exact absurd ⟨by omega, by omega⟩ a
  · exact absurd hsz a
  · exact absurd ⟨by omega, by simp only [Int.toNat_natCast]; omega⟩ a
  simp only [Int.toNat_natCast] at hrun2 hl hz
  refine ⟨rfl, rfl, rfl, rfl, hl, hww, hz, ?_⟩
  have hwalk := walk_of (m := gsize t + 1) (dsG_bit (getP ws W X) W (gsize t + 1) t skip 0 X) hlen
  rw [← hbs] at hwalk
  have h1 := dec_g (getP ws W X) W (gsize t + 1) t skip 0 (getP_out ws W X) hwalk (A := []) (C := []) (X := X) ht (by simp) n hn
  have h2 : decN (kOf (dsG (getP ws W X) W (gsize t + 1) t skip 0 X)) bs (gsize t + 1) ([] : List (Nat × Nat)).length = newD bs (gsize t + 1) := rfl
  rw [h2, hrun2, part_rows] at h1
  injection h1 with h1
  injection h1 with h1 _
theorem g_back {W X t : Nat} {skip : Bool} {ws : List Nat} {e e' w' b' : Int} {bs bs' : List Nat} {s' : Dec} (ht : t < 4) (hm : MayP (W : Int) (X : Int) ws) (hw : W64 ws)
    (henc : GEncR (W : Int) (X : Int) ws (t : Int) skip e bs) (hget : GGetR bs (gsize t + 1) 0 0 (W : Int) (X : Int) (t : Int) skip (newD bs (gsize t + 1)) e' w' b' bs' s') :
    e = 0 ∧ e' = 0 ∧ w' = (W : Int) ∧ b' = (X : Int) ∧ bs' = ws := by
  obtain ⟨W', X', e1, e2, hW1, hW2, hX1, hX2, hWX⟩ := size_nat hm.1
  obtain rfl : W = W' := by omega
  obtain rfl : X = X' := by omega
  obtain ⟨h1, h2, h3, h4, h5, h6, h7, h8⟩ := g_top ht (Nat.le_refl X) hX1 hm henc hget
  refine ⟨h1, h2, h3, h4, getP_ext h5 (may_len hm) h6 hw h7 (fun y hy x k1 k2 => pix_of_may hm hy k1 k2) ?_⟩
  rw [h8]
  funext x y
  by_cases hy : y < (X : Int)
  · rw [decide_eq_true hy, Bool.true_and]
  · rw [decide_eq_false hy, Bool.false_and]
    unfold getP
    rw [decide_eq_false (by omega), Bool.false_and]
end Go.Bm

/- PbC: sheets and regions as bytes, both sides. -/
set_option linter.unusedVariables false
set_option linter.unusedSimpArgs false
namespace Go.Bm
open Go Go.Den Go.Den.YtfaclehehhgpcaaGreat
open Go.Ar (u8s)

section
variable {h0 h : Heap} {F : List Nat} {A B D : List Ent}
/-- append, be it of nothing. -/
theorem Slot.appN {t : TypeId} {sz by_ n c m : Nat} {q : Option Addr} {xs z : List Value} (hd : Slot t sz D q n c xs) (H : Hp h0 F h (A ++ (D ++ B))) (hz : z.length = sz) (hs0 : 1 ≤ sz) {src : Option Addr} {new : List Value} (hr : Go.Den.rdO h src (m * sz) new) (hm : new.length = m * sz)
    (hnew : ∀ v ∈ new, v.oneCell' = true) (hby : (n + m) * by_ ≤ 70368744177664)
    {K : Option Addr → Nat → Nat → Heap → Prop} (hk : ∀ (D' : List Ent) (q' : Option Addr) (c' : Nat) h', Slot t sz D' q' (n + m) c' (xs ++ new) → Hp h0 F h' (A ++ (D' ++ B)) → K q' (n + m) c' h') : appC h t sz by_ z q n c src m K := by
  rcases Nat.eq_zero_or_pos m with h1 | h1
  · subst h1
    rw [Nat.zero_mul] at hr hm
    have hn0 : new = [] := List.length_eq_zero_iff.1 hm
    subst hn0
    have hnc : n ≤ c := by
      obtain ⟨hl, ⟨_, _, h2, _⟩ | ⟨b, rest, _, _, h2⟩⟩ := hd
      · omega
      · rw [List.length_append, hl] at h2
        exact Nat.le_of_mul_le_mul_right (Nat.le.intro h2) hs0
    refine ⟨[], by rw [Nat.zero_mul]; exact hr, ?_⟩
    rw [if_pos (by omega)]
    have := hk D q c h (by rw [List.append_nil, Nat.add_zero]; exact hd) H
    cases q with
    | none => exact this
    | some a => exact this
  · exact Slot.app hd H hz hr hm hnew h1 hby hk
end
/-- Bytes of numbers; a byte as one below 0, less one. -/
def wrB (v : Int) : List Nat := if v < 0 then [(-v - 1).toNat] else grp v.toNat
def wrt (l : List Int) : List Nat := l.flatMap wrB
def ints64 (l : List Int) : List Value := l.map fun v => .int .i64 v
theorem wrB_len (v : Int) : (wrB v).length ≤ 11 := by
  unfold wrB
  split
  · show 1 ≤ 11; omega
  · exact (grp_len _).2
theorem wrt_snoc (l : List Int) (v : Int) : wrt (l ++ [v]) = wrt l ++ wrB v := by
  unfold wrt
  rw [List.flatMap_append]
  congr 1
  show wrB v ++ [] = _
  rw [List.append_nil]
theorem wrt_len : ∀ l : List Int, (wrt l).length ≤ 11 * l.length
  | [] => Nat.le_refl _
  | v :: l => by
    have h1 := wrt_len l
    have h2 := wrB_len v
    show (wrB v ++ wrt l).length ≤ _
    rw [List.length_append, List.length_cons]
    omega
section
variable {hB : Heap} {q : Option Addr} {c : Nat} {l : List Int} {K : Value → Heap → Prop} {Kp : List PanicEntry → Heap → Prop}
set_option maxRecDepth 100000 in
set_option maxHeartbeats 2000000 in
theorem written_ok (hr : rdO hB q (l.length * 1) (ints64 l)) (hl : l.length ≤ 10) (hb : ∀ v ∈ l, -256 ≤ v ∧ v < 1099511627776)
    (hk : ∀ D qo co h', Slot T_uint8 1 D qo (wrt l).length co (u8s (wrt l)) → Hp hB [] h' D → K (.slice qo (wrt l).length co) h') :
    CP F_page_written #[.slice q l.length c] hB K Kp := by
  refine call_page_written ?_
  unfold page_written
  refine newWriter_ok fun w h H => ?_
  refine ⟨_, _, rfl, ?_⟩
  refine bcase_false (by rfl) ?_
  refine ⟨fun m vs h' => ∃ (i : Nat) (L' : List Ent), i + m = l.length ∧ vs = [.int .i64 (i : Nat)] ∧ WrL w (wrt (l.take i)) L' ∧ Hp hB [] h' L', ⟨l.length, 0, _, by omega, rfl, ⟨none, 0, [], Slot.nil _ _, rfl⟩, H⟩, ?_⟩
  clear H
  rintro m h u xa ⟨i, L', him, hxx, hw, H⟩
  injection hxx with hx1 hxx
  injection hx1 with _ hx1
  subst xa
  have hwl := wrt_len (l.take i)
  have htl : (l.take i).length ≤ 10 := by rw [List.length_take]; omega
  refine bcase_dec (fun h1 => ?_) fun h1 => ?_
  · have hi : i < l.length := by omega
    obtain ⟨v, hv⟩ : ∃ v, l[i]? = some v := ⟨_, List.getElem?_eq_getElem hi⟩
    have hvb := hb v (List.mem_of_getElem? hv)
    obtain ⟨a, hqa, hc⟩ := rdO_cell (H.rdO hr) (i := i) (v := .int .i64 v) (by unfold ints64; rw [List.getElem?_map, hv]; rfl)
    subst hqa
    have hnx : wrt (l.take (i + 1)) = wrt (l.take i) ++ wrB v := by rw [take_snocG hv, wrt_snoc]
    refine needs_of (by omega) (ptr_of (a := a) ?_)
    rw [Int.toNat_natCast, Nat.mul_one]
    refine ldI_of hc ?_
    refine bcase_dec (fun h2 => ?_) fun h2 => ?_
    · have e : wrB v = [(-v - 1).toNat] := by unfold wrB; rw [if_pos h2]
      refine bindI_of ((-v)) (by exact i64_at _ _ (by omega) (by omega) (by omega)) ?_
      refine bindI_of ((-v - 1)) (by exact i64_in _ (by omega) (by omega)) ?_
      refine bindI_of ((((-v - 1).toNat : Nat) : Int)) (by exact u64_at _ _ (by omega) (by omega) (by omega)) ?_
      refine put8_ok H hw (by omega) (by omega) fun L'' h hw H => ?_
      refine ⟨_, rfl, ?_⟩
      refine bindI_of (((i + 1 : Nat) : Int)) (by exact i64_at _ _ (by omega) (by omega) (by omega)) ?_
      exact ⟨m - 1, by omega, i + 1, L'', by omega, rfl, by rw [hnx, e]; exact hw, H⟩
    · have e : wrB v = grp v.toNat := by unfold wrB; rw [if_neg h2]
      refine bindI_of (((v.toNat : Nat) : Int)) (by exact u64_at _ _ (by omega) (by omega) (by omega)) ?_
      refine var_ok H hw (by omega) (by omega) fun L'' h hw H => ?_
      refine ⟨_, rfl, ?_⟩
      refine bindI_of (((i + 1 : Nat) : Int)) (by exact i64_at _ _ (by omega) (by omega) (by omega)) ?_
      exact ⟨m - 1, by omega, i + 1, L'', by omega, rfl, by rw [hnx, e]; exact hw, H⟩
  · rw [List.take_of_length_le (by omega)] at hw hwl
    refine bytes_ok H hw (by omega) fun D qo co h' hs H => ?_
    refine ⟨_, _, _, rfl, ?_⟩
    exact hk D qo co h' hs (Hp.suf H)
end

/-! ### sheets -/
section
variable {hB : Heap} {w g d s : Int} {K : Value → Heap → Prop} {Kp : List PanicEntry → Heap → Prop}
def EncSh (w g d s : Int) (e : Int) (bs : List Nat) : Prop := ¬ SheetP w g d s ∧ e = 150 ∧ bs = [] ∨ SheetP w g d s ∧ e = 0 ∧ bs = wrt [w, g, -d - 1, s]
theorem EncSh.len {e : Int} {bs : List Nat} (h : EncSh w g d s e bs) : bs.length ≤ 44 := by
  rcases h with ⟨_, _, rfl⟩ | ⟨_, _, rfl⟩
  · exact Nat.zero_le _
  · exact wrt_len _
theorem sheet_b (h : SheetP w g d s) : (1 ≤ w ∧ w ≤ 1048576) ∧ (1 ≤ g ∧ g ≤ 1048576) ∧ (0 ≤ d ∧ d ≤ 1) ∧ (0 ≤ s ∧ s ≤ 1048576) := by
  unfold SheetP SizeP at h
  omega
set_option maxRecDepth 100000 in
theorem encSheet_ok (hk : ∀ e bs D qo co h', EncSh w g d s e bs → Slot T_uint8 1 D qo bs.length co (u8s bs) → Hp hB [] h' D → K (.tuple #[.slice qo bs.length co, .int .i64 e]) h') :
    CP F_page_EncodeSheet #[.agg #[.int .i64 w, .int .i64 g, .int .i64 d, .int .i64 s]] hB K Kp := by
  refine call_page_EncodeSheet ?_
  unfold page_EncodeSheet
  have H := Hp.nil hB []
  refine newC_hp H fun r5 h H => ?_
  repeat first | with_reducible refine ldI_of (by with_unfolding_all first | exact hpA H 0 rfl rfl | exact Hp.cell H 0 rfl rfl | exact hpB H 0 rfl rfl | exact hpC H 0 rfl rfl) ?_ | with_reducible refine ldS_of (by with_unfolding_all first | exact hpA H 0 rfl rfl | exact Hp.cell H 0 rfl rfl | exact hpB H 0 rfl rfl | exact hpC H 0 rfl rfl) ?_ | with_reducible refine ldP_of (by with_unfolding_all first | exact hpA H 0 rfl rfl | exact Hp.cell H 0 rfl rfl | exact hpB H 0 rfl rfl | exact hpC H 0 rfl rfl) ?_ | with_reducible refine ldB_of (by with_unfolding_all first | exact hpA H 0 rfl rfl | exact Hp.cell H 0 rfl rfl | exact hpB H 0 rfl rfl | exact hpC H 0 rfl rfl) ?_ | with_reducible refine ldT_of (by with_unfolding_all first | exact hpA H 0 rfl rfl | exact Hp.cell H 0 rfl rfl | exact hpB H 0 rfl rfl | exact hpC H 0 rfl rfl) ?_
  refine sheet_ok fun b h hb e => ?_
  have H := H.ext e
  refine ⟨_, rfl, ?_⟩
  refine bcase_not (fun h1 => ?_) fun h1 => ?_
  · exact hk 150 [] [] none 0 h (.inl ⟨(fun hh => by rw [hb.2 hh] at h1; cases h1), rfl, rfl⟩) (Slot.nil _ _) (H.take 0)
  have hP := hb.1 h1
  obtain ⟨b1, b2, b3, b4⟩ := sheet_b hP
  repeat first | with_reducible refine ldI_of (by with_unfolding_all first | exact hpA H 0 rfl rfl | exact Hp.cell H 0 rfl rfl | exact hpB H 0 rfl rfl | exact hpC H 0 rfl rfl) ?_ | with_reducible refine ldS_of (by with_unfolding_all first | exact hpA H 0 rfl rfl | exact Hp.cell H 0 rfl rfl | exact hpB H 0 rfl rfl | exact hpC H 0 rfl rfl) ?_ | with_reducible refine ldP_of (by with_unfolding_all first | exact hpA H 0 rfl rfl | exact Hp.cell H 0 rfl rfl | exact hpB H 0 rfl rfl | exact hpC H 0 rfl rfl) ?_ | with_reducible refine ldB_of (by with_unfolding_all first | exact hpA H 0 rfl rfl | exact Hp.cell H 0 rfl rfl | exact hpB H 0 rfl rfl | exact hpC H 0 rfl rfl) ?_ | with_reducible refine ldT_of (by with_unfolding_all first | exact hpA H 0 rfl rfl | exact Hp.cell H 0 rfl rfl | exact hpB H 0 rfl rfl | exact hpC H 0 rfl rfl) ?_
  refine bindI_of ((-d)) (by exact i64_at _ _ (by omega) (by omega) (by omega)) ?_
  refine bindI_of ((-d - 1)) (by exact i64_in _ (by omega) (by omega)) ?_
  repeat first | with_reducible refine ldI_of (by with_unfolding_all first | exact hpA H 0 rfl rfl | exact Hp.cell H 0 rfl rfl | exact hpB H 0 rfl rfl | exact hpC H 0 rfl rfl) ?_ | with_reducible refine ldS_of (by with_unfolding_all first | exact hpA H 0 rfl rfl | exact Hp.cell H 0 rfl rfl | exact hpB H 0 rfl rfl | exact hpC H 0 rfl rfl) ?_ | with_reducible refine ldP_of (by with_unfolding_all first | exact hpA H 0 rfl rfl | exact Hp.cell H 0 rfl rfl | exact hpB H 0 rfl rfl | exact hpC H 0 rfl rfl) ?_ | with_reducible refine ldB_of (by with_unfolding_all first | exact hpA H 0 rfl rfl | exact Hp.cell H 0 rfl rfl | exact hpB H 0 rfl rfl | exact hpC H 0 rfl rfl) ?_ | with_reducible refine ldT_of (by with_unfolding_all first | exact hpA H 0 rfl rfl | exact Hp.cell H 0 rfl rfl | exact hpB H 0 rfl rfl | exact hpC H 0 rfl rfl) ?_
  refine newC_hp H fun r20 h H => ?_
  have hr : rdO h (some ⟨r20, 0, none⟩) (([w, g, -d - 1, s] : List Int).length * 1) (ints64 [w, g, -d - 1, s]) := Hp.rdO_mem (rest := []) H (List.mem_append_right _ (List.mem_singleton.2 rfl)) rfl
  refine written_ok (l := [w, g, -d - 1, s]) hr (by show 4 ≤ 10; omega) (fun v hv => by
    have hv : v = w ∨ v = g ∨ v = -d - 1 ∨ v = s := by simpa using hv
    rcases hv with rfl | rfl | rfl | rfl <;> omega) fun D qo co h' hs H' => ?_
  replace H := H.join H' hs.w
  refine ⟨_, _, _, rfl, ?_⟩
  exact hk 0 _ D qo co h' (.inr ⟨hP, rfl, rfl⟩) hs (Hp.suf H)
end
end Go.Bm

/- Written by gen.py: the conditions of the functions of law15PageEncodes. -/
set_option linter.unusedVariables false
set_option linter.unusedSimpArgs false
namespace Go.Den.YtfaclehehhgpcaaGreat
open Go Go.Den

/- burin/burinlaw15.PageEncodes -/
end Go.Den.YtfaclehehhgpcaaGreat

/- Written by gen.py: each condition of the functions of law15PageEncodes is the one of its body; so it is enough for its call. -/
set_option linter.unusedVariables false
set_option linter.unusedSimpArgs false
namespace Go.Den.YtfaclehehhgpcaaGreat
open Go Go.Den

end Go.Den.YtfaclehehhgpcaaGreat

/- PbD: regions as bytes, both sides; the law PageEncodes, said of memory. -/
set_option linter.unusedVariables false
set_option linter.unusedSimpArgs false
namespace Go.Bm
open Go Go.Den Go.Den.YtfaclehehhgpcaaGreat
open Go.Ar (u8s u8s_length u8s_cells)

def RegP (x y op t w b : Int) (ws : List Nat) : Prop := (0 ≤ x ∧ x ≤ 1048576) ∧ (0 ≤ y ∧ y ≤ 1048576) ∧ (0 ≤ op ∧ op ≤ 4) ∧ (0 ≤ t ∧ t < 4) ∧ MayP w b ws
def howR (op t : Int) (sk : Bool) : Int := t + 8 * op + (if sk = true then 4 else 0)
def EncRg (x y op t : Int) (sk : Bool) (w b : Int) (ws : List Nat) (e : Int) (bs : List Nat) : Prop :=
  ¬ RegP x y op t w b ws ∧ e = 150 ∧ bs = [] ∨ RegP x y op t w b ws ∧ e = 0 ∧ ∃ ds, GEncR w b ws t sk 0 ds ∧ bs = wrt [x, y, w, b, -(howR op t sk) - 1] ++ ds
theorem GEncR.len2 {w b template : Int} {skip : Bool} {ws : List Nat} {e : Int} {bs : List Nat} (h : GEncR w b ws template skip e bs) : bs.length ≤ 70000000000000 := by
  rcases h with ⟨_, _, rfl⟩ | ⟨_, _, _, rfl⟩ | ⟨_, _, _, G, s', k, _, _, hok, rfl⟩
  · exact Nat.zero_le _
  · exact Nat.zero_le _
  · have h1 := Go.Ar.flushM_len s'
    have h2 := hok.wf.len
    have h3 := hok.wf.n
    omega
section
variable {x y op t w b : Int} {sk : Bool} {ws : List Nat}
theorem EncRg.len {e : Int} {bs : List Nat} (h : EncRg x y op t sk w b ws e bs) : bs.length < 140737488351300 := by
  rcases h with ⟨_, _, rfl⟩ | ⟨_, _, ds, g, rfl⟩
  · decide
  · have h1 := g.len2
    have h2 := wrt_len [x, y, w, b, -(howR op t sk) - 1]
    have h3 : ([x, y, w, b, -(howR op t sk) - 1] : List Int).length = 5 := rfl
    rw [List.length_append]
    omega
theorem reg_b (h : RegP x y op t w b ws) : (0 ≤ x ∧ x ≤ 1048576) ∧ (0 ≤ y ∧ y ≤ 1048576) ∧ (1 ≤ w ∧ w ≤ 1048576) ∧ (1 ≤ b ∧ b ≤ 1048576) ∧ (0 ≤ howR op t sk ∧ howR op t sk ≤ 39) := by
  obtain ⟨h1, h2, h3, h4, h5, _⟩ := h
  unfold SizeP at h5
  unfold howR
  refine ⟨h1, h2, by omega, by omega, ?_⟩
  split <;> omega
variable {hB : Heap} {q1 : Option Addr} {c1 : Nat} {K : Value → Heap → Prop} {Kp : List PanicEntry → Heap → Prop}
set_option maxRecDepth 100000 in
set_option maxHeartbeats 4000000 in
theorem encRegion_ok (hr1 : rdO hB q1 (ws.length * 1) (u64s ws)) (hw1 : W64 ws) (hl1 : ws.length < 140737488351300) (hk : ∀ e bs D qo co h', EncRg x y op t sk w b ws e bs → Slot T_uint8 1 D qo bs.length co (u8s bs) → Hp hB [] h' D → K (.tuple #[.slice qo bs.length co, .int .i64 e]) h') :
    CP F_page_EncodeRegion #[.agg #[.int .i64 x, .int .i64 y, .int .i64 op, .int .i64 t, .bool sk, .int .i64 w, .int .i64 b, .slice q1 ws.length c1]] hB K Kp := by
  refine call_page_EncodeRegion ?_
  unfold page_EncodeRegion
  have H := Hp.nil hB []
  refine newC_hp H fun r9 h H => ?_
  have bad : ∀ h', ¬ RegP x y op t w b ws → Hp hB [] h' [⟨r9, true, T_api_Region, [.int .i64 x, .int .i64 y, .int .i64 op, .int .i64 t, .bool sk, .int .i64 w, .int .i64 b, .slice q1 ws.length c1]⟩] → K (.tuple #[.slice none 0 0, .int .i64 150]) h' := fun h' hn H => hk 150 [] [] none 0 h' (.inl ⟨hn, rfl, rfl⟩) (Slot.nil _ _) (H.take 0)
  refine ldI_of (hpA H 0 rfl rfl) ?_
  refine within_ok fun b1 hb1 => ?_
  refine ⟨_, rfl, ?_⟩
  refine bcase_not (fun h1 => bad _ (fun hh => by rw [hb1.2 hh.1] at h1; cases h1) H) fun h1 => ?_
  have p1 := hb1.1 h1
  refine ldI_of (hpA H 0 rfl rfl) ?_
  refine within_ok fun b2 hb2 => ?_
  refine ⟨_, rfl, ?_⟩
  refine bcase_not (fun h1 => bad _ (fun hh => by rw [hb2.2 hh.2.1] at h1; cases h1) H) fun h1 => ?_
  have p2 := hb2.1 h1
  refine ldI_of (hpA H 0 rfl rfl) ?_
  refine operation_ok fun b3 hb3 => ?_
  refine ⟨_, rfl, ?_⟩
  refine bcase_not (fun h1 => bad _ (fun hh => by rw [hb3.2 hh.2.2.1] at h1; cases h1) H) fun h1 => ?_
  have p3 := hb3.1 h1
  refine ldI_of (hpA H 0 rfl rfl) ?_
  refine bcase_dec (fun h1 => bad _ (fun hh => by have := hh.2.2.2.1; omega) H) fun h2 => ?_
  refine ldI_of (hpA H 0 rfl rfl) ?_
  refine bcase_dec (fun h1 => bad _ (fun hh => by have := hh.2.2.2.1; omega) H) fun h3 => ?_
  have p4 : 0 ≤ t ∧ t < 4 := ⟨by omega, by omega⟩
  refine ldI_of (hpB H 0 rfl rfl) (ldI_of (hpB H 0 rfl rfl) (ldS_of (hpB H 0 rfl rfl) ?_))
  refine check_ok (H.rdO hr1) hw1 hl1 fun b5 h hb5 e => ?_
  have H := H.ext e
  clear e
  refine ⟨_, rfl, ?_⟩
  refine bcase_not (fun h1 => bad _ (fun hh => by rw [hb5.2 hh.2.2.2.2] at h1; cases h1) H) fun h1 => ?_
  have p5 := hb5.1 h1
  have hP : RegP x y op t w b ws := ⟨p1, p2, p3, p4, p5⟩
  obtain ⟨c1', c2', c3', c4', c5'⟩ := reg_b (sk := sk) hP
  refine ldI_of (hpB H 0 rfl rfl) (ldI_of (hpB H 0 rfl rfl) (ldS_of (hpB H 0 rfl rfl) (ldI_of (hpA H 0 rfl rfl) (ldB_of (hpA H 0 rfl rfl) ?_))))
  refine gEnc_ok (H.rdO hr1) hw1 hl1 fun e ds D qo co h' henc hsl H' => ?_
  replace H := H.join H' hsl.w
  clear H'
  refine ⟨_, _, _, _, rfl, ?_⟩
  obtain rfl := henc.ok p4 p5
  have hdl := henc.len2
  refine bcase_false (by rfl) ?_
  refine ldI_of (hpA H 0 rfl rfl) (ldI_of (hpA H 0 rfl rfl) ?_)
  refine bindI_of ((8 * op)) (by exact i64_in _ (by omega) (by omega)) ?_
  refine bindI_of ((t + 8 * op)) (by exact i64_in _ (by omega) (by omega)) ?_
  refine ⟨fun vs h2 => vs = [.int .i64 (howR op t sk)] ∧ h2 = h', ?_, ?_⟩
  · refine ldB_of (hpA H 0 rfl rfl) ?_
    refine bcase_of (fun h1 => ?_) fun h1 => ?_
    · refine bindI_of ((t + 8 * op + 4)) (by exact i64_in _ (by omega) (by omega)) ?_
      refine ⟨?_, rfl⟩
      unfold howR
      rw [if_pos h1]
    · refine ⟨?_, rfl⟩
      unfold howR
      rw [if_neg (by rw [h1]; decide), Int.add_zero]
  rintro h2 u hw ⟨hh, rfl⟩
  injection hh with hh _
  injection hh with _ hh
  subst hh
  refine ldI_of (hpA H 0 rfl rfl) (ldI_of (hpA H 0 rfl rfl) (ldI_of (hpB H 0 rfl rfl) (ldI_of (hpB H 0 rfl rfl) ?_)))
  obtain ⟨hw, hhw⟩ : ∃ hw, hw = howR op t sk := ⟨_, rfl⟩
  rw [← hhw] at c5' ⊢
  refine bindI_of ((-hw)) (by exact i64_at _ _ (by omega) (by omega) (by omega)) ?_
  refine bindI_of ((-hw - 1)) (by exact i64_in _ (by omega) (by omega)) ?_
  refine newC_hp H fun r56 h H => ?_
  have hr56 : rdO h (some ⟨r56, 0, none⟩) (([x, y, w, b, -hw - 1] : List Int).length * 1) (ints64 [x, y, w, b, -hw - 1]) := Hp.rdO_mem (rest := []) H (List.mem_append_right _ (List.mem_singleton.2 rfl)) rfl
  refine written_ok (l := [x, y, w, b, -hw - 1]) hr56 (by show 5 ≤ 10; omega) (fun v hv => by
    have hv : v = x ∨ v = y ∨ v = w ∨ v = b ∨ v = -hw - 1 := by simpa using hv
    rcases hv with rfl | rfl | rfl | rfl | rfl <;> omega) fun D2 q2 c2 h3 hs2 H' => ?_
  replace H := H.join H' hs2.w
  clear H'
  refine ⟨_, _, _, rfl, ?_⟩
  have hwl := wrt_len [x, y, w, b, -hw - 1]
  have hw5 : ([x, y, w, b, -hw - 1] : List Int).length = 5 := rfl
  have H : Hp hB [] h3 ((([⟨r9, true, T_api_Region, [.int .i64 x, .int .i64 y, .int .i64 op, .int .i64 t, .bool sk, .int .i64 w, .int .i64 b, .slice q1 ws.length c1]⟩] ++ D) ++ [⟨r56, true, T_int, [.int .i64 x, .int .i64 y, .int .i64 w, .int .i64 b, .int .i64 (-hw - 1)]⟩]) ++ (D2 ++ [])) := H.as (by simp only [List.append_nil, List.nil_append, List.append_assoc, List.cons_append])
  refine Slot.appN (m := ds.length) (new := u8s ds) hs2 H rfl (by decide) (Slot.rdO' hsl H fun e he => List.mem_append_left _ (List.mem_append_left _ (List.mem_append_right _ he))) (by rw [u8s_length, Nat.mul_one]) (u8s_cells _) (by omega) fun D3 q3 c3 h4 hs3 H => ?_
  have el : (wrt [x, y, w, b, -hw - 1]).length + ds.length = (wrt [x, y, w, b, -hw - 1] ++ ds).length := (List.length_append).symm
  have eu : u8s (wrt [x, y, w, b, -hw - 1]) ++ u8s ds = u8s (wrt [x, y, w, b, -hw - 1] ++ ds) := by simp [u8s]
  rw [el, eu] at hs3
  rw [el]
  exact hk 0 _ D3 q3 c3 h4 (.inr ⟨hP, rfl, ds, henc, by rw [hhw]⟩) hs3 (by have := Hp.suf H; rw [List.append_nil] at this; exact this)
end
end Go.Bm
