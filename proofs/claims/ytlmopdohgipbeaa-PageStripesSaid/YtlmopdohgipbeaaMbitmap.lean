/- Written by gen.py: the conditions of the functions of bitmap. -/
import Derived.Test.YtlmopdohgipbeaaNums
set_option linter.unusedVariables false
set_option linter.unusedSimpArgs false
namespace Go.Den.Ytlmopdohgipbeaa
open Go Go.Den

/- burin/bitmap.New -/
set_option maxRecDepth 100000 in
def bitmap_New (C : CallP) (w : Int) (h' : Int) (h : Heap) (K : Value → Heap → Prop) (Kp : List PanicEntry → Heap → Prop) : Prop :=
C F_bitmap_sized #[.int .i64 w, .int .i64 h'] h (fun v_1 h_2 =>
∃ (r_3 : Bool), v_1 = .bool r_3 ∧ (
bcase (!r_3) (
K (.tuple #[.pointer none, .int .i64 20]) h_2) <|
bindI (IntKind.i64.wrap (w + (63 : Int))) fun z_4 =>
bindI (IntKind.i64.wrap (z_4.tdiv (64 : Int))) fun z_5 =>
bindI (IntKind.i64.wrap (h' * z_5)) fun z_6 =>
needs (0 ≤ z_6 ∧ z_6 ≤ z_6 ∧ z_6 ≤ 9223372036854775807 ∧ ((8 : Nat) : Int) * z_6 ≤ 281474976710656) <|
newC h_2 (repZ [.int .u64 0] z_6.toNat) T_uint64 fun r_7 h_8 =>
newC h_8 [.int .i64 w, .int .i64 h', .int .i64 z_5, .slice (some ⟨r_7, 0, none⟩) z_6.toNat z_6.toNat] T_bitmap_Map fun r_9 h_10 =>
K (.tuple #[.pointer (some ⟨r_9, 0, none⟩), .int .i64 0]) h_10)) (Kp)

/- (*burin/bitmap.Map).Fill -/
set_option maxRecDepth 100000 in
def bitmap_Map_Fill (C : CallP) (a0 : Option Addr) (a1 : Int) (a2 : Int) (a3 : Int) (a4 : Int) (a5 : Int) (h : Heap) (K : Value → Heap → Prop) (Kp : List PanicEntry → Heap → Prop) : Prop :=
∃ K_1 : List Value → Heap → Prop, (
bcase (decide (a3 < (0 : Int))) (
K (.int .i64 24) h) <|
bcase (decide (a4 < (0 : Int))) (
K (.int .i64 24) h) <|
bcase (a5 != (0 : Int)) (
bcase (a5 != (1 : Int)) (
K (.int .i64 23) h) <|
K_1 [] h) <|
K_1 [] h) ∧ ∀ (h_2 : Heap) (u_3 : Nat → Value) , K_1 [] h_2 → (
ptr a0 fun a_4 =>
ldI h_2 (a_4.add 0) .i64 fun x_5 =>
C F_bitmap_cut #[.int .i64 a1, .int .i64 a3, .int .i64 x_5] h_2 (fun v_6 h_7 =>
∃ (r_8 : Int), ∃ (r_9 : Int), v_6 = .tuple #[.int .i64 r_8, .int .i64 r_9] ∧ (
bindI (IntKind.i64.wrap (a1 + r_8)) fun z_10 =>
ptr a0 fun a_11 =>
ldI h_7 (a_11.add 1) .i64 fun x_12 =>
C F_bitmap_cut #[.int .i64 a2, .int .i64 a4, .int .i64 x_12] h_7 (fun v_13 h_14 =>
∃ (r_15 : Int), ∃ (r_16 : Int), v_13 = .tuple #[.int .i64 r_15, .int .i64 r_16] ∧ (
bindI (IntKind.i64.wrap (a2 + r_15)) fun z_17 =>
bcase (r_9 == (0 : Int)) (
K (.int .i64 0) h_14) <|
bcase (r_16 == (0 : Int)) (
K (.int .i64 0) h_14) <|
∃ J_18 : Nat → List Value → Heap → Prop, (∃ n_20, J_18 n_20 [.int .i64 z_17] h_14) ∧ ∀ (n_20 : Nat) (h_21 : Heap) (u_22 : Nat → Value) (x_23 : Int), J_18 n_20 [.int .i64 x_23] h_21 → (
bindI (IntKind.i64.wrap (z_17 + r_16)) fun z_24 =>
bcase (decide (x_23 < z_24)) (
bindI (IntKind.i64.wrap (z_10.tdiv (64 : Int))) fun z_25 =>
∃ J_26 : Nat → List Value → Heap → Prop, (∃ n_28, J_26 n_28 [.int .i64 z_25] h_21) ∧ ∀ (n_28 : Nat) (h_29 : Heap) (u_30 : Nat → Value) (x_31 : Int), J_26 n_28 [.int .i64 x_31] h_29 → (
bindI (IntKind.i64.wrap (z_10 + r_9)) fun z_32 =>
bindI (IntKind.i64.wrap (z_32 - (1 : Int))) fun z_33 =>
bindI (IntKind.i64.wrap (z_33.tdiv (64 : Int))) fun z_34 =>
bcase (decide (x_31 ≤ z_34)) (
ptr a0 fun a_35 =>
ptr a0 fun a_36 =>
ldS h_29 (a_35.add 3) fun x_37 x_37n x_37c =>
ldI h_29 (a_36.add 2) .i64 fun x_38 =>
bindI (IntKind.i64.wrap (x_23 * x_38)) fun z_39 =>
bindI (IntKind.i64.wrap (z_39 + x_31)) fun z_40 =>
needs (0 ≤ z_40 ∧ z_40 < (x_37n : Int)) <|
ptr x_37 fun a_41 =>
ldI h_29 (a_41.add (z_40.toNat * 1)) .u64 fun x_42 =>
C F_bitmap_mask #[.int .i64 x_31, .int .i64 z_10, .int .i64 r_9] h_29 (fun v_43 h_44 =>
∃ (r_45 : Int), v_43 = .int .u64 r_45 ∧ (
hext h_29 h_44 ∧ (
bindI (bitI .andNot .u64 x_42 r_45) fun z_46 =>
needs (0 ≤ z_40 ∧ z_40 < (x_37n : Int)) <|
ptr x_37 fun a_47 =>
stV h_44 (a_47.add (z_40.toNat * 1)) (.int .u64 z_46) fun h_48 =>
bcase (a5 == (1 : Int)) (
ptr a0 fun a_49 =>
ptr a0 fun a_50 =>
ldS h_48 (a_49.add 3) fun x_51 x_51n x_51c =>
ldI h_48 (a_50.add 2) .i64 fun x_52 =>
bindI (IntKind.i64.wrap (x_23 * x_52)) fun z_53 =>
bindI (IntKind.i64.wrap (z_53 + x_31)) fun z_54 =>
needs (0 ≤ z_54 ∧ z_54 < (x_51n : Int)) <|
ptr x_51 fun a_55 =>
ldI h_48 (a_55.add (z_54.toNat * 1)) .u64 fun x_56 =>
C F_bitmap_mask #[.int .i64 x_31, .int .i64 z_10, .int .i64 r_9] h_48 (fun v_57 h_58 =>
∃ (r_59 : Int), v_57 = .int .u64 r_59 ∧ (
hext h_48 h_58 ∧ (
bindI (bitI .or .u64 x_56 r_59) fun z_60 =>
needs (0 ≤ z_54 ∧ z_54 < (x_51n : Int)) <|
ptr x_51 fun a_61 =>
stV h_58 (a_61.add (z_54.toNat * 1)) (.int .u64 z_60) fun h_62 =>
bindI (IntKind.i64.wrap (x_31 + (1 : Int))) fun z_63 =>
∃ m_27, m_27 < n_28 ∧ J_26 m_27 [.int .i64 z_63] h_62))) (Kp)) <|
bindI (IntKind.i64.wrap (x_31 + (1 : Int))) fun z_64 =>
∃ m_27, m_27 < n_28 ∧ J_26 m_27 [.int .i64 z_64] h_48))) (Kp)) <|
bindI (IntKind.i64.wrap (x_23 + (1 : Int))) fun z_65 =>
∃ m_19, m_19 < n_20 ∧ J_18 m_19 [.int .i64 z_65] h_29)) <|
K (.int .i64 0) h_21))) (Kp))) (Kp))

/- burin/bitmap.From -/
set_option maxRecDepth 100000 in
def bitmap_From (C : CallP) (b_1 : Int) (b_2 : Int) (b_3 : Option Addr) (b_3n : Nat) (b_3c : Nat) (h : Heap) (K : Value → Heap → Prop) (Kp : List PanicEntry → Heap → Prop) : Prop :=
newC h [.int .i64 b_1, .int .i64 b_2, .slice b_3 b_3n b_3c] T_api_Bitmap fun r_4 h_5 =>
ldI h_5 ((⟨r_4, 0, none⟩ : Addr).add 0) .i64 fun x_6 =>
ldI h_5 ((⟨r_4, 0, none⟩ : Addr).add 1) .i64 fun x_7 =>
ldS h_5 ((⟨r_4, 0, none⟩ : Addr).add 2) fun x_8 x_8n x_8c =>
C F_bitmap_Check #[.agg #[.int .i64 x_6, .int .i64 x_7, .slice x_8 x_8n x_8c]] h_5 (fun v_9 h_10 =>
∃ (r_11 : Bool), v_9 = .bool r_11 ∧ (
bcase (!r_11) (
K (.tuple #[.pointer none, .int .i64 21]) h_10) <|
ldI h_10 ((⟨r_4, 0, none⟩ : Addr).add 0) .i64 fun x_12 =>
ldI h_10 ((⟨r_4, 0, none⟩ : Addr).add 1) .i64 fun x_13 =>
ldI h_10 ((⟨r_4, 0, none⟩ : Addr).add 0) .i64 fun x_14 =>
bindI (IntKind.i64.wrap (x_14 + (63 : Int))) fun z_15 =>
bindI (IntKind.i64.wrap (z_15.tdiv (64 : Int))) fun z_16 =>
ldS h_10 ((⟨r_4, 0, none⟩ : Addr).add 2) fun x_17 x_17n x_17c =>
C F_slices_Clone_uint64_uint64 #[.slice x_17 x_17n x_17c] h_10 (fun v_18 h_19 =>
∃ (r_20 : Option Addr) (r_20n : Nat) (r_20c : Nat), v_18 = .slice r_20 r_20n r_20c ∧ (
hext h_10 h_19 ∧ (
newC h_19 [.int .i64 x_12, .int .i64 x_13, .int .i64 z_16, .slice r_20 r_20n r_20c] T_bitmap_Map fun r_21 h_22 =>
K (.tuple #[.pointer (some ⟨r_21, 0, none⟩), .int .i64 0]) h_22))) (Kp))) (Kp)

/- (*burin/bitmap.Map).Blit -/
set_option maxRecDepth 100000 in
def bitmap_Map_Blit (C : CallP) (a0 : Option Addr) (a1 : Option Addr) (a2 : Int) (a3 : Int) (a4 : Int) (a5 : Int) (a6 : Int) (a7 : Int) (a8 : Int) (h : Heap) (K : Value → Heap → Prop) (Kp : List PanicEntry → Heap → Prop) : Prop :=
bcase a1.isNone (
K (.int .i64 26) h) <|
bcase (decide (a4 < (0 : Int))) (
K (.int .i64 24) h) <|
bcase (decide (a5 < (0 : Int))) (
K (.int .i64 24) h) <|
bcase (decide (a8 < (0 : Int))) (
K (.int .i64 25) h) <|
bcase (decide (a8 > (4 : Int))) (
K (.int .i64 25) h) <|
ptr a1 fun a_1 =>
ptr a0 fun a_2 =>
ldI h (a_1.add 0) .i64 fun x_3 =>
ldI h (a_2.add 0) .i64 fun x_4 =>
C F_bitmap_both #[.int .i64 a2, .int .i64 x_3, .int .i64 a6, .int .i64 x_4, .int .i64 a4] h (fun v_5 h_6 =>
∃ (r_7 : Int), ∃ (r_8 : Int), ∃ (r_9 : Int), v_5 = .tuple #[.int .i64 r_7, .int .i64 r_8, .int .i64 r_9] ∧ (
ptr a1 fun a_10 =>
ptr a0 fun a_11 =>
ldI h_6 (a_10.add 1) .i64 fun x_12 =>
ldI h_6 (a_11.add 1) .i64 fun x_13 =>
C F_bitmap_both #[.int .i64 a3, .int .i64 x_12, .int .i64 a7, .int .i64 x_13, .int .i64 a5] h_6 (fun v_14 h_15 =>
∃ (r_16 : Int), ∃ (r_17 : Int), ∃ (r_18 : Int), v_14 = .tuple #[.int .i64 r_16, .int .i64 r_17, .int .i64 r_18] ∧ (
bcase (r_9 == (0 : Int)) (
K (.int .i64 0) h_15) <|
bcase (r_18 == (0 : Int)) (
K (.int .i64 0) h_15) <|
C F_bitmap_operations #[] h_15 (fun v_19 h_20 =>
∃ (r_21 : Option Addr) (r_21n : Nat) (r_21c : Nat), v_19 = .slice r_21 r_21n r_21c ∧ (
needs (0 ≤ a8 ∧ a8 < (r_21n : Int)) <|
ptr r_21 fun a_22 =>
ldV h_20 (a_22.add (a8.toNat * 1)) fun x_23 =>
ptr a1 fun a_24 =>
ldI h_20 (a_24.add 2) .i64 fun x_25 =>
needs (0 ≤ x_25 ∧ x_25 ≤ x_25 ∧ x_25 ≤ 9223372036854775807 ∧ ((8 : Nat) : Int) * x_25 ≤ 281474976710656) <|
newC h_20 (repZ [.int .u64 0] x_25.toNat) T_uint64 fun r_26 h_27 =>
∃ J_28 : Nat → List Value → Heap → Prop, (∃ n_30, J_28 n_30 [.int .i64 0] h_27) ∧ ∀ (n_30 : Nat) (h_31 : Heap) (u_32 : Nat → Value) (x_33 : Int), J_28 n_30 [.int .i64 x_33] h_31 → (
bcase (decide (x_33 < r_18)) (
∃ K_34 : List Value → Heap → Prop, (
bcase (decide (r_17 > r_16)) (
bindI (IntKind.i64.wrap (r_18 - (1 : Int))) fun z_37 =>
bindI (IntKind.i64.wrap (z_37 - x_33)) fun z_38 =>
K_34 [.int .i64 z_38] h_31) <|
K_34 [.int .i64 x_33] h_31) ∧ ∀ (h_35 : Heap) (u_36 : Nat → Value) (x_39 : Int), K_34 [.int .i64 x_39] h_35 → (
bindI (IntKind.i64.wrap (r_16 + x_39)) fun z_40 =>
ptr a1 fun a_41 =>
ldI h_35 (a_41.add 2) .i64 fun x_42 =>
bindI (IntKind.i64.wrap (z_40 * x_42)) fun z_43 =>
ptr a1 fun a_44 =>
ptr a1 fun a_45 =>
ptr a1 fun a_46 =>
ldS h_35 (a_44.add 3) fun x_47 x_47n x_47c =>
ldI h_35 (a_45.add 2) .i64 fun x_48 =>
bindI (IntKind.i64.wrap (z_43 + x_48)) fun z_49 =>
ldI h_35 (a_46.add 2) .i64 fun x_50 =>
bindI (IntKind.i64.wrap (z_43 + x_50)) fun z_51 =>
needs (0 ≤ z_51 ∧ z_51 ≤ ((x_47c : Nat) : Int)) <|
needs (0 ≤ z_49 ∧ z_49 ≤ ((z_51.toNat : Nat) : Int)) <|
needs (0 ≤ z_43 ∧ z_43 ≤ ((z_49.toNat : Nat) : Int)) <|
copC h_35 1 (some ⟨r_26, 0, none⟩) (x_25.toNat) (subA x_47 (z_51.toNat) (z_43.toNat) 1) ((z_49.toNat - z_43.toNat)) fun n_52 h_53 =>
bindI (IntKind.i64.wrap (r_8.tdiv (64 : Int))) fun z_54 =>
∃ J_55 : Nat → List Value → Heap → Prop, (∃ n_57, J_55 n_57 [.int .i64 z_54] h_53) ∧ ∀ (n_57 : Nat) (h_58 : Heap) (u_59 : Nat → Value) (x_60 : Int), J_55 n_57 [.int .i64 x_60] h_58 → (
bindI (IntKind.i64.wrap (r_8 + r_9)) fun z_61 =>
bindI (IntKind.i64.wrap (z_61 - (1 : Int))) fun z_62 =>
bindI (IntKind.i64.wrap (z_62.tdiv (64 : Int))) fun z_63 =>
bcase (decide (x_60 ≤ z_63)) (
ptr a0 fun a_64 =>
bindI (IntKind.i64.wrap (r_17 + x_39)) fun z_65 =>
ptr a0 fun a_66 =>
ldS h_58 (a_64.add 3) fun x_67 x_67n x_67c =>
ldI h_58 (a_66.add 2) .i64 fun x_68 =>
bindI (IntKind.i64.wrap (z_65 * x_68)) fun z_69 =>
bindI (IntKind.i64.wrap (z_69 + x_60)) fun z_70 =>
needs (0 ≤ z_70 ∧ z_70 < (x_67n : Int)) <|
ptr x_67 fun a_71 =>
C F_bitmap_mask #[.int .i64 x_60, .int .i64 r_8, .int .i64 r_9] h_58 (fun v_72 h_73 =>
∃ (r_74 : Int), v_72 = .int .u64 r_74 ∧ (
bindI (IntKind.i64.wrap ((64 : Int) * x_60)) fun z_75 =>
bindI (IntKind.i64.wrap (r_7 + z_75)) fun z_76 =>
bindI (IntKind.i64.wrap (z_76 - r_8)) fun z_77 =>
ldI h_73 (a_71.add (z_70.toNat * 1)) .u64 fun x_78 =>
bindI (bitI .andNot .u64 x_78 r_74) fun z_79 =>
ldI h_73 (a_71.add (z_70.toNat * 1)) .u64 fun x_80 =>
C F_bitmap_word #[.slice (some ⟨r_26, 0, none⟩) x_25.toNat x_25.toNat, .int .i64 z_77] h_73 (fun v_81 h_82 =>
∃ (r_83 : Int), v_81 = .int .u64 r_83 ∧ (
hext h_73 h_82 ∧ (
callD C (Kp) x_23 [.int .u64 x_80, .int .u64 r_83] h_82 fun v_84 h_85 =>
∃ (r_86 : Int), v_84 = .int .u64 r_86 ∧ (
hext h_82 h_85 ∧ (
bindI (bitI .and .u64 r_86 r_74) fun z_87 =>
bindI (bitI .or .u64 z_79 z_87) fun z_88 =>
stV h_85 (a_71.add (z_70.toNat * 1)) (.int .u64 z_88) fun h_89 =>
bindI (IntKind.i64.wrap (x_60 + (1 : Int))) fun z_90 =>
∃ m_56, m_56 < n_57 ∧ J_55 m_56 [.int .i64 z_90] h_89))))) (Kp))) (Kp)) <|
bindI (IntKind.i64.wrap (x_33 + (1 : Int))) fun z_91 =>
∃ m_29, m_29 < n_30 ∧ J_28 m_29 [.int .i64 z_91] h_58))) <|
K (.int .i64 0) h_31))) (Kp))) (Kp))) (Kp)

/- (*burin/bitmap.Map).Plain -/
set_option maxRecDepth 100000 in
def bitmap_Map_Plain (C : CallP) (m : Option Addr) (h : Heap) (K : Value → Heap → Prop) (Kp : List PanicEntry → Heap → Prop) : Prop :=
newC h [.int .i64 0, .int .i64 0, .slice none 0 0] T_api_Bitmap fun r_1 h_2 =>
ptr m fun a_3 =>
ptr m fun a_4 =>
ptr m fun a_5 =>
ldI h_2 (a_3.add 0) .i64 fun x_6 =>
ldI h_2 (a_4.add 1) .i64 fun x_7 =>
ldS h_2 (a_5.add 3) fun x_8 x_8n x_8c =>
C F_slices_Clone_uint64_uint64 #[.slice x_8 x_8n x_8c] h_2 (fun v_9 h_10 =>
∃ (r_11 : Option Addr) (r_11n : Nat) (r_11c : Nat), v_9 = .slice r_11 r_11n r_11c ∧ (
hext h_2 h_10 ∧ (
stV h_10 ((⟨r_1, 0, none⟩ : Addr).add 0) (.int .i64 x_6) fun h_12 =>
stV h_12 ((⟨r_1, 0, none⟩ : Addr).add 1) (.int .i64 x_7) fun h_13 =>
stV h_13 ((⟨r_1, 0, none⟩ : Addr).add 2) (.slice r_11 r_11n r_11c) fun h_14 =>
ldI h_14 ((⟨r_1, 0, none⟩ : Addr).add 0) .i64 fun r_15 =>
ldI h_14 ((⟨r_1, 0, none⟩ : Addr).add 1) .i64 fun r_16 =>
ldS h_14 ((⟨r_1, 0, none⟩ : Addr).add 2) fun r_17 r_17n r_17c =>
K (.agg #[.int .i64 r_15, .int .i64 r_16, .slice r_17 r_17n r_17c]) h_14))) (Kp)

/- burin/bitmap.sized -/
set_option maxRecDepth 100000 in
def bitmap_sized (C : CallP) (w : Int) (h' : Int) (h : Heap) (K : Value → Heap → Prop) (Kp : List PanicEntry → Heap → Prop) : Prop :=
bcase (decide (w ≥ (1 : Int))) (
bcase (decide (h' ≥ (1 : Int))) (
bcase (decide (w ≤ (1048576 : Int))) (
bcase (decide (h' ≤ (1048576 : Int))) (
bindI (IntKind.i64.wrap (w * h')) fun z_1 =>
K (.bool (decide (z_1 ≤ (1048576 : Int)))) h) <|
K (.bool false) h) <|
K (.bool false) h) <|
K (.bool false) h) <|
K (.bool false) h

/- burin/bitmap.cut -/
set_option maxRecDepth 100000 in
def bitmap_cut (C : CallP) (off : Int) (n : Int) (size : Int) (h : Heap) (K : Value → Heap → Prop) (Kp : List PanicEntry → Heap → Prop) : Prop :=
∃ K_1 : List Value → Heap → Prop, (
bcase (decide (n ≤ (0 : Int))) (
K_1 [.bool (decide (n ≤ (0 : Int)))] h) <|
bcase (decide (off ≥ size)) (
K_1 [.bool (decide (off ≥ size))] h) <|
bindI (IntKind.i64.wrap (0 - n)) fun z_4 =>
K_1 [.bool (decide (off ≤ z_4))] h) ∧ ∀ (h_2 : Heap) (u_3 : Nat → Value) (x_5 : Bool), K_1 [.bool x_5] h_2 → (
bcase x_5 (
K (.tuple #[.int .i64 0, .int .i64 0]) h_2) <|
bcase (decide (off ≥ (0 : Int))) (
bindI (IntKind.i64.wrap (size - off)) fun z_6 =>
bindI (minI n z_6) fun z_7 =>
K (.tuple #[.int .i64 0, .int .i64 z_7]) h_2) <|
bindI (IntKind.i64.wrap (0 - off)) fun z_8 =>
bindI (IntKind.i64.wrap (n + off)) fun z_9 =>
bindI (minI z_9 size) fun z_10 =>
K (.tuple #[.int .i64 z_8, .int .i64 z_10]) h_2)

/- burin/bitmap.mask -/
set_option maxRecDepth 100000 in
def bitmap_mask (C : CallP) (i : Int) (x : Int) (n : Int) (h : Heap) (K : Value → Heap → Prop) (Kp : List PanicEntry → Heap → Prop) : Prop :=
bindI (IntKind.i64.wrap ((64 : Int) * i)) fun z_1 =>
bindI (IntKind.i64.wrap (x - z_1)) fun z_2 =>
bindI (maxI z_2 (0 : Int)) fun z_3 =>
bindI (IntKind.i64.wrap (x + n)) fun z_4 =>
bindI (IntKind.i64.wrap ((64 : Int) * i)) fun z_5 =>
bindI (IntKind.i64.wrap (z_4 - z_5)) fun z_6 =>
bindI (minI z_6 (64 : Int)) fun z_7 =>
needs (0 ≤ z_3) <|
bindI (shrI .u64 (18446744073709551615 : Int) z_3) fun z_8 =>
needs (0 ≤ z_7) <|
bindI (shrI .u64 (18446744073709551615 : Int) z_7) fun z_9 =>
bindI (bitI .andNot .u64 z_8 z_9) fun z_10 =>
K (.int .u64 z_10) h

/- burin/bitmap.Check -/
set_option maxRecDepth 100000 in
def bitmap_Check (C : CallP) (b_1 : Int) (b_2 : Int) (b_3 : Option Addr) (b_3n : Nat) (b_3c : Nat) (h : Heap) (K : Value → Heap → Prop) (Kp : List PanicEntry → Heap → Prop) : Prop :=
newC h [.int .i64 b_1, .int .i64 b_2, .slice b_3 b_3n b_3c] T_api_Bitmap fun r_4 h_5 =>
ldI h_5 ((⟨r_4, 0, none⟩ : Addr).add 0) .i64 fun x_6 =>
ldI h_5 ((⟨r_4, 0, none⟩ : Addr).add 1) .i64 fun x_7 =>
C F_bitmap_sized #[.int .i64 x_6, .int .i64 x_7] h_5 (fun v_8 h_9 =>
∃ (r_10 : Bool), v_8 = .bool r_10 ∧ (
bcase (!r_10) (
K (.bool false) h_9) <|
ldI h_9 ((⟨r_4, 0, none⟩ : Addr).add 0) .i64 fun x_11 =>
bindI (IntKind.i64.wrap (x_11 + (63 : Int))) fun z_12 =>
bindI (IntKind.i64.wrap (z_12.tdiv (64 : Int))) fun z_13 =>
ldS h_9 ((⟨r_4, 0, none⟩ : Addr).add 2) fun x_14 x_14n x_14c =>
ldI h_9 ((⟨r_4, 0, none⟩ : Addr).add 1) .i64 fun x_15 =>
bindI (IntKind.i64.wrap (x_15 * z_13)) fun z_16 =>
bcase ((x_14n : Int) != z_16) (
K (.bool false) h_9) <|
ldI h_9 ((⟨r_4, 0, none⟩ : Addr).add 1) .i64 fun x_17 =>
∃ J_18 : Nat → List Value → Heap → Prop, (∃ n_20, J_18 n_20 [.int .i64 0] h_9) ∧ ∀ (n_20 : Nat) (h_21 : Heap) (u_22 : Nat → Value) (x_23 : Int), J_18 n_20 [.int .i64 x_23] h_21 → (
bcase (decide (x_23 < x_17)) (
bindI (IntKind.i64.wrap (x_23 * z_13)) fun z_24 =>
bindI (IntKind.i64.wrap (z_24 + z_13)) fun z_25 =>
bindI (IntKind.i64.wrap (z_25 - (1 : Int))) fun z_26 =>
ldS h_21 ((⟨r_4, 0, none⟩ : Addr).add 2) fun x_27 x_27n x_27c =>
needs (0 ≤ z_26 ∧ z_26 < (x_27n : Int)) <|
ptr x_27 fun a_28 =>
ldI h_21 (a_28.add (z_26.toNat * 1)) .u64 fun x_29 =>
ldI h_21 ((⟨r_4, 0, none⟩ : Addr).add 0) .i64 fun x_30 =>
C F_bitmap_last #[.int .i64 x_30] h_21 (fun v_31 h_32 =>
∃ (r_33 : Int), v_31 = .int .u64 r_33 ∧ (
hext h_21 h_32 ∧ (
bindI (bitI .andNot .u64 x_29 r_33) fun z_34 =>
bcase (z_34 != (0 : Int)) (
K (.bool false) h_32) <|
bindI (IntKind.i64.wrap (x_23 + (1 : Int))) fun z_35 =>
∃ m_19, m_19 < n_20 ∧ J_18 m_19 [.int .i64 z_35] h_32))) (Kp)) <|
K (.bool true) h_21))) (Kp)

/- burin/bitmap.both -/
set_option maxRecDepth 100000 in
def bitmap_both (C : CallP) (a : Int) (asv : Int) (b : Int) (bs : Int) (n : Int) (h : Heap) (K : Value → Heap → Prop) (Kp : List PanicEntry → Heap → Prop) : Prop :=
C F_bitmap_cut #[.int .i64 a, .int .i64 n, .int .i64 asv] h (fun v_1 h_2 =>
∃ (r_3 : Int), ∃ (r_4 : Int), v_1 = .tuple #[.int .i64 r_3, .int .i64 r_4] ∧ (
bcase (r_4 == (0 : Int)) (
K (.tuple #[.int .i64 0, .int .i64 0, .int .i64 0]) h_2) <|
bindI (IntKind.i64.wrap ((9223372036854775807 : Int) - r_3)) fun z_5 =>
bcase (decide (b > z_5)) (
K (.tuple #[.int .i64 0, .int .i64 0, .int .i64 0]) h_2) <|
bindI (IntKind.i64.wrap (a + r_3)) fun z_6 =>
bindI (IntKind.i64.wrap (b + r_3)) fun z_7 =>
C F_bitmap_cut #[.int .i64 z_7, .int .i64 r_4, .int .i64 bs] h_2 (fun v_8 h_9 =>
∃ (r_10 : Int), ∃ (r_11 : Int), v_8 = .tuple #[.int .i64 r_10, .int .i64 r_11] ∧ (
bindI (IntKind.i64.wrap (z_6 + r_10)) fun z_12 =>
bindI (IntKind.i64.wrap (z_7 + r_10)) fun z_13 =>
K (.tuple #[.int .i64 z_12, .int .i64 z_13, .int .i64 r_11]) h_9)) (Kp))) (Kp)

/- burin/bitmap.operations -/
set_option maxRecDepth 100000 in
def bitmap_operations (C : CallP)  (h : Heap) (K : Value → Heap → Prop) (Kp : List PanicEntry → Heap → Prop) : Prop :=
newC h [.func (.func F_bitmap_operations_c1) #[] #[], .func (.func F_bitmap_operations_c2) #[] #[], .func (.func F_bitmap_operations_c3) #[] #[], .func (.func F_bitmap_operations_c4) #[] #[], .func (.func F_bitmap_operations_c5) #[] #[]] T_func_uint64_uint64_uint64 fun r_1 h_2 =>
K (.slice (some ⟨r_1, 0, none⟩) 5 5) h_2

/- burin/bitmap.word -/
set_option maxRecDepth 100000 in
def bitmap_word (C : CallP) (row : Option Addr) (rown : Nat) (rowc : Nat) (x : Int) (h : Heap) (K : Value → Heap → Prop) (Kp : List PanicEntry → Heap → Prop) : Prop :=
bcase (decide (x < (0 : Int))) (
C F_bitmap_word #[.slice row rown rowc, .int .i64 0] h (fun v_1 h_2 =>
∃ (r_3 : Int), v_1 = .int .u64 r_3 ∧ (
bindI (IntKind.i64.wrap (0 - x)) fun z_4 =>
needs (0 ≤ z_4) <|
bindI (shrI .u64 r_3 z_4) fun z_5 =>
K (.int .u64 z_5) h_2)) (Kp)) <|
bindI (IntKind.i64.wrap (x.tdiv (64 : Int))) fun z_6 =>
bcase (decide (z_6 ≥ (rown : Int))) (
K (.int .u64 0) h) <|
needs (0 ≤ z_6 ∧ z_6 < (rown : Int)) <|
ptr row fun a_7 =>
ldI h (a_7.add (z_6.toNat * 1)) .u64 fun x_8 =>
bindI (x.tmod (64 : Int)) fun z_9 =>
needs (0 ≤ z_9) <|
bindI (shlI .u64 x_8 z_9) fun z_10 =>
∃ K_11 : List Value → Heap → Prop, (
bindI (x.tmod (64 : Int)) fun z_14 =>
bcase (decide (z_14 > (0 : Int))) (
bindI (IntKind.i64.wrap (z_6 + (1 : Int))) fun z_15 =>
K_11 [.bool (decide (z_15 < (rown : Int)))] h) <|
K_11 [.bool false] h) ∧ ∀ (h_12 : Heap) (u_13 : Nat → Value) (x_16 : Bool), K_11 [.bool x_16] h_12 → (
bcase x_16 (
bindI (IntKind.i64.wrap (z_6 + (1 : Int))) fun z_17 =>
needs (0 ≤ z_17 ∧ z_17 < (rown : Int)) <|
ptr row fun a_18 =>
ldI h_12 (a_18.add (z_17.toNat * 1)) .u64 fun x_19 =>
bindI (x.tmod (64 : Int)) fun z_20 =>
bindI (IntKind.i64.wrap ((64 : Int) - z_20)) fun z_21 =>
needs (0 ≤ z_21) <|
bindI (shrI .u64 x_19 z_21) fun z_22 =>
bindI (bitI .or .u64 z_10 z_22) fun z_23 =>
K (.int .u64 z_23) h_12) <|
K (.int .u64 z_10) h_12)

/- burin/bitmap.last -/
set_option maxRecDepth 100000 in
def bitmap_last (C : CallP) (w : Int) (h : Heap) (K : Value → Heap → Prop) (Kp : List PanicEntry → Heap → Prop) : Prop :=
bindI (w.tmod (64 : Int)) fun z_1 =>
bindI (IntKind.i64.wrap ((64 : Int) - z_1)) fun z_2 =>
bindI (z_2.tmod (64 : Int)) fun z_3 =>
needs (0 ≤ z_3) <|
bindI (shlI .u64 (18446744073709551615 : Int) z_3) fun z_4 =>
K (.int .u64 z_4) h

/- burin/bitmap.operations$1 -/
set_option maxRecDepth 100000 in
def bitmap_operations_c1 (C : CallP) (d : Int) (s : Int) (h : Heap) (K : Value → Heap → Prop) (Kp : List PanicEntry → Heap → Prop) : Prop :=
bindI (bitI .or .u64 d s) fun z_1 =>
K (.int .u64 z_1) h

/- burin/bitmap.operations$2 -/
set_option maxRecDepth 100000 in
def bitmap_operations_c2 (C : CallP) (d : Int) (s : Int) (h : Heap) (K : Value → Heap → Prop) (Kp : List PanicEntry → Heap → Prop) : Prop :=
bindI (bitI .and .u64 d s) fun z_1 =>
K (.int .u64 z_1) h

/- burin/bitmap.operations$3 -/
set_option maxRecDepth 100000 in
def bitmap_operations_c3 (C : CallP) (d : Int) (s : Int) (h : Heap) (K : Value → Heap → Prop) (Kp : List PanicEntry → Heap → Prop) : Prop :=
bindI (bitI .xor .u64 d s) fun z_1 =>
K (.int .u64 z_1) h

/- burin/bitmap.operations$4 -/
set_option maxRecDepth 100000 in
def bitmap_operations_c4 (C : CallP) (d : Int) (s : Int) (h : Heap) (K : Value → Heap → Prop) (Kp : List PanicEntry → Heap → Prop) : Prop :=
bindI (bitI .xor .u64 d s) fun z_1 =>
bindI (bitI .xor .u64 IntKind.u64.max z_1) fun z_2 =>
K (.int .u64 z_2) h

/- burin/bitmap.operations$5 -/
set_option maxRecDepth 100000 in
def bitmap_operations_c5 (C : CallP) (d : Int) (s : Int) (h : Heap) (K : Value → Heap → Prop) (Kp : List PanicEntry → Heap → Prop) : Prop :=
K (.int .u64 s) h

end Go.Den.Ytlmopdohgipbeaa
