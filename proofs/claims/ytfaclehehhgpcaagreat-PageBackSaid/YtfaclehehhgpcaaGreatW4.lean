/- W4: put together by wip/tools/bundle.py: Bbits PbA PbB RnD RfB PbF RfC PbG RfD ArF ArG Mburinref4 Bburinref4 ArR ArS ArT ArU ArV ArW ArX ArH ArY PgB Mlaw15x Blaw15x PgC PgD PgF RfE RfF RfG RfH RfI RfJ RfK BkA BkB BkC BkD RfL BkE RfM Mcontext Bcontext. -/
import Derived.Test.YtfaclehehhgpcaaGreatW1
import Derived.Test.YtfaclehehhgpcaaGreatW2
import Derived.Test.YtfaclehehhgpcaaGreatW3
import Derived.Test.YtfaclehehhgpcaaGreatProg

/- Written by gen.py: each condition of the functions of bits is the one of its body; so it is enough for its call. -/
set_option linter.unusedVariables false
set_option linter.unusedSimpArgs false
namespace Go.Den.YtfaclehehhgpcaaGreat
open Go Go.Den

noncomputable def hints_bits_Reader_Left : Hints := Hints.mk (fun i => bif Nat.beq i 1 then some ([], .take 0 <| .take 1 <| .take 2 <| .take 6 <| .take 7 <| .take 8 <| .take 3 <| .take 4 <| .take 5 <| .take 9 <| .take 10 <| .take 11 <| .done) else (none))
  (fun i => none)
  (fun i => none) []
set_option maxRecDepth 100000 in
theorem eq_bits_Reader_Left (C : CallP) (r : Option Addr) (h : Heap) (K : Value → Heap → Prop) (Kp : List PanicEntry → Heap → Prop) :
    fnD Go.Proofs.Tryz.prog C hints_bits_Reader_Left Go.Proofs.Tryz.f71 [.pointer r] h K Kp = bits_Reader_Left C r h K Kp := by kernel_rfl

theorem call_bits_Reader_Left {r : Option Addr} {h : Heap} {K : Value → Heap → Prop} {Kp : List PanicEntry → Heap → Prop} (H : bits_Reader_Left (CallsHP Go.Proofs.Tryz.prog) r h K Kp) : CallsHP Go.Proofs.Tryz.prog F_bits_Reader_Left #[.pointer r] h K Kp :=
  callsHP_of hints_bits_Reader_Left (by kernel_rfl) Go.Proofs.Tryz.func71 (by kernel_rfl) (by rw [eq_bits_Reader_Left]; exact H)

noncomputable def hints_bits_NewWriter : Hints := Hints.mk (fun i => none)
  (fun i => none)
  (fun i => none) []
set_option maxRecDepth 100000 in
theorem eq_bits_NewWriter (C : CallP) (most : Int) (h : Heap) (K : Value → Heap → Prop) (Kp : List PanicEntry → Heap → Prop) :
    fnD Go.Proofs.Tryz.prog C hints_bits_NewWriter Go.Proofs.Tryz.f84 [.int .i64 most] h K Kp = bits_NewWriter C most h K Kp := by kernel_rfl

theorem call_bits_NewWriter {most : Int} {h : Heap} {K : Value → Heap → Prop} {Kp : List PanicEntry → Heap → Prop} (H : bits_NewWriter (CallsHP Go.Proofs.Tryz.prog) most h K Kp) : CallsHP Go.Proofs.Tryz.prog F_bits_NewWriter #[.int .i64 most] h K Kp :=
  callsHP_of hints_bits_NewWriter (by kernel_rfl) Go.Proofs.Tryz.func84 (by kernel_rfl) (by rw [eq_bits_NewWriter]; exact H)

noncomputable def hints_bits_Writer_Put : Hints := Hints.mk (fun i => bif Nat.beq i 5 then some ([], .take 0 <| .take 1 <| .take 2 <| .take 4 <| .take 6 <| .take 7 <| .take 8 <| .take 3 <| .take 5 <| .take 9 <| .take 10 <| .take 11 <| .done) else (bif Nat.beq i 7 then some ([11, 14], .take 0 <| .take 1 <| .take 2 <| .take 3 <| .take 5 <| .take 6 <| .take 7 <| .take 9 <| .take 10 <| .take 4 <| .take 8 <| .bar 11 [14] <| .take 12 <| .take 13 <| .bar 14 [] <| .done) else (none)))
  (fun i => none)
  (fun i => bif Nat.beq i 4 then some ([(14, .bool)], 8372224) else (none)) []
set_option maxRecDepth 100000 in
theorem eq_bits_Writer_Put (C : CallP) (w : Option Addr) (n : Int) (width : Int) (h : Heap) (K : Value → Heap → Prop) (Kp : List PanicEntry → Heap → Prop) :
    fnD Go.Proofs.Tryz.prog C hints_bits_Writer_Put Go.Proofs.Tryz.f86 [.pointer w, .int .u64 n, .int .i64 width] h K Kp = bits_Writer_Put C w n width h K Kp := by kernel_rfl

theorem call_bits_Writer_Put {w : Option Addr} {n : Int} {width : Int} {h : Heap} {K : Value → Heap → Prop} {Kp : List PanicEntry → Heap → Prop} (H : bits_Writer_Put (CallsHP Go.Proofs.Tryz.prog) w n width h K Kp) : CallsHP Go.Proofs.Tryz.prog F_bits_Writer_Put #[.pointer w, .int .u64 n, .int .i64 width] h K Kp :=
  callsHP_of hints_bits_Writer_Put (by kernel_rfl) Go.Proofs.Tryz.func86 (by kernel_rfl) (by rw [eq_bits_Writer_Put]; exact H)

noncomputable def hints_bits_Writer_Var : Hints := Hints.mk (fun i => bif Nat.beq i 6 then some ([], .take 0 <| .take 1 <| .take 2 <| .take 4 <| .take 5 <| .take 7 <| .take 8 <| .take 9 <| .take 3 <| .take 6 <| .take 10 <| .take 11 <| .done) else (bif Nat.beq i 14 then some ([10, 13], .take 0 <| .take 1 <| .take 2 <| .take 3 <| .take 5 <| .take 6 <| .take 7 <| .take 9 <| .take 4 <| .take 8 <| .bar 10 [13] <| .take 11 <| .take 12 <| .bar 13 [] <| .done) else (none)))
  (fun i => bif Nat.beq i 3 then some ([(5, .int .i64), (6, .int .u64)], 129120) else (bif Nat.beq i 9 then some ([(30, .int .i64)], 73786976293764465024) else (none)))
  (fun i => bif Nat.beq i 14 then some ([(8, .int .u8)], 34634616275200) else (none)) []
set_option maxRecDepth 100000 in
theorem eq_bits_Writer_Var (C : CallP) (a0 : Option Addr) (a1 : Int) (h : Heap) (K : Value → Heap → Prop) (Kp : List PanicEntry → Heap → Prop) :
    fnD Go.Proofs.Tryz.prog C hints_bits_Writer_Var Go.Proofs.Tryz.f87 [.pointer a0, .int .u64 a1] h K Kp = bits_Writer_Var C a0 a1 h K Kp := by kernel_rfl

theorem call_bits_Writer_Var {a0 : Option Addr} {a1 : Int} {h : Heap} {K : Value → Heap → Prop} {Kp : List PanicEntry → Heap → Prop} (H : bits_Writer_Var (CallsHP Go.Proofs.Tryz.prog) a0 a1 h K Kp) : CallsHP Go.Proofs.Tryz.prog F_bits_Writer_Var #[.pointer a0, .int .u64 a1] h K Kp :=
  callsHP_of hints_bits_Writer_Var (by kernel_rfl) Go.Proofs.Tryz.func87 (by kernel_rfl) (by rw [eq_bits_Writer_Var]; exact H)

noncomputable def hints_bits_Writer_Bytes : Hints := Hints.mk (fun i => none)
  (fun i => none)
  (fun i => none) []
set_option maxRecDepth 100000 in
theorem eq_bits_Writer_Bytes (C : CallP) (w : Option Addr) (h : Heap) (K : Value → Heap → Prop) (Kp : List PanicEntry → Heap → Prop) :
    fnD Go.Proofs.Tryz.prog C hints_bits_Writer_Bytes Go.Proofs.Tryz.f93 [.pointer w] h K Kp = bits_Writer_Bytes C w h K Kp := by kernel_rfl

theorem call_bits_Writer_Bytes {w : Option Addr} {h : Heap} {K : Value → Heap → Prop} {Kp : List PanicEntry → Heap → Prop} (H : bits_Writer_Bytes (CallsHP Go.Proofs.Tryz.prog) w h K Kp) : CallsHP Go.Proofs.Tryz.prog F_bits_Writer_Bytes #[.pointer w] h K Kp :=
  callsHP_of hints_bits_Writer_Bytes (by kernel_rfl) Go.Proofs.Tryz.func93 (by kernel_rfl) (by rw [eq_bits_Writer_Bytes]; exact H)

noncomputable def hints_bits_NewReader : Hints := Hints.mk (fun i => none)
  (fun i => none)
  (fun i => none) []
set_option maxRecDepth 100000 in
theorem eq_bits_NewReader (C : CallP) (b : Option Addr) (bn : Nat) (bc : Nat) (h : Heap) (K : Value → Heap → Prop) (Kp : List PanicEntry → Heap → Prop) :
    fnD Go.Proofs.Tryz.prog C hints_bits_NewReader Go.Proofs.Tryz.f107 [.slice b bn bc] h K Kp = bits_NewReader C b bn bc h K Kp := by kernel_rfl

theorem call_bits_NewReader {b : Option Addr} {bn : Nat} {bc : Nat} {h : Heap} {K : Value → Heap → Prop} {Kp : List PanicEntry → Heap → Prop} (H : bits_NewReader (CallsHP Go.Proofs.Tryz.prog) b bn bc h K Kp) : CallsHP Go.Proofs.Tryz.prog F_bits_NewReader #[.slice b bn bc] h K Kp :=
  callsHP_of hints_bits_NewReader (by kernel_rfl) Go.Proofs.Tryz.func107 (by kernel_rfl) (by rw [eq_bits_NewReader]; exact H)

noncomputable def hints_bits_Reader_Take : Hints := Hints.mk (fun i => bif Nat.beq i 6 then some ([11], .take 0 <| .take 1 <| .take 2 <| .take 4 <| .take 5 <| .take 6 <| .take 8 <| .take 10 <| .take 3 <| .take 7 <| .take 9 <| .bar 11 [] <| .take 12 <| .take 13 <| .done) else (none))
  (fun i => none)
  (fun i => none) []
set_option maxRecDepth 100000 in
theorem eq_bits_Reader_Take (C : CallP) (r : Option Addr) (width : Int) (h : Heap) (K : Value → Heap → Prop) (Kp : List PanicEntry → Heap → Prop) :
    fnD Go.Proofs.Tryz.prog C hints_bits_Reader_Take Go.Proofs.Tryz.f108 [.pointer r, .int .i64 width] h K Kp = bits_Reader_Take C r width h K Kp := by kernel_rfl

theorem call_bits_Reader_Take {r : Option Addr} {width : Int} {h : Heap} {K : Value → Heap → Prop} {Kp : List PanicEntry → Heap → Prop} (H : bits_Reader_Take (CallsHP Go.Proofs.Tryz.prog) r width h K Kp) : CallsHP Go.Proofs.Tryz.prog F_bits_Reader_Take #[.pointer r, .int .i64 width] h K Kp :=
  callsHP_of hints_bits_Reader_Take (by kernel_rfl) Go.Proofs.Tryz.func108 (by kernel_rfl) (by rw [eq_bits_Reader_Take]; exact H)

noncomputable def hints_bits_Reader_Var : Hints := Hints.mk (fun i => bif Nat.beq i 11 then some ([7], .take 1 <| .take 2 <| .take 3 <| .take 4 <| .take 5 <| .take 0 <| .take 6 <| .bar 7 [] <| .done) else (none))
  (fun i => bif Nat.beq i 5 then some ([(5, .int .i64)], 70368744169696) else (none))
  (fun i => bif Nat.beq i 11 then some ([], 68718428160) else (none)) []
set_option maxRecDepth 100000 in
theorem eq_bits_Reader_Var (C : CallP) (D : CallDP) (r : Option Addr) (h : Heap) (K : Value → Heap → Prop) (Kp : List PanicEntry → Heap → Prop) :
    fnDD Go.Proofs.Tryz.prog C D hints_bits_Reader_Var Go.Proofs.Tryz.f109 [.pointer r] h K Kp = bits_Reader_Var C D r h K Kp := by kernel_rfl

theorem call_bits_Reader_Var {r : Option Addr} {h : Heap} {K : Value → Heap → Prop} {Kp : List PanicEntry → Heap → Prop} (H : bits_Reader_Var (CallsHP Go.Proofs.Tryz.prog) (DCalls Go.Proofs.Tryz.prog) r h K Kp) : CallsHP Go.Proofs.Tryz.prog F_bits_Reader_Var #[.pointer r] h K Kp :=
  callsHP_ofD hints_bits_Reader_Var (by kernel_rfl) Go.Proofs.Tryz.func109 (by kernel_rfl) (by rw [eq_bits_Reader_Var]; exact H)

noncomputable def hints_bits_lay_uint64 : Hints := Hints.mk (fun i => bif Nat.beq i 6 then some ([16], .take 0 <| .take 1 <| .take 2 <| .take 3 <| .take 5 <| .take 6 <| .take 7 <| .take 8 <| .take 9 <| .take 10 <| .take 11 <| .take 12 <| .take 13 <| .take 4 <| .take 14 <| .take 15 <| .bar 16 [] <| .done) else (none))
  (fun i => bif Nat.beq i 2 then some ([(0, .slc), (1, .int .i64), (9, .int .i64)], 1099511624195) else (none))
  (fun i => bif Nat.beq i 6 then some ([(0, .slc)], 4128769) else (none)) []
set_option maxRecDepth 100000 in
theorem eq_bits_lay_uint64 (C : CallP) (b : Option Addr) (bn : Nat) (bc : Nat) (atv : Int) (n : Int) (width : Int) (h : Heap) (K : Value → Heap → Prop) (Kp : List PanicEntry → Heap → Prop) :
    fnD Go.Proofs.Tryz.prog C hints_bits_lay_uint64 Go.Proofs.Tryz.f138 [.slice b bn bc, .int .i64 atv, .int .u64 n, .int .i64 width] h K Kp = bits_lay_uint64 C b bn bc atv n width h K Kp := by kernel_rfl

theorem call_bits_lay_uint64 {b : Option Addr} {bn : Nat} {bc : Nat} {atv : Int} {n : Int} {width : Int} {h : Heap} {K : Value → Heap → Prop} {Kp : List PanicEntry → Heap → Prop} (H : bits_lay_uint64 (CallsHP Go.Proofs.Tryz.prog) b bn bc atv n width h K Kp) : CallsHP Go.Proofs.Tryz.prog F_bits_lay_uint64 #[.slice b bn bc, .int .i64 atv, .int .u64 n, .int .i64 width] h K Kp :=
  callsHP_of hints_bits_lay_uint64 (by kernel_rfl) Go.Proofs.Tryz.func138 (by kernel_rfl) (by rw [eq_bits_lay_uint64]; exact H)

noncomputable def hints_bits_lay_uint8 : Hints := Hints.mk (fun i => bif Nat.beq i 6 then some ([15], .take 0 <| .take 1 <| .take 2 <| .take 3 <| .take 5 <| .take 6 <| .take 7 <| .take 8 <| .take 9 <| .take 10 <| .take 11 <| .take 12 <| .take 4 <| .take 13 <| .take 14 <| .bar 15 [] <| .done) else (none))
  (fun i => bif Nat.beq i 2 then some ([(0, .slc), (1, .int .i64), (9, .int .i64)], 549755810307) else (none))
  (fun i => bif Nat.beq i 6 then some ([(0, .slc)], 4128769) else (none)) []
set_option maxRecDepth 100000 in
theorem eq_bits_lay_uint8 (C : CallP) (b : Option Addr) (bn : Nat) (bc : Nat) (atv : Int) (n : Int) (width : Int) (h : Heap) (K : Value → Heap → Prop) (Kp : List PanicEntry → Heap → Prop) :
    fnD Go.Proofs.Tryz.prog C hints_bits_lay_uint8 Go.Proofs.Tryz.f139 [.slice b bn bc, .int .i64 atv, .int .u8 n, .int .i64 width] h K Kp = bits_lay_uint8 C b bn bc atv n width h K Kp := by kernel_rfl

theorem call_bits_lay_uint8 {b : Option Addr} {bn : Nat} {bc : Nat} {atv : Int} {n : Int} {width : Int} {h : Heap} {K : Value → Heap → Prop} {Kp : List PanicEntry → Heap → Prop} (H : bits_lay_uint8 (CallsHP Go.Proofs.Tryz.prog) b bn bc atv n width h K Kp) : CallsHP Go.Proofs.Tryz.prog F_bits_lay_uint8 #[.slice b bn bc, .int .i64 atv, .int .u8 n, .int .i64 width] h K Kp :=
  callsHP_of hints_bits_lay_uint8 (by kernel_rfl) Go.Proofs.Tryz.func139 (by kernel_rfl) (by rw [eq_bits_lay_uint8]; exact H)

noncomputable def hints_bits_told_uint64 : Hints := Hints.mk (fun i => none)
  (fun i => bif Nat.beq i 3 then some ([(7, .int .u64), (10, .int .i64)], 4294966656) else (none))
  (fun i => none) []
set_option maxRecDepth 100000 in
theorem eq_bits_told_uint64 (C : CallP) (b : Option Addr) (bn : Nat) (bc : Nat) (atv : Int) (width : Int) (h : Heap) (K : Value → Heap → Prop) (Kp : List PanicEntry → Heap → Prop) :
    fnD Go.Proofs.Tryz.prog C hints_bits_told_uint64 Go.Proofs.Tryz.f159 [.slice b bn bc, .int .i64 atv, .int .i64 width] h K Kp = bits_told_uint64 C b bn bc atv width h K Kp := by kernel_rfl

theorem call_bits_told_uint64 {b : Option Addr} {bn : Nat} {bc : Nat} {atv : Int} {width : Int} {h : Heap} {K : Value → Heap → Prop} {Kp : List PanicEntry → Heap → Prop} (H : bits_told_uint64 (CallsHP Go.Proofs.Tryz.prog) b bn bc atv width h K Kp) : CallsHP Go.Proofs.Tryz.prog F_bits_told_uint64 #[.slice b bn bc, .int .i64 atv, .int .i64 width] h K Kp :=
  callsHP_of hints_bits_told_uint64 (by kernel_rfl) Go.Proofs.Tryz.func159 (by kernel_rfl) (by rw [eq_bits_told_uint64]; exact H)

noncomputable def hints_bits_Reader_Var_c1 : Hints := Hints.mk (fun i => none)
  (fun i => none)
  (fun i => none) []
set_option maxRecDepth 100000 in
theorem eq_bits_Reader_Var_c1 (C : CallP) (cap0 : Addr) (cap1 : Addr) (cap2 : Addr) (cap3 : Addr) (h : Heap) (K : Value → Heap → Prop) (Kp : List PanicEntry → Heap → Prop) :
    fnD Go.Proofs.Tryz.prog C hints_bits_Reader_Var_c1 Go.Proofs.Tryz.f160 [.pointer (some cap0), .pointer (some cap1), .pointer (some cap2), .pointer (some cap3)] h K Kp = bits_Reader_Var_c1 C cap0 cap1 cap2 cap3 h K Kp := by kernel_rfl

noncomputable def hints_bits_Reader_group : Hints := Hints.mk (fun i => bif Nat.beq i 4 then some ([9], .take 0 <| .take 1 <| .take 2 <| .take 4 <| .take 5 <| .take 6 <| .take 3 <| .take 7 <| .take 8 <| .bar 9 [] <| .take 10 <| .take 11 <| .done) else (none))
  (fun i => none)
  (fun i => none) []
set_option maxRecDepth 100000 in
theorem eq_bits_Reader_group (C : CallP) (r : Option Addr) (h : Heap) (K : Value → Heap → Prop) (Kp : List PanicEntry → Heap → Prop) :
    fnD Go.Proofs.Tryz.prog C hints_bits_Reader_group Go.Proofs.Tryz.f161 [.pointer r] h K Kp = bits_Reader_group C r h K Kp := by kernel_rfl

theorem call_bits_Reader_group {r : Option Addr} {h : Heap} {K : Value → Heap → Prop} {Kp : List PanicEntry → Heap → Prop} (H : bits_Reader_group (CallsHP Go.Proofs.Tryz.prog) r h K Kp) : CallsHP Go.Proofs.Tryz.prog F_bits_Reader_group #[.pointer r] h K Kp :=
  callsHP_of hints_bits_Reader_group (by kernel_rfl) Go.Proofs.Tryz.func161 (by kernel_rfl) (by rw [eq_bits_Reader_group]; exact H)

noncomputable def hints_bits_told_uint8 : Hints := Hints.mk (fun i => none)
  (fun i => bif Nat.beq i 3 then some ([(7, .int .u8), (10, .int .i64)], 2147483008) else (none))
  (fun i => none) []
set_option maxRecDepth 100000 in
theorem eq_bits_told_uint8 (C : CallP) (b : Option Addr) (bn : Nat) (bc : Nat) (atv : Int) (width : Int) (h : Heap) (K : Value → Heap → Prop) (Kp : List PanicEntry → Heap → Prop) :
    fnD Go.Proofs.Tryz.prog C hints_bits_told_uint8 Go.Proofs.Tryz.f195 [.slice b bn bc, .int .i64 atv, .int .i64 width] h K Kp = bits_told_uint8 C b bn bc atv width h K Kp := by kernel_rfl

theorem call_bits_told_uint8 {b : Option Addr} {bn : Nat} {bc : Nat} {atv : Int} {width : Int} {h : Heap} {K : Value → Heap → Prop} {Kp : List PanicEntry → Heap → Prop} (H : bits_told_uint8 (CallsHP Go.Proofs.Tryz.prog) b bn bc atv width h K Kp) : CallsHP Go.Proofs.Tryz.prog F_bits_told_uint8 #[.slice b bn bc, .int .i64 atv, .int .i64 width] h K Kp :=
  callsHP_of hints_bits_told_uint8 (by kernel_rfl) Go.Proofs.Tryz.func195 (by kernel_rfl) (by rw [eq_bits_told_uint8]; exact H)

end Go.Den.YtfaclehehhgpcaaGreat

/- PbA: the writer of bits, where whole bytes are written. -/
set_option linter.unusedVariables false
set_option linter.unusedSimpArgs false
namespace Go.Bm
open Go Go.Den Go.Den.YtfaclehehhgpcaaGreat
open Go.Ar (u8s u8s_length)

theorem take_snocG {α : Type} {l : List α} {i : Nat} {x : α} (h : l[i]? = some x) : l.take (i + 1) = l.take i ++ [x] := by
  obtain ⟨hi, he⟩ := List.getElem?_eq_some_iff.1 h
  rw [List.take_succ_eq_append_getElem hi, he]
/-! ### groups -/
def grpF : Nat → Nat → List Nat
  | 0, n => [n % 128]
  | f + 1, n => if n < 128 then [n] else (n % 128 + 128) :: grpF f (n / 128)
def grp (n : Nat) : List Nat := grpF 10 n
def preG (d n : Nat) : List Nat := (List.range d).map fun i => n / 128 ^ i % 128 + 128
theorem grpF_eq : ∀ (d f n : Nat), d < f → n / 128 ^ d < 128 → (∀ j, j < d → 128 ≤ n / 128 ^ j) → grpF f n = preG d n ++ [n / 128 ^ d]
  | 0, f + 1, n, _, h, _ => by
    rw [Nat.pow_zero, Nat.div_one] at h ⊢
    show (if n < 128 then [n] else _) = _
    rw [if_pos h]
    rfl
  | d + 1, f + 1, n, hf, h, hj => by
    have h0 := hj 0 (by omega)
    rw [Nat.pow_zero, Nat.div_one] at h0
    have hd : ∀ k, n / 128 / 128 ^ k = n / 128 ^ (k + 1) := fun k => by rw [Nat.div_div_eq_div_mul, Nat.pow_succ, Nat.mul_comm]
    have ih := grpF_eq d f (n / 128) (by omega) (by rw [hd]; exact h) (fun j hjd => by rw [hd]; exact hj (j + 1) (by omega))
    show (if n < 128 then [n] else (n % 128 + 128) :: grpF f (n / 128)) = _
    rw [if_neg (by omega), ih, hd]
    have e : preG (d + 1) n = (n % 128 + 128) :: preG d (n / 128) := by
      unfold preG
      rw [List.range_succ_eq_map, List.map_cons, List.map_map, Nat.pow_zero, Nat.div_one]
      congr 1
      refine List.map_congr_left fun i _ => ?_
      show n / 128 ^ (i + 1) % 128 + 128 = _
      rw [hd]
    rw [e]
    rfl
theorem grpF_lt : ∀ (f n : Nat), ∀ x ∈ grpF f n, x < 256
  | 0, n => fun x hx => by rw [List.mem_singleton.1 hx]; omega
  | f + 1, n => fun x hx => by
    have hx : x ∈ (if n < 128 then [n] else (n % 128 + 128) :: grpF f (n / 128)) := hx
    split at hx
    · rw [List.mem_singleton.1 hx]; omega
    · rcases List.mem_cons.1 hx with rfl | hx
      · omega
      · exact grpF_lt f _ x hx
theorem grpF_len : ∀ (f n : Nat), 1 ≤ (grpF f n).length ∧ (grpF f n).length ≤ f + 1
  | 0, n => ⟨Nat.le_refl _, Nat.le_refl _⟩
  | f + 1, n => by
    show 1 ≤ (if n < 128 then [n] else (n % 128 + 128) :: grpF f (n / 128)).length ∧ (if n < 128 then [n] else (n % 128 + 128) :: grpF f (n / 128)).length ≤ _
    have := grpF_len f (n / 128)
    split
    · exact ⟨Nat.le_refl _, by show 1 ≤ _; omega⟩
    · rw [List.length_cons]; omega
theorem grp_lt {n : Nat} : ∀ x ∈ grp n, x < 256 := grpF_lt 10 n
theorem grp_len (n : Nat) : 1 ≤ (grp n).length ∧ (grp n).length ≤ 11 := grpF_len 10 n

/-! ### one byte, bit by bit -/
def bitsUp (x j : Nat) : Nat := x / 2 ^ (8 - j) * 2 ^ (8 - j)
def upOk : Bool := (List.range 256).all fun x => (List.range 8).all fun j => Nat.beq (bitsUp x j ||| (x / 2 ^ (7 - j) % 2) * 2 ^ (7 - j)) (bitsUp x (j + 1)) && Nat.blt (bitsUp x j) 256 && Nat.blt ((x / 2 ^ (7 - j) % 2) * 2 ^ (7 - j)) 256
set_option maxRecDepth 100000 in
theorem upOk_t : upOk = true := by kernel_rfl
theorem up_step {x j : Nat} (hx : x < 256) (hj : j < 8) : bitsUp x j ||| (x / 2 ^ (7 - j) % 2) * 2 ^ (7 - j) = bitsUp x (j + 1) ∧ bitsUp x j < 256 ∧ (x / 2 ^ (7 - j) % 2) * 2 ^ (7 - j) < 256 := by
  have h := List.all_eq_true.1 (List.all_eq_true.1 upOk_t x (List.mem_range.2 hx)) j (List.mem_range.2 hj)
  simp only [Bool.and_eq_true] at h
  exact ⟨Nat.eq_of_beq_eq_true h.1.1, Nat.le_of_ble_eq_true h.1.2, Nat.le_of_ble_eq_true h.2⟩
section
variable {h0 h : Heap} {F : List Nat} {A B D : List Ent}
theorem Slot.stV {t : TypeId} {n c i : Nat} {q : Option Addr} {xs : List Value} {v : Value} (hd : Slot t 1 D q n c xs) (H : Hp h0 F h (A ++ (D ++ B))) (hi : i < n) (hv : v.oneCell' = true) {K : Heap → Prop}
    (hk : ∀ D' h', Slot t 1 D' q n c (xs.set i v) → Hp h0 F h' (A ++ (D' ++ B)) → K h') : ∃ b, q = some ⟨b, 0, none⟩ ∧ Go.Den.stV h ⟨b, i, none⟩ v K := by
  obtain ⟨hl, ⟨rfl, rfl, rfl, rfl⟩ | ⟨b, rest, rfl, rfl, hc⟩⟩ := hd
  · omega
  · refine ⟨b, rfl, ?_⟩
    rw [Nat.mul_one] at hl
    have hlen : i < (xs ++ rest).length := by rw [List.length_append]; omega
    have he : (xs ++ rest).set i v = xs.set i v ++ rest := List.set_append_left _ _ (by omega)
    refine stV_hp (i := i) H A.length (by rw [List.getElem?_append_right (Nat.le_refl _), Nat.sub_self]; rfl) hlen hv fun h' _ H' => ?_
    refine hk [⟨b, true, t, xs.set i v ++ rest⟩] h' ⟨by rw [List.length_set]; omega, .inr ⟨b, rest, rfl, rfl, by rw [List.length_append, List.length_set, ← List.length_append]; exact hc⟩⟩ (H'.as ?_)
    rw [List.set_append_right _ _ (Nat.le_refl _), Nat.sub_self, ← he]
    rfl
theorem u8s_snoc (l : List Nat) (x : Nat) : u8s (l ++ [x]) = u8s l ++ [.int .u8 (x : Nat)] := by simp [u8s]
theorem u8s_last (l : List Nat) (x y : Nat) : (u8s (l ++ [x])).set l.length (.int .u8 (y : Nat)) = u8s (l ++ [y]) := by
  rw [u8s_snoc, u8s_snoc, List.set_append_right _ _ (by rw [u8s_length]; exact Nat.le_refl _), u8s_length, Nat.sub_self]
  rfl
end
section
variable {h0 h : Heap} {F : List Nat} {A B D : List Ent} {K : Value → Heap → Prop} {Kp : List PanicEntry → Heap → Prop} {q : Option Addr} {c : Nat} {bs : List Nat} {x : Nat}
set_option maxRecDepth 100000 in
set_option maxHeartbeats 2000000 in
theorem lay8_ok (hsl : Slot T_uint8 1 D q bs.length c (u8s bs)) (H : Hp h0 F h (A ++ (D ++ B))) (hx : x < 256) (hl : bs.length ≤ 1000000000)
    (hk : ∀ D' q' c' h', Slot T_uint8 1 D' q' (bs ++ [x]).length c' (u8s (bs ++ [x])) → Hp h0 F h' (A ++ (D' ++ B)) → K (.slice q' (bs ++ [x]).length c') h') :
    CP F_bits_lay_uint8 #[.slice q bs.length c, .int .i64 ((8 * bs.length : Nat) : Int), .int .u8 (x : Nat), .int .i64 8] h K Kp := by
  refine call_bits_lay_uint8 ?_
  unfold bits_lay_uint8
  refine bindI_of ((7 : Int)) (by exact i64_in _ (by omega) (by omega)) ?_
  refine ⟨fun f vs h' => ∃ (j : Nat) (bb : List Nat) (D' : List Ent) (q' : Option Addr) (c' : Nat), j + f = 8 ∧ bb = (if j = 0 then bs else bs ++ [bitsUp x j]) ∧ vs = [.slice q' bb.length c', .int .i64 ((8 * bs.length + j : Nat) : Int), .int .i64 (7 - (j : Int))] ∧
    Slot T_uint8 1 D' q' bb.length c' (u8s bb) ∧ Hp h0 F h' (A ++ (D' ++ B)), ⟨8, 0, bs, D, q, c, rfl, rfl, rfl, hsl, H⟩, ?_⟩
  clear H hsl
  rintro f h u qa na ca ta ia ⟨j, bb, D, q, c, hjf, hbb, hxx, hsl, H⟩
  injection hxx with hx1 hxx
  injection hxx with hx2 hxx
  injection hxx with hx3 hxx
  injection hx1 with hx1 hx4 hx5
  injection hx2 with _ hx2
  injection hx3 with _ hx3
  subst qa na ca ta ia
  refine bcase_dec (fun h4 => ?_) fun h4 => ?_
  · have hj : j < 8 := by omega
    obtain ⟨u1, u2, u3⟩ := up_step hx hj
    refine ⟨fun vs h' => ∃ (D' : List Ent) (q' : Option Addr) (c' : Nat), vs = [.slice q' (bs ++ [bitsUp x j]).length c'] ∧ Slot T_uint8 1 D' q' (bs ++ [bitsUp x j]).length c' (u8s (bs ++ [bitsUp x j])) ∧ Hp h0 F h' (A ++ (D' ++ B)), ?_, ?_⟩
    · refine bindI_of (((j : Nat) : Int)) (by exact (tmod_nat (8 * bs.length + j) 8).trans (by omega)) ?_
      refine bcase_eq (fun h5 => ?_) fun h5 => ?_
      · have hj0 : j = 0 := by omega
        rw [if_pos hj0] at hbb
        subst hbb
        refine newC_hp H fun r h H => ?_
        have H : Hp h0 F h (A ++ (D ++ (B ++ [⟨r, true, T_uint8, [.int .u8 0]⟩]))) := H.as (by simp only [List.append_assoc])
        refine Slot.app (m := 1) (new := [.int .u8 0]) hsl H rfl (Hp.rdO_mem (rest := []) (cs := [.int .u8 0]) H (List.mem_append_right _ (List.mem_append_right _ (List.mem_append_right _ (List.mem_singleton.2 rfl)))) rfl) rfl (fun v hv => by rw [List.mem_singleton.1 hv]; rfl) (by decide) (by omega) fun D' q' c' h' hsl' H' => ?_
        have e0 : bitsUp x j = 0 := by rw [hj0]; unfold bitsUp; rw [show 8 - 0 = 8 by rfl, Nat.div_eq_of_lt (by omega), Nat.zero_mul]
        rw [e0]
        refine ⟨D', q', c', ?_, ?_, ?_⟩
        · rw [List.length_append]; rfl
        · rw [List.length_append, u8s_snoc]; exact hsl'
        · have H2 : Hp h0 F h' ((A ++ (D' ++ B)) ++ [⟨r, true, T_uint8, [.int .u8 0]⟩]) := H'.as (by simp only [List.append_assoc])
          exact Hp.pre H2
      · rw [if_neg (by omega)] at hbb
        subst hbb
        exact ⟨D, q, c, rfl, hsl, H⟩
    clear H hsl hbb bb
    rintro h u qa na ca ⟨D, q, c, hxx, hsl, H⟩
    injection hxx with hx1 hxx
    injection hx1 with hx1 hx4 hx5
    subst qa na ca
    have hlen : (bs ++ [bitsUp x j]).length = bs.length + 1 := by rw [List.length_append]; rfl
    have hcell : (u8s (bs ++ [bitsUp x j]))[bs.length]? = some (.int .u8 (bitsUp x j : Nat)) := by
      rw [u8s_snoc, List.getElem?_append_right (by rw [u8s_length]; exact Nat.le_refl _), u8s_length, Nat.sub_self]
      rfl
    obtain ⟨b, hqb, hc⟩ := Slot.cell hsl H hcell
    subst hqb
    refine bindI_of (((bs.length : Nat) : Int)) (by exact i64_at _ _ (by rw [show ((8 * bs.length + j : Nat) : Int).tdiv 8 = (((8 * bs.length + j) / 8 : Nat) : Int) from rfl]; omega) (by omega) (by omega)) ?_
    refine needs_of (by rw [hlen]; omega) (ptr_of (a := ⟨b, 0, none⟩) ?_)
    rw [show (7 - (j : Int)) = ((7 - j : Nat) : Int) by omega]
    refine needs_of (by omega) ?_
    refine bindI_of (((x / 2 ^ (7 - j) : Nat) : Int)) (by exact shr_of (by show 7 - j ≤ 8; omega)) ?_
    have hxd : x / 2 ^ (7 - j) < 256 := Nat.lt_of_le_of_lt (Nat.div_le_self _ _) hx
    refine bindI_of (((x / 2 ^ (7 - j) % 2 : Nat) : Int)) (by exact (and8 _ 1 hxd (by decide)).trans (by rw [Nat.and_one_is_mod])) ?_
    refine bindI_of (((j : Nat) : Int)) (by exact (tmod_nat (8 * bs.length + j) 8).trans (by omega)) ?_
    refine bindI_of (((7 - j : Nat) : Int)) (by exact i64_at _ _ (by omega) (by omega) (by omega)) ?_
    refine needs_of (by omega) ?_
    refine bindI_of ((((x / 2 ^ (7 - j) % 2) * 2 ^ (7 - j) : Nat) : Int)) (by exact shl_of (by show 7 - j ≤ 8; omega) (wr8 _ (by omega) (by omega))) ?_
    rw [Int.toNat_natCast, Nat.mul_one]
    refine ldI_of (x := ((bitsUp x j : Nat) : Int)) (by rw [add_mk, Nat.zero_add]; exact hc) ?_
    refine bindI_of (((bitsUp x (j + 1) : Nat) : Int)) (by exact (or8 _ _ u2 u3).trans (by rw [u1])) ?_
    refine needs_of (by rw [hlen]; omega) (ptr_of (a := ⟨b, 0, none⟩) ?_)
    rw [add_mk, Nat.zero_add]
    obtain ⟨b', hb', hst⟩ := Slot.stV (i := bs.length) (v := .int .u8 ((bitsUp x (j + 1) : Nat) : Int)) hsl H (by omega) rfl (K := fun h_29 => bindI (IntKind.i64.wrap (((8 * bs.length + j : Nat) : Int) + 1)) fun z_30 => bindI (IntKind.i64.wrap (((7 - j : Nat) : Int) - 1)) fun z_31 => ∃ m_3, m_3 < f ∧ ∃ (j : Nat) (bb : List Nat) (D' : List Ent) (q' : Option Addr) (c' : Nat), j + m_3 = 8 ∧ bb = (if j = 0 then bs else bs ++ [bitsUp x j]) ∧ [Value.slice (some ⟨b, 0, none⟩) (bs ++ [bitsUp x j.pred]).length c, Value.int .i64 z_30, Value.int .i64 z_31] = [.slice q' bb.length c', .int .i64 ((8 * bs.length + j : Nat) : Int), .int .i64 (7 - (j : Int))] ∧
      Slot T_uint8 1 D' q' bb.length c' (u8s bb) ∧ Hp h0 F h_29 (A ++ (D' ++ B))) fun D' h' hsl' H' => by
        refine bindI_of (((8 * bs.length + (j + 1) : Nat) : Int)) (by exact i64_at _ _ (by omega) (by omega) (by omega)) ?_
        refine bindI_of ((7 - ((j + 1 : Nat) : Int))) (by exact i64_at _ _ (by omega) (by omega) (by omega)) ?_
        rw [u8s_last] at hsl'
        refine ⟨f - 1, by omega, j + 1, bs ++ [bitsUp x (j + 1)], D', some ⟨b, 0, none⟩, c, by omega, by rw [if_neg (by omega)], ?_, ?_, H'⟩
        · rw [List.length_append, List.length_append]; rfl
        · rw [List.length_append] at hsl' ⊢; exact hsl'
    injection hb' with hb'
    injection hb' with hb'
    subst hb'
    have e3 : ∀ k, (bs ++ [bitsUp x k]).length = bs.length + 1 := fun k => by rw [List.length_append]; rfl
    simp only [e3] at hst ⊢
    exact hst
  · have hj : j = 8 := by omega
    subst hj
    rw [if_neg (by decide)] at hbb
    have e8 : bitsUp x 8 = x := by unfold bitsUp; simp
    rw [e8] at hbb
    subst hbb
    exact hk D q c h hsl H
end
end Go.Bm

/- PbB: the writer of bits: bytes, numbers in groups. -/
set_option linter.unusedVariables false
set_option linter.unusedSimpArgs false
namespace Go.Bm
open Go Go.Den Go.Den.YtfaclehehhgpcaaGreat
open Go.Ar (u8s u8s_length u8s_cells)

section
variable {h0 h : Heap} {F : List Nat} {A B D : List Ent} {K : Value → Heap → Prop} {Kp : List PanicEntry → Heap → Prop} {q : Option Addr} {c : Nat} {bs : List Nat} {x : Nat}
set_option maxRecDepth 100000 in
set_option maxHeartbeats 2000000 in
theorem lay64_ok (hsl : Slot T_uint8 1 D q bs.length c (u8s bs)) (H : Hp h0 F h (A ++ (D ++ B))) (hx : x < 256) (hl : bs.length ≤ 1000000000)
    (hk : ∀ D' q' c' h', Slot T_uint8 1 D' q' (bs ++ [x]).length c' (u8s (bs ++ [x])) → Hp h0 F h' (A ++ (D' ++ B)) → K (.slice q' (bs ++ [x]).length c') h') :
    CP F_bits_lay_uint64 #[.slice q bs.length c, .int .i64 ((8 * bs.length : Nat) : Int), .int .u64 (x : Nat), .int .i64 8] h K Kp := by
  refine call_bits_lay_uint64 ?_
  unfold bits_lay_uint64
  refine bindI_of ((7 : Int)) (by exact i64_in _ (by omega) (by omega)) ?_
  refine ⟨fun f vs h' => ∃ (j : Nat) (bb : List Nat) (D' : List Ent) (q' : Option Addr) (c' : Nat), j + f = 8 ∧ bb = (if j = 0 then bs else bs ++ [bitsUp x j]) ∧ vs = [.slice q' bb.length c', .int .i64 ((8 * bs.length + j : Nat) : Int), .int .i64 (7 - (j : Int))] ∧
    Slot T_uint8 1 D' q' bb.length c' (u8s bb) ∧ Hp h0 F h' (A ++ (D' ++ B)), ⟨8, 0, bs, D, q, c, rfl, rfl, rfl, hsl, H⟩, ?_⟩
  clear H hsl
  rintro f h u qa na ca ta ia ⟨j, bb, D, q, c, hjf, hbb, hxx, hsl, H⟩
  injection hxx with hx1 hxx
  injection hxx with hx2 hxx
  injection hxx with hx3 hxx
  injection hx1 with hx1 hx4 hx5
  injection hx2 with _ hx2
  injection hx3 with _ hx3
  subst qa na ca ta ia
  refine bcase_dec (fun h4 => ?_) fun h4 => ?_
  · have hj : j < 8 := by omega
    obtain ⟨u1, u2, u3⟩ := up_step hx hj
    refine ⟨fun vs h' => ∃ (D' : List Ent) (q' : Option Addr) (c' : Nat), vs = [.slice q' (bs ++ [bitsUp x j]).length c'] ∧ Slot T_uint8 1 D' q' (bs ++ [bitsUp x j]).length c' (u8s (bs ++ [bitsUp x j])) ∧ Hp h0 F h' (A ++ (D' ++ B)), ?_, ?_⟩
    · refine bindI_of (((j : Nat) : Int)) (by exact (tmod_nat (8 * bs.length + j) 8).trans (by omega)) ?_
      refine bcase_eq (fun h5 => ?_) fun h5 => ?_
      · have hj0 : j = 0 := by omega
        rw [if_pos hj0] at hbb
        subst hbb
        refine newC_hp H fun r h H => ?_
        have H : Hp h0 F h (A ++ (D ++ (B ++ [⟨r, true, T_uint8, [.int .u8 0]⟩]))) := H.as (by simp only [List.append_assoc])
        refine Slot.app (m := 1) (new := [.int .u8 0]) hsl H rfl (Hp.rdO_mem (rest := []) (cs := [.int .u8 0]) H (List.mem_append_right _ (List.mem_append_right _ (List.mem_append_right _ (List.mem_singleton.2 rfl)))) rfl) rfl (fun v hv => by rw [List.mem_singleton.1 hv]; rfl) (by decide) (by omega) fun D' q' c' h' hsl' H' => ?_
        have e0 : bitsUp x j = 0 := by rw [hj0]; unfold bitsUp; rw [show 8 - 0 = 8 by rfl, Nat.div_eq_of_lt (by omega), Nat.zero_mul]
        rw [e0]
        refine ⟨D', q', c', ?_, ?_, ?_⟩
        · rw [List.length_append]; rfl
        · rw [List.length_append, u8s_snoc]; exact hsl'
        · have H2 : Hp h0 F h' ((A ++ (D' ++ B)) ++ [⟨r, true, T_uint8, [.int .u8 0]⟩]) := H'.as (by simp only [List.append_assoc])
          exact Hp.pre H2
      · rw [if_neg (by omega)] at hbb
        subst hbb
        exact ⟨D, q, c, rfl, hsl, H⟩
    clear H hsl hbb bb
    rintro h u qa na ca ⟨D, q, c, hxx, hsl, H⟩
    injection hxx with hx1 hxx
    injection hx1 with hx1 hx4 hx5
    subst qa na ca
    have hlen : (bs ++ [bitsUp x j]).length = bs.length + 1 := by rw [List.length_append]; rfl
    have hcell : (u8s (bs ++ [bitsUp x j]))[bs.length]? = some (.int .u8 (bitsUp x j : Nat)) := by
      rw [u8s_snoc, List.getElem?_append_right (by rw [u8s_length]; exact Nat.le_refl _), u8s_length, Nat.sub_self]
      rfl
    obtain ⟨b, hqb, hc⟩ := Slot.cell hsl H hcell
    subst hqb
    refine bindI_of (((bs.length : Nat) : Int)) (by exact i64_at _ _ (by rw [show ((8 * bs.length + j : Nat) : Int).tdiv 8 = (((8 * bs.length + j) / 8 : Nat) : Int) from rfl]; omega) (by omega) (by omega)) ?_
    refine needs_of (by rw [hlen]; omega) (ptr_of (a := ⟨b, 0, none⟩) ?_)
    rw [show (7 - (j : Int)) = ((7 - j : Nat) : Int) by omega]
    refine needs_of (by omega) ?_
    refine bindI_of (((x / 2 ^ (7 - j) : Nat) : Int)) (by exact shr_of (by show 7 - j ≤ 64; omega)) ?_
    have hxd : x / 2 ^ (7 - j) < 256 := Nat.lt_of_le_of_lt (Nat.div_le_self _ _) hx
    refine bindI_of (((x / 2 ^ (7 - j) % 2 : Nat) : Int)) (by exact (and64 _ 1 (by omega) (by decide)).trans (by rw [Nat.and_one_is_mod])) ?_
    refine bindI_of (((x / 2 ^ (7 - j) % 2 : Nat) : Int)) (by exact wr8 _ (by omega) (by omega)) ?_
    refine bindI_of (((j : Nat) : Int)) (by exact (tmod_nat (8 * bs.length + j) 8).trans (by omega)) ?_
    refine bindI_of (((7 - j : Nat) : Int)) (by exact i64_at _ _ (by omega) (by omega) (by omega)) ?_
    refine needs_of (by omega) ?_
    refine bindI_of ((((x / 2 ^ (7 - j) % 2) * 2 ^ (7 - j) : Nat) : Int)) (by exact shl_of (by show 7 - j ≤ 8; omega) (wr8 _ (by omega) (by omega))) ?_
    rw [Int.toNat_natCast, Nat.mul_one]
    refine ldI_of (x := ((bitsUp x j : Nat) : Int)) (by rw [add_mk, Nat.zero_add]; exact hc) ?_
    refine bindI_of (((bitsUp x (j + 1) : Nat) : Int)) (by exact (or8 _ _ u2 u3).trans (by rw [u1])) ?_
    refine needs_of (by rw [hlen]; omega) (ptr_of (a := ⟨b, 0, none⟩) ?_)
    rw [add_mk, Nat.zero_add]
    obtain ⟨b', hb', hst⟩ := Slot.stV (i := bs.length) (v := .int .u8 ((bitsUp x (j + 1) : Nat) : Int)) hsl H (by omega) rfl (K := fun h_29 => bindI (IntKind.i64.wrap (((8 * bs.length + j : Nat) : Int) + 1)) fun z_30 => bindI (IntKind.i64.wrap (((7 - j : Nat) : Int) - 1)) fun z_31 => ∃ m_3, m_3 < f ∧ ∃ (j : Nat) (bb : List Nat) (D' : List Ent) (q' : Option Addr) (c' : Nat), j + m_3 = 8 ∧ bb = (if j = 0 then bs else bs ++ [bitsUp x j]) ∧ [Value.slice (some ⟨b, 0, none⟩) (bs ++ [bitsUp x j.pred]).length c, Value.int .i64 z_30, Value.int .i64 z_31] = [.slice q' bb.length c', .int .i64 ((8 * bs.length + j : Nat) : Int), .int .i64 (7 - (j : Int))] ∧
      Slot T_uint8 1 D' q' bb.length c' (u8s bb) ∧ Hp h0 F h_29 (A ++ (D' ++ B))) fun D' h' hsl' H' => by
        refine bindI_of (((8 * bs.length + (j + 1) : Nat) : Int)) (by exact i64_at _ _ (by omega) (by omega) (by omega)) ?_
        refine bindI_of ((7 - ((j + 1 : Nat) : Int))) (by exact i64_at _ _ (by omega) (by omega) (by omega)) ?_
        rw [u8s_last] at hsl'
        refine ⟨f - 1, by omega, j + 1, bs ++ [bitsUp x (j + 1)], D', some ⟨b, 0, none⟩, c, by omega, by rw [if_neg (by omega)], ?_, ?_, H'⟩
        · rw [List.length_append, List.length_append]; rfl
        · rw [List.length_append] at hsl' ⊢; exact hsl'
    injection hb' with hb'
    injection hb' with hb'
    subst hb'
    have e3 : ∀ k, (bs ++ [bitsUp x k]).length = bs.length + 1 := fun k => by rw [List.length_append]; rfl
    simp only [e3] at hst ⊢
    exact hst
  · have hj : j = 8 := by omega
    subst hj
    rw [if_neg (by decide)] at hbb
    have e8 : bitsUp x 8 = x := by unfold bitsUp; simp
    rw [e8] at hbb
    subst hbb
    exact hk D q c h hsl H
end

/-- A writer's rows. -/
def wrE (w : Nat) (q : Option Addr) (c : Nat) (bs : List Nat) : Ent := ⟨w, true, T_bits_Writer, [.slice q bs.length c, .int .i64 ((8 * bs.length : Nat) : Int), .int .i64 536870912]⟩
def WrL (w : Nat) (bs : List Nat) (L : List Ent) : Prop := ∃ q c D, Slot T_uint8 1 D q bs.length c (u8s bs) ∧ L = wrE w q c bs :: D
theorem WrL.w {w : Nat} {bs : List Nat} {L : List Ent} (h : WrL w bs L) : L.all Ent.w = true := by
  obtain ⟨q, c, D, hs, rfl⟩ := h
  rw [List.all_cons, hs.w]
  rfl
section
variable {h0 h : Heap} {F : List Nat} {L : List Ent} {K : Value → Heap → Prop} {Kp : List PanicEntry → Heap → Prop} {w : Nat} {bs : List Nat} {x : Nat}
theorem newWriter_ok (hk : ∀ w h', Hp h [] h' [wrE w none 0 []] → K (.tuple #[.pointer (some ⟨w, 0, none⟩), .int .i64 0]) h') : CP F_bits_NewWriter #[.int .i64 67108864] h K Kp := by
  refine call_bits_NewWriter ?_
  unfold bits_NewWriter
  refine bcase_dec (fun h1 => absurd h1 (by decide)) fun _ => ?_
  refine bcase_dec (fun h1 => absurd h1 (by decide)) fun _ => ?_
  refine bindI_of ((536870912 : Int)) (by exact i64_at _ _ (by decide) (by decide) (by decide)) ?_
  exact newC_hp (Hp.nil h []) fun r h H => hk r h H
set_option maxRecDepth 100000 in
set_option maxHeartbeats 2000000 in
theorem put8_ok (H : Hp h0 F h L) (hw : WrL w bs L) (hx : x < 256) (hl : bs.length ≤ 60000000) (hk : ∀ L' h', WrL w (bs ++ [x]) L' → Hp h0 F h' L' → K (.int .i64 0) h') :
    CP F_bits_Writer_Put #[.pointer (some ⟨w, 0, none⟩), .int .u64 (x : Nat), .int .i64 8] h K Kp := by
  obtain ⟨q, c, D, hs, rfl⟩ := hw
  refine call_bits_Writer_Put ?_
  unfold bits_Writer_Put
  refine bcase_dec (fun h1 => absurd h1 (by decide)) fun _ => ?_
  refine bcase_dec (fun h1 => absurd h1 (by decide)) fun _ => ?_
  refine ⟨fun vs h' => vs = [.bool false] ∧ h' = h, ?_, ?_⟩
  · refine bcase_dec (fun _ => ?_) fun h1 => absurd (by decide) h1
    refine needs_of (by decide) ?_
    refine bindI_of (((x / 2 ^ 8 : Nat) : Int)) (by exact shr_of (i := 8) (by decide)) ?_
    rw [Nat.div_eq_of_lt (by omega)]
    exact ⟨rfl, rfl⟩
  rintro h' u b ⟨hb, rfl⟩
  injection hb with hb _
  injection hb with hb
  subst hb
  refine bcase_false (by rfl) ?_
  refine ptr_of (a := ⟨w, 0, none⟩) (ptr_of (a := ⟨w, 0, none⟩) ?_)
  refine ldI_of (hpA H 0 rfl rfl) ?_
  refine bindI_of (((8 * bs.length + 8 : Nat) : Int)) (by exact i64_at _ _ (by omega) (by omega) (by omega)) ?_
  refine ldI_of (hpA H 0 rfl rfl) ?_
  refine bcase_dec (fun h1 => absurd h1 (by omega)) fun _ => ?_
  refine ptr_of (a := ⟨w, 0, none⟩) (ptr_of (a := ⟨w, 0, none⟩) ?_)
  refine ldS_of (hpA H 0 rfl rfl) (ldI_of (hpA H 0 rfl rfl) ?_)
  have H1 : Hp h0 F h' ([wrE w q c bs] ++ (D ++ [])) := H.as (by simp)
  refine lay64_ok hs H1 hx (by omega) fun D' q' c' h hs' H => ?_
  refine ⟨_, _, _, rfl, ?_⟩
  refine ptr_of (a := ⟨w, 0, none⟩) ?_
  refine stA H 0 rfl rfl rfl fun h H => ?_
  refine ptr_of (a := ⟨w, 0, none⟩) ?_
  refine ldI_of (hpA H 0 rfl rfl) ?_
  refine bindI_of (((8 * (bs ++ [x]).length : Nat) : Int)) (by exact i64_at _ _ (by have : (bs ++ [x]).length = bs.length + 1 := List.length_append; omega) (by omega) (by have : (bs ++ [x]).length = bs.length + 1 := List.length_append; omega)) ?_
  refine ptr_of (a := ⟨w, 0, none⟩) ?_
  refine stA H 0 rfl rfl rfl fun h H => ?_
  have H : Hp h0 F h (wrE w q' c' (bs ++ [x]) :: (D' ++ [])) := H
  rw [List.append_nil] at H
  exact hk _ h ⟨q', c', D', hs', rfl⟩ H
theorem pow7 (i : Nat) : (2 : Nat) ^ (7 * i) = 128 ^ i := by rw [Nat.pow_mul]
theorem or128 : ((List.range 128).all fun y => Nat.beq (y ||| 128) (y + 128)) = true := by decide +kernel
set_option maxRecDepth 100000 in
set_option maxHeartbeats 4000000 in
theorem var_ok {n : Nat} (H : Hp h0 F h L) (hw : WrL w bs L) (hn : n < 18446744073709551616) (hl : bs.length ≤ 60000000) (hk : ∀ L' h', WrL w (bs ++ grp n) L' → Hp h0 F h' L' → K (.int .i64 0) h') :
    CP F_bits_Writer_Var #[.pointer (some ⟨w, 0, none⟩), .int .u64 (n : Nat)] h K Kp := by
  refine call_bits_Writer_Var ?_
  unfold bits_Writer_Var
  have hd : ∀ k, n / 128 ^ k / 128 = n / 128 ^ (k + 1) := fun k => by rw [Nat.div_div_eq_div_mul, Nat.pow_succ]
  refine bindI_of (((n / 128 ^ 1 : Nat) : Int)) (by exact shr_of (i := 7) (by decide)) ?_
  refine ⟨fun m vs h' => ∃ k : Nat, 1 ≤ k ∧ m = n / 128 ^ k ∧ vs = [.int .i64 (k : Nat), .int .u64 ((n / 128 ^ k : Nat) : Int)] ∧ (∀ j, j + 1 < k → 128 ≤ n / 128 ^ j) ∧ h' = h, ⟨n / 128 ^ 1, 1, Nat.le_refl _, rfl, rfl, fun j hj => by omega, rfl⟩, ?_⟩
  rintro m h' u xa xb ⟨k, hk1, hm, hxx, hge, rfl⟩
  injection hxx with hx1 hxx
  injection hxx with hx2 hxx
  injection hx1 with _ hx1
  injection hx2 with _ hx2
  subst xa xb
  have hk11 : k ≤ 11 := by
    refine Decidable.byContradiction fun hh => ?_
    have h1 := hge 10 (by omega)
    have h2 : n / 128 ^ 10 = 0 := Nat.div_eq_of_lt (Nat.lt_trans hn (by decide))
    omega
  refine bcase_dec (fun h1 => ?_) fun h1 => ?_
  · refine bindI_of (((k + 1 : Nat) : Int)) (by exact i64_at _ _ (by omega) (by omega) (by omega)) ?_
    refine bindI_of (((n / 128 ^ (k + 1) : Nat) : Int)) (by exact (shr_of (i := 7) (by decide)).trans (by rw [← hd])) ?_
    have h1 : 0 < n / 128 ^ k := by omega
    refine ⟨n / 128 ^ (k + 1), ?_, k + 1, by omega, rfl, rfl, fun j hj => ?_, rfl⟩
    · rw [hm, ← hd]
      exact Nat.div_lt_self h1 (by decide)
    · by_cases hjk : j + 1 < k
      · exact hge j hjk
      · have : j + 1 = k := by omega
        rw [← this, ← hd] at h1
        have := (Nat.div_pos_iff.1 h1).2
        omega
  have hk10 : n / 128 ^ k = 0 := by omega
  have hlast : n / 128 ^ (k - 1) < 128 := by
    have e := hd (k - 1)
    rw [show k - 1 + 1 = k by omega, hk10] at e
    rcases Nat.div_eq_zero_iff.1 e with e | e
    · cases e
    · exact e
  have hk10' : k ≤ 10 := by
    refine Decidable.byContradiction fun hh => ?_
    have h1 := hge 9 (by omega)
    have h2 : n / 128 ^ 9 < 128 := (Nat.div_lt_iff_lt_mul (by decide)).2 (Nat.lt_trans hn (by decide))
    omega
  have hgrp := grpF_eq (k - 1) 10 n (by omega) hlast (fun j hj => hge j (by omega))
  have hgl : (grp n).length = k := by
    unfold grp
    rw [hgrp, List.length_append, List.length_singleton]
    unfold preG
    rw [List.length_map, List.length_range]
    omega
  have hgi : ∀ i, i < k → (grp n)[i]? = some (if i + 1 < k then n / 128 ^ i % 128 + 128 else n / 128 ^ i) := fun i hi => by
    unfold grp
    rw [hgrp]
    have hpl : (preG (k - 1) n).length = k - 1 := by unfold preG; rw [List.length_map, List.length_range]
    by_cases h2 : i + 1 < k
    · rw [List.getElem?_append_left (by omega), if_pos h2]
      unfold preG
      rw [List.getElem?_map, List.getElem?_range (by omega)]
      rfl
    · rw [List.getElem?_append_right (by omega), if_neg h2, hpl, show i - (k - 1) = 0 by omega, show k - 1 = i by omega]
      rfl
  obtain ⟨q, c, D, hs, rfl⟩ := hw
  refine ptr_of (a := ⟨w, 0, none⟩) ?_
  refine bindI_of (((8 * k : Nat) : Int)) (by exact i64_at _ _ (by omega) (by omega) (by omega)) ?_
  refine ptr_of (a := ⟨w, 0, none⟩) ?_
  refine ldI_of (hpA H 0 rfl rfl) ?_
  refine bindI_of (((8 * bs.length + 8 * k : Nat) : Int)) (by exact i64_at _ _ (by omega) (by omega) (by omega)) ?_
  refine ldI_of (hpA H 0 rfl rfl) ?_
  refine bcase_dec (fun h1 => absurd h1 (by omega)) fun _ => ?_
  refine ⟨fun m vs h' => ∃ (i : Nat) (L' : List Ent), i + m = k ∧ vs = [.int .i64 (i : Nat)] ∧ WrL w (bs ++ (grp n).take i) L' ∧ Hp h0 F h' L', ⟨k, 0, _, by omega, rfl, ⟨q, c, D, by rw [List.take_zero, List.append_nil]; exact hs, by rw [List.take_zero, List.append_nil]⟩, H⟩, ?_⟩
  clear H hs
  rintro m h u xa ⟨i, L', him, hxx, ⟨q, c, D, hs, rfl⟩, H⟩
  injection hxx with hx1 hxx
  injection hx1 with _ hx1
  subst xa
  have htl : (bs ++ (grp n).take i).length ≤ bs.length + k := by rw [List.length_append, List.length_take]; omega
  refine bcase_dec (fun h1 => ?_) fun h1 => ?_
  · have hi : i < k := by omega
    refine bindI_of (((7 * i : Nat) : Int)) (by exact i64_at _ _ (by omega) (by omega) (by omega)) ?_
    refine needs_of (by omega) ?_
    refine bindI_of (((n / 128 ^ i : Nat) : Int)) (by exact (shr_of (by show 7 * i ≤ 64; omega)).trans (by rw [pow7])) ?_
    refine bindI_of (((n / 128 ^ i % 256 : Nat) : Int)) (by rw [IntKind.wrap_u8]; omega) ?_
    refine bindI_of (((n / 128 ^ i % 128 : Nat) : Int)) (by exact (and8 _ 127 (by omega) (by decide)).trans (by have := Nat.and_two_pow_sub_one_eq_mod (n / 128 ^ i % 256) 7; rw [show (127 : Nat) = 2 ^ 7 - 1 from rfl, this]; omega)) ?_
    obtain ⟨y, hy⟩ : ∃ y, y = (if i + 1 < k then n / 128 ^ i % 128 + 128 else n / 128 ^ i) := ⟨_, rfl⟩
    have hgy := hgi i hi
    rw [← hy] at hgy
    have hy256 : y < 256 := grp_lt y (List.mem_of_getElem? hgy)
    refine ⟨fun vs h2 => vs = [.int .u8 (y : Nat)] ∧ h2 = h, ?_, ?_⟩
    · refine bindI_of (((k - 1 : Nat) : Int)) (by exact i64_at _ _ (by omega) (by omega) (by omega)) ?_
      refine bcase_dec (fun h2 => ?_) fun h2 => ?_
      · rw [if_pos (by omega)] at hy
        refine bindI_of (((y : Nat) : Int)) (by exact (or8 _ 128 (by omega) (by decide)).trans (by rw [hy, Nat.eq_of_beq_eq_true (List.all_eq_true.1 or128 (n / 128 ^ i % 128) (List.mem_range.2 (Nat.mod_lt _ (by decide))))])) ?_
        exact ⟨rfl, rfl⟩
      · rw [if_neg (by omega)] at hy
        have : i = k - 1 := by omega
        rw [this] at hy ⊢
        rw [Nat.mod_eq_of_lt hlast, ← hy]
        exact ⟨rfl, rfl⟩
    rintro h2 u xa ⟨hxx, rfl⟩
    injection hxx with hx1 hxx
    injection hx1 with _ hx1
    subst xa
    refine ptr_of (a := ⟨w, 0, none⟩) (ptr_of (a := ⟨w, 0, none⟩) ?_)
    refine ldS_of (hpA H 0 rfl rfl) (ldI_of (hpA H 0 rfl rfl) ?_)
    have H1 : Hp h0 F h2 ([wrE w q c (bs ++ (grp n).take i)] ++ (D ++ [])) := H.as (by simp)
    refine lay8_ok hs H1 hy256 (by omega) fun D' q' c' h hs' H => ?_
    have hnx : bs ++ (grp n).take i ++ [y] = bs ++ (grp n).take (i + 1) := by rw [List.append_assoc, ← take_snocG hgy]
    rw [hnx] at hs' ⊢
    have hln : (bs ++ (grp n).take (i + 1)).length = (bs ++ (grp n).take i).length + 1 := by rw [← hnx, List.length_append]; rfl
    refine ⟨_, _, _, rfl, ?_⟩
    refine ptr_of (a := ⟨w, 0, none⟩) ?_
    refine stA H 0 rfl rfl rfl fun h H => ?_
    refine ptr_of (a := ⟨w, 0, none⟩) ?_
    refine ldI_of (hpA H 0 rfl rfl) ?_
    refine bindI_of (((8 * (bs ++ (grp n).take (i + 1)).length : Nat) : Int)) (by exact i64_at _ _ (by rw [hln] <;> omega) (by omega) (by rw [hln] <;> omega)) ?_
    refine ptr_of (a := ⟨w, 0, none⟩) ?_
    refine stA H 0 rfl rfl rfl fun h H => ?_
    have H : Hp h0 F h (wrE w q' c' (bs ++ (grp n).take (i + 1)) :: (D' ++ [])) := H
    rw [List.append_nil] at H
    refine bindI_of (((i + 1 : Nat) : Int)) (by exact i64_at _ _ (by omega) (by omega) (by omega)) ?_
    exact ⟨m - 1, by omega, i + 1, _, by omega, rfl, ⟨q', c', D', hs', rfl⟩, H⟩
  · rw [List.take_of_length_le (by omega)] at hs H
    exact hk _ h ⟨q, c, D, hs, rfl⟩ H
theorem bytes_ok (H : Hp h0 F h L) (hw : WrL w bs L) (hl : bs.length ≤ 100000000) (hk : ∀ D qo co h', Slot T_uint8 1 D qo bs.length co (u8s bs) → Hp h0 F h' (L ++ D) → K (.slice qo bs.length co) h') :
    CP F_bits_Writer_Bytes #[.pointer (some ⟨w, 0, none⟩)] h K Kp := by
  obtain ⟨q, c, D, hs, rfl⟩ := hw
  refine call_bits_Writer_Bytes ?_
  unfold bits_Writer_Bytes
  refine ptr_of (a := ⟨w, 0, none⟩) ?_
  refine ldS_of (hpA H 0 rfl rfl) ?_
  have hr : rdO h q (bs.length * 1) (u8s bs) := Slot.rdO' hs H fun e he => List.mem_cons_of_mem _ he
  rcases Nat.eq_zero_or_pos bs.length with h1 | h1
  · have hb0 : bs = [] := List.length_eq_zero_iff.1 h1
    subst hb0
    refine ⟨u8s [], hr, ?_⟩
    rw [if_pos (by simp)]
    exact hk [] none 0 h (Slot.nil _ _) (by rw [List.append_nil]; exact H)
  · refine Slot.app (A := wrE w q c bs :: D) (B := []) (D := []) (n := 0) (m := bs.length) (new := u8s bs) (Slot.nil T_uint8 1) (by simpa using H) rfl hr (by rw [u8s_length, Nat.mul_one]) (u8s_cells bs) h1 (by omega) fun D' q' c' h' hs' H' => ?_
    rw [Nat.zero_add] at hs' ⊢
    exact hk D' q' c' h' (by simpa using hs') (by simpa using H')
end
end Go.Bm

/- RnD: a deferred function that does not recover. No program in sight. -/
set_option linter.unusedVariables false
set_option linter.unusedSimpArgs false
namespace Go.Den
section
variable {P : Program}
theorem dcalls_of_plain {f : FuncId} {fn : Func} {args : List Value} {u : FrameMode} {h : Heap} {Kd : FrameMode → Heap → Prop} {Kdp : FrameMode → List PanicEntry → Heap → Prop} (Hn : Hints) (hm : P.follows .mixedOrders = true)
    (hf : P.funcs[f]? = some fn) (hn : (fn.name == "runtime.NumGoroutine") = false) (H : fnD P (CallsHP P) Hn fn args h (fun _ h' => Kd u h') fun c h' => Kdp u c h') : DCalls P f args.toArray u h Kd Kdp := by
  unfold fnD at H
  split at H
  · rename_i c hb
    refine ⟨⟨fn, hf, hn, by rw [hb]; rfl⟩, fun w hw => ?_⟩
    subst hw
    have hact : (⟨args.toArray ++ Array.replicate (fn.ntmps - args.toArray.size) undef, []⟩ : Act) = ⟨(args ++ List.replicate (fn.ntmps - args.length) undef).toArray, []⟩ := by
      congr 1
      apply Array.toList_inj.1
      simp
    refine (callsD_of_wp (R := fun e w' => keeps w w' ∧ match e with
      | .returned _ => Kd u w'.heap
      | .panicked c => Kdp u c w'.heap
      | .outgrown => False) hf hb ?_).mono fun e u' w' he => ?_
    · rw [hact]
      refine wp_mono (den_sound (callsHP_ok P) hm w c _ _ w (keeps.refl w) (fnQ_panic _ _ _ _) H) fun e a w' he => ?_
      cases e with
      | normal =>
        obtain ⟨h1, _, h3⟩ := he
        simp only [fnQ] at h3
        split at h3
        · rename_i hd
          obtain ⟨v, hr, hk⟩ := results_run (K := fun _ h' => Kd u h') h3
          exact ⟨hd, v, hr, h1, hk⟩
        · exact h3.elim
      | ret =>
        obtain ⟨h1, _, h3⟩ := he
        simp only [fnQ] at h3
        split at h3
        · rename_i hd
          obtain ⟨v, hr, hk⟩ := results_run (K := fun _ h' => Kd u h') h3
          exact ⟨hd, v, hr, h1, hk⟩
        · exact h3.elim
      | panic c =>
        obtain ⟨h1, h3⟩ := he
        simp only [fnQ] at h3
        split at h3
        · rename_i hd
          exact ⟨hd, h1, h3⟩
        · exact h3.elim
      | outgrown => exact he.elim
      | exit id => exact he.2.2.elim
      | goto l => exact he.2.2.elim
    · obtain ⟨rfl, h1, h2⟩ := he
      refine ⟨h1, ?_⟩
      cases e with
      | returned v => exact h2
      | panicked c => exact h2
      | outgrown => exact h2
  · exact H.elim
end
end Go.Den

/- RfB: the contexts of refinement: what the program's closures tell of a pixel's neighbours; the rows of a callee that stand last. -/
set_option linter.unusedVariables false
set_option linter.unusedSimpArgs false
namespace Go.Den
open Go

section
variable {h0 h h' : Heap} {F : List Nat} {A S S' : List Ent}
/-- The last rows are handed to a callee. -/
theorem Hp.giveS (H : Hp h0 F h (A ++ S)) : Hp h (S.map Ent.b) h S :=
  Hp.mk' (Fr.refl _ _) (fun e he => H.mem e (List.mem_append_right _ he)) (fun e he _ => .inl (List.mem_map.2 ⟨e, he, rfl⟩)) H.suf.pw
/-- They come back. -/
theorem Hp.putS (H : Hp h0 F h (A ++ S)) (hw : S.all Ent.w = true) (H' : Hp h (S.map Ent.b) h' S') (hw' : S'.all Ent.w = true) : Hp h0 F h' (A ++ S') := by
  have hSw : ∀ e ∈ S, e.w = true := List.all_eq_true.1 hw
  have hSw' : ∀ e ∈ S', e.w = true := List.all_eq_true.1 hw'
  have hown : ∀ b ∈ S.map Ent.b, b ∈ F ∨ h0.size ≤ b := fun b hb => by
    obtain ⟨e, he, rfl⟩ := List.mem_map.1 hb
    exact H.memw e (List.mem_append_right _ he) (hSw e he)
  have hap : ∀ e ∈ A, e.b ∉ S.map Ent.b := fun e he hb => by
    obtain ⟨e', he', hbb⟩ := List.mem_map.1 hb
    exact (List.pairwise_append.1 H.pw).2.2 e he e' he' hbb.symm
  have hlt : ∀ e ∈ A, e.b < h.size := fun e he => (H.mem e (List.mem_append_left _ he)).lt
  refine Hp.mk' ⟨Nat.le_trans H.fr.1 H'.fr.1, fun b hb hF => ?_⟩ (fun e he => ?_) (fun e he hwt => ?_) ?_
  · rw [H'.fr.2 b (Nat.lt_of_lt_of_le hb H.fr.1) (fun hm => by
      rcases hown b hm with h1 | h1
      · exact hF h1
      · omega)]
    exact H.fr.2 b hb hF
  · rcases List.mem_append.1 he with he | he
    · have h1 := H.mem e (List.mem_append_left _ he)
      unfold Blk at h1 ⊢
      rw [H'.fr.2 e.b (hlt e he) (hap e he)]
      exact h1
    · exact H'.mem e he
  · rcases List.mem_append.1 he with he | he
    · exact H.memw e (List.mem_append_left _ he) hwt
    · rcases H'.memw e he hwt with h1 | h1
      · exact hown _ h1
      · exact .inr (Nat.le_trans H.fr.1 h1)
  · refine List.pairwise_append.2 ⟨H.pre.pw, H'.pw, fun e he e' he' hb => ?_⟩
    rcases H'.memw e' he' (hSw' e' he') with h1 | h1
    · exact hap e he (hb ▸ h1)
    · have := hlt e he
      omega
end
end Go.Den

namespace Go.Bm
open Go Go.Den Go.Den.YtfaclehehhgpcaaGreat

/-- Bits, the first one the highest. -/
def bitsN : Nat → List Bool → Nat
  | n, [] => n
  | n, b :: l => bitsN (2 * n + b.toNat) l
def ownB (B : Int → Int → Bool) (x y : Int) : List Bool := [B (x - 1) (y + -1), B x (y + -1), B (x + 1) (y + -1), B (x - 1) (y + 0)]
def rowB3 (R : Int → Int → Bool) (dx x y : Int) : List Bool := [R (x - 1 - dx) y, R (x - dx) y, R (x + 1 - dx) y]
def rowsN (R : Int → Int → Bool) (dx dy x y : Int) : Nat → List Bool
  | 0 => []
  | d + 1 => rowsN R dx dy x y d ++ rowB3 R dx x (y + ((d : Int) - 1) - dy)
/-- The context of a pixel. -/
def ctxN (B R : Int → Int → Bool) (dx dy x y : Int) : Nat := bitsN 0 (ownB B x y ++ rowsN R dx dy x y 3)
theorem toNat_le (b : Bool) : b.toNat ≤ 1 := by cases b <;> decide
theorem bitsN_lt : ∀ (l : List Bool) (n m : Nat), n < 2 ^ m → bitsN n l < 2 ^ (m + l.length)
  | [], n, m, h => h
  | b :: l, n, m, h => by
    have := bitsN_lt l (2 * n + b.toNat) (m + 1) (by rw [Nat.pow_succ]; have := toNat_le b; omega)
    rw [show m + (b :: l).length = m + 1 + l.length by simp; omega]
    exact this
theorem bitsN_app : ∀ (l l' : List Bool) (n : Nat), bitsN n (l ++ l') = bitsN (bitsN n l) l'
  | [], _, _ => rfl
  | b :: l, l', n => bitsN_app l l' _

theorem orI (a b : Nat) (ha : a < 9223372036854775808) (hb : b < 9223372036854775808) : bitI .or .i64 a b = ((a ||| b : Nat) : Int) := (bits_nat .i64 63 (by decide) wr63 a b ha hb).2
theorem or_add {i a b : Nat} (hb : b < 2 ^ i) : (a * 2 ^ i) ||| b = a * 2 ^ i + b := by
  rw [Nat.mul_comm]
  exact (Nat.two_pow_add_eq_or_of_lt hb a).symm
theorem shlI_of {a i : Nat} (hi : i ≤ 64) (ha : a * 2 ^ i < 9223372036854775808) : shlI .i64 (a : Int) (i : Int) = ((a * 2 ^ i : Nat) : Int) := shl_of hi (i64_in _ (by omega) (by omega))
theorem orA {i A B : Nat} (hi : i ≤ 62) (hA : A % 2 ^ i = 0) (hB : B < 2 ^ i) (hA2 : A < 9223372036854775808) : bitI .or .i64 (A : Int) (B : Int) = ((A + B : Nat) : Int) := by
  have : 2 ^ i ≤ 2 ^ 62 := Nat.pow_le_pow_right (by decide) hi
  rw [orI _ _ hA2 (by omega)]
  have e : A = A / 2 ^ i * 2 ^ i := by have := Nat.div_add_mod A (2 ^ i); rw [hA, Nat.add_zero, Nat.mul_comm] at this; exact this.symm
  rw [e, or_add hB]
theorem shl1 {a : Nat} (h : a < 100000000000) : shlI .i64 (a : Int) 1 = ((a * 2 : Nat) : Int) := shlI_of (i := 1) (by decide) (by omega)

section
variable {h0 h : Heap} {FF : List Nat} {L : List Ent} {p q c W X r1 ry : Nat} {w : Bool} {t1 t2 : TypeId} {ws : List Nat} {rest : List Value} {K : Value → Heap → Prop} {Kp : List PanicEntry → Heap → Prop}

end

/-! ### the deferred closure of 'run' -/
end Go.Bm

/- PbF: the reader of bits, where whole bytes are read. -/
set_option linter.unusedVariables false
set_option linter.unusedSimpArgs false
namespace Go.Bm
open Go Go.Den Go.Den.YtfaclehehhgpcaaGreat
open Go.Ar (u8s)

/-! ### numbers in groups, read -/
/-- The error, the number, the place behind it. -/
def varF (b : List Nat) (i : Nat) : Nat → Nat → Nat → Int × Nat × Nat
  | 0, _, _ => (16, 0, i)
  | f + 1, j, n => match b[i + j]? with
    | none => (14, 0, i)
    | some c => if j = 9 ∧ 1 < c ∨ 0 < j ∧ c = 0 then (16, 0, i) else if c < 128 then (0, n + c % 128 * 128 ^ j, i + j + 1) else varF b i f (j + 1) (n + c % 128 * 128 ^ j)
def varP (b : List Nat) (i : Nat) : Int × Nat × Nat := varF b i 10 0 0
theorem varF_le {b : List Nat} {i : Nat} (hi : i ≤ b.length) : ∀ (f j n : Nat), (varF b i f j n).2.2 ≤ b.length ∧ i ≤ (varF b i f j n).2.2
  | 0, j, n => ⟨hi, Nat.le_refl _⟩
  | f + 1, j, n => by
    unfold varF
    cases hc : b[i + j]? with
    | none => exact ⟨hi, Nat.le_refl _⟩
    | some c =>
      have hl := (List.getElem?_eq_some_iff.1 hc).1
      dsimp only
      split
      · exact ⟨hi, Nat.le_refl _⟩
      · split
        · exact ⟨hl, by show i ≤ i + j + 1; omega⟩
        · exact varF_le hi f _ _
theorem varF_lt {b : List Nat} {i : Nat} : ∀ (f j n : Nat), f + j = 10 → n < 128 ^ j → (varF b i f j n).2.1 < 18446744073709551616
  | 0, j, n, _, _ => by show 0 < _; decide
  | f + 1, j, n, hfj, hn => by
    unfold varF
    cases hc : b[i + j]? with
    | none => show 0 < _; decide
    | some c =>
      dsimp only
      split
      · show 0 < _; decide
      · rename_i h1
        have hm : c % 128 * 128 ^ j ≤ 127 * 128 ^ j := Nat.mul_le_mul_right _ (by omega)
        have hp : 128 ^ (j + 1) = 128 * 128 ^ j := by rw [Nat.pow_succ, Nat.mul_comm]
        have key : n + c % 128 * 128 ^ j < 128 ^ (j + 1) := by omega
        split
        · show n + c % 128 * 128 ^ j < _
          by_cases hj : j = 9
          · have hc1 : c ≤ 1 := by omega
            have : c % 128 ≤ 1 := by omega
            have h2 : c % 128 * 128 ^ j ≤ 1 * 128 ^ j := Nat.mul_le_mul_right _ this
            rw [hj] at hn h2 ⊢
            have e9 : (128 : Nat) ^ 9 = 9223372036854775808 := by decide
            omega
          · have : 128 ^ (j + 1) ≤ 128 ^ 9 := Nat.pow_le_pow_right (by decide) (by omega)
            have e9 : (128 : Nat) ^ 9 = 9223372036854775808 := by decide
            omega
        · exact varF_lt f (j + 1) _ (by omega) key
theorem varP_lt (b : List Nat) (i : Nat) : (varP b i).2.1 < 18446744073709551616 := varF_lt 10 0 0 rfl (by decide)
theorem varP_le {b : List Nat} {i : Nat} (hi : i ≤ b.length) : (varP b i).2.2 ≤ b.length := (varF_le hi 10 0 0).1

/-! ### a byte, bit by bit -/
def dnOk : Bool := (List.range 256).all fun x => (List.range 8).all fun j => Nat.beq (x / 2 ^ (8 - j) * 2 ||| x / 2 ^ (7 - j) % 2) (x / 2 ^ (8 - (j + 1))) && Nat.beq (x / 2 ^ (8 - j) * 2 + x / 2 ^ (7 - j) % 2) (x / 2 ^ (8 - (j + 1)))
set_option maxRecDepth 100000 in
theorem dnOk_t : dnOk = true := by kernel_rfl
theorem dn_step {x j : Nat} (hx : x < 256) (hj : j < 8) : (x / 2 ^ (8 - j) * 2 ||| x / 2 ^ (7 - j) % 2) = x / 2 ^ (8 - (j + 1)) ∧ x / 2 ^ (8 - j) * 2 + x / 2 ^ (7 - j) % 2 = x / 2 ^ (8 - (j + 1)) ∧ x / 2 ^ (8 - j) * 2 < 256 := by
  have h := List.all_eq_true.1 (List.all_eq_true.1 dnOk_t x (List.mem_range.2 hx)) j (List.mem_range.2 hj)
  simp only [Bool.and_eq_true] at h
  have e := Nat.eq_of_beq_eq_true h.2
  have h3 : x / 2 ^ (8 - (j + 1)) < 256 := Nat.lt_of_le_of_lt (Nat.div_le_self _ _) hx
  exact ⟨Nat.eq_of_beq_eq_true h.1, e, by omega⟩
section
variable {h0 h : Heap} {F : List Nat} {K : Value → Heap → Prop} {Kp : List PanicEntry → Heap → Prop} {q : Option Addr} {c i x : Nat} {b : List Nat}
set_option maxRecDepth 100000 in
theorem told8_ok (hr : rdO h q (b.length * 1) (u8s b)) (hb : b[i]? = some x) (hx : x < 256) (hl : b.length ≤ 100000000000000) (hk : K (.int .u8 (x : Nat)) h) :
    CP F_bits_told_uint8 #[.slice q b.length c, .int .i64 ((8 * i : Nat) : Int), .int .i64 8] h K Kp := by
  refine call_bits_told_uint8 ?_
  unfold bits_told_uint8
  have hil := (List.getElem?_eq_some_iff.1 hb).1
  obtain ⟨a, rfl, hc⟩ := rdO_cell hr (i := i) (v := .int .u8 (x : Nat)) (by unfold u8s; rw [List.getElem?_map, hb]; rfl)
  refine ⟨fun f vs h' => ∃ j : Nat, j + f = 8 ∧ vs = [.int .u8 ((x / 2 ^ (8 - j) : Nat) : Int), .int .i64 (j : Nat)] ∧ h' = h, ⟨8, 0, rfl, by rw [Nat.sub_zero, Nat.div_eq_of_lt (show x < 2 ^ 8 by omega)]; rfl, rfl⟩, ?_⟩
  rintro f h' u xa xb ⟨j, hjf, hxx, rfl⟩
  injection hxx with hx1 hxx
  injection hxx with hx2 hxx
  injection hx1 with _ hx1
  injection hx2 with _ hx2
  subst xa xb
  refine bcase_dec (fun h1 => ?_) fun h1 => ?_
  · have hj : j < 8 := by omega
    obtain ⟨d1, d2, d3⟩ := dn_step hx hj
    have hb2 : x / 2 ^ (7 - j) % 2 < 256 := by omega
    have hxd : x / 2 ^ (7 - j) < 256 := Nat.lt_of_le_of_lt (Nat.div_le_self _ _) hx
    refine bindI_of (((x / 2 ^ (8 - j) * 2 : Nat) : Int)) (by exact shl_of (i := 1) (by decide) (by rw [Nat.pow_one]; exact wr8 _ (by omega) (by omega))) ?_
    refine bindI_of (((8 * i + j : Nat) : Int)) (by exact i64_at _ _ (by omega) (by omega) (by omega)) ?_
    refine bindI_of (((i : Nat) : Int)) (by exact i64_at _ _ (by rw [show ((8 * i + j : Nat) : Int).tdiv 8 = (((8 * i + j) / 8 : Nat) : Int) from rfl]; omega) (by omega) (by omega)) ?_
    refine needs_of (by omega) (ptr_of (a := a) ?_)
    rw [Int.toNat_natCast, Nat.mul_one]
    refine ldI_of hc ?_
    refine bindI_of (((8 * i + j : Nat) : Int)) (by exact i64_at _ _ (by omega) (by omega) (by omega)) ?_
    refine bindI_of (((j : Nat) : Int)) (by exact (tmod_nat (8 * i + j) 8).trans (by omega)) ?_
    refine bindI_of (((7 - j : Nat) : Int)) (by exact i64_at _ _ (by omega) (by omega) (by omega)) ?_
    refine needs_of (by omega) ?_
    refine bindI_of (((x / 2 ^ (7 - j) : Nat) : Int)) (by exact shr_of (by show 7 - j ≤ 8; omega)) ?_
    refine bindI_of (((x / 2 ^ (7 - j) % 2 : Nat) : Int)) (by exact (and8 _ 1 hxd (by decide)).trans (by rw [Nat.and_one_is_mod])) ?_
    refine bindI_of (((x / 2 ^ (8 - (j + 1)) : Nat) : Int)) (by exact (or8 _ _ d3 hb2).trans (by rw [d1])) ?_
    refine bindI_of (((j + 1 : Nat) : Int)) (by exact i64_at _ _ (by omega) (by omega) (by omega)) ?_
    exact ⟨f - 1, by omega, j + 1, by omega, rfl, rfl⟩
  · have hj : j = 8 := by omega
    subst hj
    rw [Nat.sub_self, Nat.pow_zero, Nat.div_one]
    exact hk
set_option maxRecDepth 100000 in
theorem told64_ok (hr : rdO h q (b.length * 1) (u8s b)) (hb : b[i]? = some x) (hx : x < 256) (hl : b.length ≤ 100000000000000) (hk : K (.int .u64 (x : Nat)) h) :
    CP F_bits_told_uint64 #[.slice q b.length c, .int .i64 ((8 * i : Nat) : Int), .int .i64 8] h K Kp := by
  refine call_bits_told_uint64 ?_
  unfold bits_told_uint64
  have hil := (List.getElem?_eq_some_iff.1 hb).1
  obtain ⟨a, rfl, hc⟩ := rdO_cell hr (i := i) (v := .int .u8 (x : Nat)) (by unfold u8s; rw [List.getElem?_map, hb]; rfl)
  refine ⟨fun f vs h' => ∃ j : Nat, j + f = 8 ∧ vs = [.int .u64 ((x / 2 ^ (8 - j) : Nat) : Int), .int .i64 (j : Nat)] ∧ h' = h, ⟨8, 0, rfl, by rw [Nat.sub_zero, Nat.div_eq_of_lt (show x < 2 ^ 8 by omega)]; rfl, rfl⟩, ?_⟩
  rintro f h' u xa xb ⟨j, hjf, hxx, rfl⟩
  injection hxx with hx1 hxx
  injection hxx with hx2 hxx
  injection hx1 with _ hx1
  injection hx2 with _ hx2
  subst xa xb
  refine bcase_dec (fun h1 => ?_) fun h1 => ?_
  · have hj : j < 8 := by omega
    obtain ⟨d1, d2, d3⟩ := dn_step hx hj
    have hb2 : x / 2 ^ (7 - j) % 2 < 256 := by omega
    have hxd : x / 2 ^ (7 - j) < 256 := Nat.lt_of_le_of_lt (Nat.div_le_self _ _) hx
    refine bindI_of (((x / 2 ^ (8 - j) * 2 : Nat) : Int)) (by exact shl_of (i := 1) (by decide) (by rw [Nat.pow_one]; exact u64_in _ (by omega) (by omega))) ?_
    refine bindI_of (((8 * i + j : Nat) : Int)) (by exact i64_at _ _ (by omega) (by omega) (by omega)) ?_
    refine bindI_of (((i : Nat) : Int)) (by exact i64_at _ _ (by rw [show ((8 * i + j : Nat) : Int).tdiv 8 = (((8 * i + j) / 8 : Nat) : Int) from rfl]; omega) (by omega) (by omega)) ?_
    refine needs_of (by omega) (ptr_of (a := a) ?_)
    rw [Int.toNat_natCast, Nat.mul_one]
    refine ldI_of hc ?_
    refine bindI_of (((8 * i + j : Nat) : Int)) (by exact i64_at _ _ (by omega) (by omega) (by omega)) ?_
    refine bindI_of (((j : Nat) : Int)) (by exact (tmod_nat (8 * i + j) 8).trans (by omega)) ?_
    refine bindI_of (((7 - j : Nat) : Int)) (by exact i64_at _ _ (by omega) (by omega) (by omega)) ?_
    refine needs_of (by omega) ?_
    refine bindI_of (((x / 2 ^ (7 - j) : Nat) : Int)) (by exact shr_of (by show 7 - j ≤ 8; omega)) ?_
    refine bindI_of (((x / 2 ^ (7 - j) % 2 : Nat) : Int)) (by exact (and8 _ 1 hxd (by decide)).trans (by rw [Nat.and_one_is_mod])) ?_
    refine bindI_of (((x / 2 ^ (7 - j) % 2 : Nat) : Int)) (by exact u64_in _ (by omega) (by omega)) ?_
    refine bindI_of (((x / 2 ^ (8 - (j + 1)) : Nat) : Int)) (by exact (or64 _ _ (by omega) (by omega)).trans (by rw [d1])) ?_
    refine bindI_of (((j + 1 : Nat) : Int)) (by exact i64_at _ _ (by omega) (by omega) (by omega)) ?_
    exact ⟨f - 1, by omega, j + 1, by omega, rfl, rfl⟩
  · have hj : j = 8 := by omega
    subst hj
    rw [Nat.sub_self, Nat.pow_zero, Nat.div_one]
    exact hk

/-- A reader's rows. -/
def rdE (r : Nat) (q : Option Addr) (n c i : Nat) : Ent := ⟨r, true, T_bits_Reader, [.slice q n c, .int .i64 ((8 * i : Nat) : Int)]⟩
structure RdB (b : List Nat) : Prop where
  b8 : ∀ x ∈ b, x < 256
  bl : b.length ≤ 100000000000000
variable {r : Nat} {D L : List Ent}
theorem rleft_ok (H : Hp h0 F h (rdE r q b.length c i :: D)) (hb : RdB b) (hi : i ≤ b.length) (hk : K (.int .i64 ((8 * (b.length - i) : Nat) : Int)) h) : CP F_bits_Reader_Left #[.pointer (some ⟨r, 0, none⟩)] h K Kp := by
  refine call_bits_Reader_Left ?_
  unfold bits_Reader_Left
  have hbl := hb.bl
  refine ptr_of (a := ⟨r, 0, none⟩) (ptr_of (a := ⟨r, 0, none⟩) ?_)
  refine ldS_of (hpA H 0 rfl rfl) ?_
  refine bindI_of (((8 * b.length : Nat) : Int)) (by exact i64_at _ _ (by omega) (by omega) (by omega)) ?_
  refine ldI_of (hpA H 0 rfl rfl) ?_
  refine bindI_of (((8 * (b.length - i) : Nat) : Int)) (by exact i64_at _ _ (by omega) (by omega) (by omega)) ?_
  exact hk
theorem rtake8_ok (H : Hp h0 F h (rdE r q b.length c i :: D)) (hs : Slot T_uint8 1 D q b.length c (u8s b)) (hb : RdB b) (hi : i ≤ b.length)
    (hk0 : b[i]? = none → K (.tuple #[.int .u64 0, .int .i64 14]) h) (hk1 : ∀ x h', b[i]? = some x → Hp h0 F h' (rdE r q b.length c (i + 1) :: D) → K (.tuple #[.int .u64 (x : Nat), .int .i64 0]) h') :
    CP F_bits_Reader_Take #[.pointer (some ⟨r, 0, none⟩), .int .i64 8] h K Kp := by
  refine call_bits_Reader_Take ?_
  unfold bits_Reader_Take
  have hbl := hb.bl
  refine bcase_dec (fun h1 => absurd h1 (by decide)) fun _ => ?_
  refine bcase_dec (fun h1 => absurd h1 (by decide)) fun _ => ?_
  refine rleft_ok H hb hi ?_
  refine ⟨_, rfl, ?_⟩
  refine bcase_dec (fun h1 => hk0 (List.getElem?_eq_none (by omega))) fun h1 => ?_
  obtain ⟨x, hx⟩ : ∃ x, b[i]? = some x := ⟨_, List.getElem?_eq_getElem (by omega)⟩
  refine ptr_of (a := ⟨r, 0, none⟩) ?_
  refine ldI_of (hpA H 0 rfl rfl) ?_
  refine bindI_of (((8 * (i + 1) : Nat) : Int)) (by exact i64_at _ _ (by omega) (by omega) (by omega)) ?_
  refine ptr_of (a := ⟨r, 0, none⟩) ?_
  refine stA H 0 rfl rfl rfl fun h H => ?_
  have H : Hp h0 F h (rdE r q b.length c (i + 1) :: D) := H
  refine ptr_of (a := ⟨r, 0, none⟩) (ptr_of (a := ⟨r, 0, none⟩) ?_)
  refine ldS_of (hpA H 0 rfl rfl) (ldI_of (hpA H 0 rfl rfl) ?_)
  refine bindI_of (((8 * i : Nat) : Int)) (by exact i64_at _ _ (by omega) (by omega) (by omega)) ?_
  refine told64_ok (Slot.rdO' hs H fun e he => List.mem_cons_of_mem _ he) hx (hb.b8 x (List.mem_of_getElem? hx)) hb.bl ?_
  refine ⟨_, rfl, ?_⟩
  exact hk1 x h hx H
theorem rgroup_ok (H : Hp h0 F h (rdE r q b.length c i :: D)) (hs : Slot T_uint8 1 D q b.length c (u8s b)) (hb : RdB b) (hi : i ≤ b.length)
    (hk0 : b[i]? = none → K (.tuple #[.int .u8 0, .bool false]) h) (hk1 : ∀ x h', b[i]? = some x → Hp h0 F h' (rdE r q b.length c (i + 1) :: D) → K (.tuple #[.int .u8 (x : Nat), .bool true]) h') :
    CP F_bits_Reader_group #[.pointer (some ⟨r, 0, none⟩)] h K Kp := by
  refine call_bits_Reader_group ?_
  unfold bits_Reader_group
  have hbl := hb.bl
  refine rleft_ok H hb hi ?_
  refine ⟨_, rfl, ?_⟩
  refine bcase_dec (fun h1 => hk0 (List.getElem?_eq_none (by omega))) fun h1 => ?_
  obtain ⟨x, hx⟩ : ∃ x, b[i]? = some x := ⟨_, List.getElem?_eq_getElem (by omega)⟩
  refine ptr_of (a := ⟨r, 0, none⟩) ?_
  refine ldI_of (hpA H 0 rfl rfl) ?_
  refine bindI_of (((8 * (i + 1) : Nat) : Int)) (by exact i64_at _ _ (by omega) (by omega) (by omega)) ?_
  refine ptr_of (a := ⟨r, 0, none⟩) ?_
  refine stA H 0 rfl rfl rfl fun h H => ?_
  have H : Hp h0 F h (rdE r q b.length c (i + 1) :: D) := H
  refine ptr_of (a := ⟨r, 0, none⟩) (ptr_of (a := ⟨r, 0, none⟩) ?_)
  refine ldS_of (hpA H 0 rfl rfl) (ldI_of (hpA H 0 rfl rfl) ?_)
  refine bindI_of (((8 * i : Nat) : Int)) (by exact i64_at _ _ (by omega) (by omega) (by omega)) ?_
  refine told8_ok (Slot.rdO' hs H fun e he => List.mem_cons_of_mem _ he) hx (hb.b8 x (List.mem_of_getElem? hx)) hb.bl ?_
  refine ⟨_, rfl, ?_⟩
  exact hk1 x h hx H
end
/-! ### Var -/
theorem deferVar {cap0 cap1 cap2 cap3 : Addr} {u : FrameMode} {h : Heap} {Kd : FrameMode → Heap → Prop} {Kdp : FrameMode → List PanicEntry → Heap → Prop} (H : bits_Reader_Var_c1 (CallsHP Go.Proofs.Tryz.prog) cap0 cap1 cap2 cap3 h (fun _ h' => Kd u h') fun c h' => Kdp u c h') :
    DCalls Go.Proofs.Tryz.prog F_bits_Reader_Var_c1 #[.pointer (some cap0), .pointer (some cap1), .pointer (some cap2), .pointer (some cap3)] u h Kd Kdp :=
  dcalls_of_plain hints_bits_Reader_Var_c1 (by kernel_rfl) Go.Proofs.Tryz.func160 (by kernel_rfl) (by rw [eq_bits_Reader_Var_c1]; exact H)
section
variable {h0 h : Heap} {F : List Nat} {K : Value → Heap → Prop} {Kp : List PanicEntry → Heap → Prop} {q : Option Addr} {c i x : Nat} {b : List Nat} {r : Nat} {D : List Ent}
set_option maxRecDepth 100000 in
set_option maxHeartbeats 4000000 in
theorem rvar_ok (H : Hp h0 F h (rdE r q b.length c i :: D)) (hs : Slot T_uint8 1 D q b.length c (u8s b)) (hb : RdB b) (hi : i ≤ b.length)
    (hk : ∀ h', Hp h0 F h' (rdE r q b.length c (varP b i).2.2 :: D) → K (.tuple #[.int .u64 ((varP b i).2.1 : Nat), .int .i64 (varP b i).1]) h') :
    CP F_bits_Reader_Var #[.pointer (some ⟨r, 0, none⟩)] h K Kp := by
  refine call_bits_Reader_Var ?_
  unfold bits_Reader_Var
  have hbl := hb.bl
  refine newC_hp H fun r1 h H => ?_
  refine newC_hp H fun r3 h H => ?_
  refine newC_hp H fun r5 h H => ?_
  have H : Hp h0 F h ((rdE r q b.length c i :: D) ++ [⟨r1, true, T_p_bits_Reader, [.pointer (some ⟨r, 0, none⟩)]⟩, ⟨r3, true, T_uint64, [.int .u64 0]⟩, ⟨r5, true, T_api_Errno, [.int .i64 0]⟩]) := H.as (by simp only [List.append_assoc, List.cons_append, List.nil_append])
  have H := H.rot
  refine ldP_of (H.cell 0 rfl rfl) (ptr_of (a := ⟨r, 0, none⟩) ?_)
  refine ldI_of (hpA H 3 rfl rfl) ?_
  refine newC_hp H fun r10 h H => ?_
  have H := H.rot
  refine st0 H 0 rfl rfl rfl fun h H => ?_
  have H : Hp h0 F h ([⟨r10, true, T_int, [.int .i64 ((8 * i : Nat) : Int)]⟩, ⟨r1, true, T_p_bits_Reader, [.pointer (some ⟨r, 0, none⟩)]⟩, ⟨r3, true, T_uint64, [.int .u64 ((0 : Nat) : Int)]⟩, ⟨r5, true, T_api_Errno, [.int .i64 0]⟩] ++ (rdE r q b.length c (i + 0) :: D)) := H
  have done : ∀ {e : Int} {n p : Nat} {h : Heap}, (e = 0 ∨ e ≠ 0 ∧ n = 0 ∧ p = i) → ∀ {p' n' : Nat}, (e = 0 → p' = p ∧ n' = n) → (∀ h', Hp h0 F h' (rdE r q b.length c p :: D) → K (.tuple #[.int .u64 (n : Nat), .int .i64 e]) h') →
      Hp h0 F h ([⟨r10, true, T_int, [.int .i64 ((8 * i : Nat) : Int)]⟩, ⟨r1, true, T_p_bits_Reader, [.pointer (some ⟨r, 0, none⟩)]⟩, ⟨r3, true, T_uint64, [.int .u64 (n' : Nat)]⟩, ⟨r5, true, T_api_Errno, [.int .i64 e]⟩] ++ (rdE r q b.length c p' :: D)) →
      leaveD (DCalls Go.Proofs.Tryz.prog) (fun h_29 => ldI h_29 (⟨r3, 0, none⟩ : Addr) .u64 fun r_30 => ldI h_29 (⟨r5, 0, none⟩ : Addr) .i64 fun r_31 => K (.tuple #[.int .u64 r_30, .int .i64 r_31]) h_29) Kp [{ target := .fn (.func F_bits_Reader_Var_c1) #[.pointer (some ⟨r5, 0, none⟩), .pointer (some ⟨r10, 0, none⟩), .pointer (some ⟨r3, 0, none⟩), .pointer (some ⟨r1, 0, none⟩)], args := #[] }] .returning h := by
    intro e n p h he p' n' hp hk H
    show DCalls Go.Proofs.Tryz.prog F_bits_Reader_Var_c1 #[.pointer (some ⟨r5, 0, none⟩), .pointer (some ⟨r10, 0, none⟩), .pointer (some ⟨r3, 0, none⟩), .pointer (some ⟨r1, 0, none⟩)] .returning h _ _
    refine deferVar ?_
    unfold bits_Reader_Var_c1
    refine ldI_of (H.cell 3 rfl rfl) ?_
    rcases he with he | ⟨he, hn, hpi⟩
    · refine bcase_ne (fun h1 => absurd he h1) fun _ => ?_
      obtain ⟨rfl, rfl⟩ := hp he
      show ldI h ⟨r3, 0, none⟩ .u64 _
      refine ldI_of (H.cell 2 rfl rfl) (ldI_of (H.cell 3 rfl rfl) ?_)
      exact hk h (Hp.suf H)
    · refine bcase_ne (fun _ => ?_) fun h1 => absurd h1 he
      refine ldP_of (H.cell 1 rfl rfl) (ldI_of (H.cell 0 rfl rfl) ?_)
      refine st0 H 2 rfl rfl rfl fun h H => ?_
      refine ptr_of (a := ⟨r, 0, none⟩) ?_
      refine stA H 4 rfl rfl rfl fun h H => ?_
      have H : Hp h0 F h ([⟨r10, true, T_int, [.int .i64 ((8 * i : Nat) : Int)]⟩, ⟨r1, true, T_p_bits_Reader, [.pointer (some ⟨r, 0, none⟩)]⟩, ⟨r3, true, T_uint64, [.int .u64 0]⟩, ⟨r5, true, T_api_Errno, [.int .i64 e]⟩] ++ (rdE r q b.length c i :: D)) := H
      show ldI h ⟨r3, 0, none⟩ .u64 _
      refine ldI_of (H.cell 2 rfl rfl) (ldI_of (H.cell 3 rfl rfl) ?_)
      rw [hn, hpi] at hk
      exact hk h (Hp.suf H)
  refine ⟨fun f vs h' => ∃ (j n : Nat), 1 ≤ f ∧ j + f = 10 ∧ n < 128 ^ j ∧ varF b i f j n = varP b i ∧ i + j ≤ b.length ∧ vs = [.int .i64 ((7 * j : Nat) : Int)] ∧
    Hp h0 F h' ([⟨r10, true, T_int, [.int .i64 ((8 * i : Nat) : Int)]⟩, ⟨r1, true, T_p_bits_Reader, [.pointer (some ⟨r, 0, none⟩)]⟩, ⟨r3, true, T_uint64, [.int .u64 (n : Nat)]⟩, ⟨r5, true, T_api_Errno, [.int .i64 0]⟩] ++ (rdE r q b.length c (i + j) :: D)), ⟨10, 0, 0, by omega, rfl, by decide, rfl, hi, rfl, H⟩, ?_⟩
  clear H
  rintro f h u xa ⟨j, n, hf1, hjf, hn, hv, hij, hxx, H⟩
  obtain ⟨f, rfl⟩ : ∃ g, f = g + 1 := ⟨f - 1, by omega⟩
  injection hxx with hx1 hxx
  injection hx1 with _ hx1
  subst xa
  refine ldP_of (H.cell 1 rfl rfl) ?_
  have hsw : ∀ p, (rdE r q b.length c p :: D).all Ent.w = true := fun p => by rw [List.all_cons, hs.w]; rfl
  refine rgroup_ok (Hp.giveS H) hs hb hij (fun hnone => ?_) fun y h hy H' => ?_
  · refine ⟨_, _, rfl, ?_⟩
    refine ⟨fun _ _ => False, ?_, fun _ _ hh => hh.elim⟩
    refine bcase_true (by rfl) ?_
    refine st0 H 2 rfl rfl rfl fun h H => ?_
    refine st0 H 3 rfl rfl rfl fun h H => ?_
    have hvp : varP b i = (14, 0, i) := by
      rw [← hv]
      unfold varF
      rw [hnone]
    rw [hvp] at hk
    exact done (e := 14) (n := 0) (p := i) (n' := 0) (p' := i + j) (.inr ⟨by decide, rfl, rfl⟩) (fun hh => absurd hh (by decide)) hk H
  · have H := Hp.putS H (hsw _) H' (hsw _)
    clear H'
    have hy8 := hb.b8 y (List.mem_of_getElem? hy)
    have hyl := (List.getElem?_eq_some_iff.1 hy).1
    refine ⟨_, _, rfl, ?_⟩
    have err : (j = 9 ∧ 1 < y ∨ 0 < j ∧ y = 0) → stV h (⟨r3, 0, none⟩ : Addr) (.int .u64 0) fun h_32 => stV h_32 (⟨r5, 0, none⟩ : Addr) (.int .i64 16) fun h_33 =>
        leaveD (DCalls Go.Proofs.Tryz.prog) (fun h_29 => ldI h_29 (⟨r3, 0, none⟩ : Addr) .u64 fun r_30 => ldI h_29 (⟨r5, 0, none⟩ : Addr) .i64 fun r_31 => K (.tuple #[.int .u64 r_30, .int .i64 r_31]) h_29) Kp [{ target := .fn (.func F_bits_Reader_Var_c1) #[.pointer (some ⟨r5, 0, none⟩), .pointer (some ⟨r10, 0, none⟩), .pointer (some ⟨r3, 0, none⟩), .pointer (some ⟨r1, 0, none⟩)], args := #[] }] .returning h_33 := fun hc => by
      refine st0 H 2 rfl rfl rfl fun h H => ?_
      refine st0 H 3 rfl rfl rfl fun h H => ?_
      have hvp : varP b i = (16, 0, i) := by
        rw [← hv]
        unfold varF
        rw [hy]
        dsimp only
        rw [if_pos hc]
      rw [hvp] at hk
      exact done (e := 16) (n := 0) (p := i) (n' := 0) (p' := i + j + 1) (.inr ⟨by decide, rfl, rfl⟩) (fun hh => absurd hh (by decide)) hk H
    refine ⟨fun _ h' => h' = h ∧ ¬ (j = 9 ∧ 1 < y ∨ 0 < j ∧ y = 0), ?_, ?_⟩
    · refine bcase_false (by rfl) ?_
      refine bcase_eq (fun h9 => ?_) fun h9 => ?_
      · refine bcase_dec (fun h10 => ?_) fun h10 => ?_
        · refine bcase_dec (fun _ => err (.inl ⟨by omega, by omega⟩)) fun h11 => absurd h10 h11
        · refine bcase_dec (fun h11 => ?_) fun h11 => ⟨rfl, by omega⟩
          refine bcase_eq (fun h12 => err (.inr ⟨by omega, by omega⟩)) fun h12 => ⟨rfl, by omega⟩
      · refine bcase_dec (fun h11 => ?_) fun h11 => ⟨rfl, by omega⟩
        refine bcase_eq (fun h12 => err (.inr ⟨by omega, by omega⟩)) fun h12 => ⟨rfl, by omega⟩
    rintro h' u ⟨rfl, hnc⟩
    have hz : y % 128 * 128 ^ j < 18446744073709551616 := by
      by_cases hj : j = 9
      · have h1 : y % 128 ≤ 1 := by omega
        have h2 : y % 128 * 128 ^ j ≤ 1 * 128 ^ j := Nat.mul_le_mul_right _ h1
        rw [hj] at h2 ⊢
        have e9 : (128 : Nat) ^ 9 = 9223372036854775808 := by decide
        omega
      · have h1 : y % 128 * 128 ^ j ≤ 127 * 128 ^ j := Nat.mul_le_mul_right _ (by omega)
        have h2 : 128 ^ j ≤ 128 ^ 8 := Nat.pow_le_pow_right (by decide) (by omega)
        have e8 : (128 : Nat) ^ 8 = 72057594037927936 := by decide
        omega
    have hm127 : y % 128 * 128 ^ j ≤ 127 * 128 ^ j := Nat.mul_le_mul_right _ (by omega)
    have hp1 : 128 ^ (j + 1) = 128 * 128 ^ j := by rw [Nat.pow_succ, Nat.mul_comm]
    refine bindI_of (((y % 128 : Nat) : Int)) (by exact (and8 _ 127 hy8 (by decide)).trans (by have := Nat.and_two_pow_sub_one_eq_mod y 7; rw [show (127 : Nat) = 2 ^ 7 - 1 from rfl, this])) ?_
    refine bindI_of (((y % 128 : Nat) : Int)) (by exact u64_in _ (by omega) (by omega)) ?_
    refine needs_of (by omega) ?_
    refine bindI_of (((y % 128 * 128 ^ j : Nat) : Int)) (by exact shl_of (by show 7 * j ≤ 64; omega) (by rw [pow7]; exact u64_in _ (by omega) (by omega))) ?_
    refine ldI_of (H.cell 2 rfl rfl) ?_
    have hn64 : n < 18446744073709551616 := by
      have h2 : 128 ^ j ≤ 128 ^ 9 := Nat.pow_le_pow_right (by decide) (by omega)
      have e9 : (128 : Nat) ^ 9 = 9223372036854775808 := by decide
      omega
    have hor : n ||| y % 128 * 128 ^ j = n + y % 128 * 128 ^ j := by
      have := Nat.shiftLeft_add_eq_or_of_lt (b := n) (i := 7 * j) (by rw [pow7]; exact hn) (y % 128)
      rw [Nat.shiftLeft_eq, pow7] at this
      rw [Nat.or_comm, ← this, Nat.add_comm]
    refine bindI_of (((n + y % 128 * 128 ^ j : Nat) : Int)) (by exact (or64 _ _ hn64 hz).trans (by rw [hor])) ?_
    refine st0 H 2 rfl rfl rfl fun h H => ?_
    refine bcase_dec (fun h13 => ?_) fun h13 => ?_
    · refine ldI_of (H.cell 2 rfl rfl) ?_
      refine st0 H 2 rfl rfl rfl fun h H => ?_
      refine st0 H 3 rfl rfl rfl fun h H => ?_
      have hvp : varP b i = (0, n + y % 128 * 128 ^ j, i + j + 1) := by
        rw [← hv]
        unfold varF
        rw [hy]
        dsimp only
        rw [if_neg hnc, if_pos (by omega)]
      rw [hvp] at hk
      exact done (e := 0) (n := n + y % 128 * 128 ^ j) (p := i + j + 1) (n' := n + y % 128 * 128 ^ j) (p' := i + j + 1) (.inl rfl) (fun _ => ⟨rfl, rfl⟩) hk H
    · refine bindI_of (((7 * (j + 1) : Nat) : Int)) (by exact i64_at _ _ (by omega) (by omega) (by omega)) ?_
      refine ⟨f, by omega, j + 1, n + y % 128 * 128 ^ j, by omega, by omega, by omega, ?_, by omega, rfl, H⟩
      rw [← hv]
      conv => rhs; unfold varF
      rw [hy]
      dsimp only
      rw [if_neg hnc, if_neg (by omega)]
end
end Go.Bm

/- RfC: the program's walk over the pixels of a bitmap, whatever decides. -/
set_option linter.unusedVariables false
set_option linter.unusedSimpArgs false
namespace Go.Bm
open Go Go.Den Go.Den.YtfaclehehhgpcaaGreat

def upd (G : Int → Int → Bool) (a b : Int) (bit : Bool) : Int → Int → Bool := fun x y => if x = a ∧ y = b then bit else G x y
section
variable {σ : Type}
/-- The walk: so many pixels, each told by its neighbours. -/
def runN (W : Nat) (R : Int → Int → Bool) (dx dy : Int) (step : σ → Nat → Bool → (Bool × σ) ⊕ (Int × σ)) : Nat → (Int → Int → Bool) × σ → ((Int → Int → Bool) × σ) ⊕ (Int × σ)
  | 0, g => .inl g
  | k + 1, g => match runN W R dx dy step k g with
    | .inr e => .inr e
    | .inl (G, s) => match step s (ctxN G R dx dy ((k % W : Nat) : Int) ((k / W : Nat) : Int)) (G ((k % W : Nat) : Int) ((k / W : Nat) : Int)) with
      | .inl (bit, s') => .inl (upd G ((k % W : Nat) : Int) ((k / W : Nat) : Int) bit, s')
      | .inr e => .inr e
theorem recD_iface {t : TypeId} {x : Value} {older : List PanicEntry} {KN : FrameMode → Prop} {KI : TypeId → Value → FrameMode → Prop} (h : KI t x (.panicking ({ v := .iface t x, recovered := true } :: older))) : recD (.panicking ({ v := .iface t x, recovered := false } :: older)) KN KI := h
end
end Go.Bm

/- PbG: page's reader: numbers, bytes, sizes; what gives up is caught. -/
set_option linter.unusedVariables false
set_option linter.unusedSimpArgs false
namespace Go.Bm
open Go Go.Den Go.Den.YtfaclehehhgpcaaGreat
open Go.Ar (u8s u8s_length)

def numP (b : List Nat) (i : Nat) : Except Int (Nat × Nat) := if (varP b i).1 = 0 then .ok ((varP b i).2.1, (varP b i).2.2) else .error 150
def placeP (b : List Nat) (i : Nat) : Except Int (Nat × Nat) := match numP b i with
  | .error e => .error e
  | .ok (n, j) => if 1048576 < n then .error 150 else .ok (n, j)
def byteP (b : List Nat) (i : Nat) : Except Int (Nat × Nat) := match b[i]? with
  | none => .error 150
  | some x => .ok (x, i + 1)
def sizeP (b : List Nat) (i : Nat) : Except Int ((Nat × Nat) × Nat) := match numP b i with
  | .error e => .error e
  | .ok (w, i1) => if w = 0 then .error 150 else match numP b i1 with
    | .error e => .error e
    | .ok (h, i2) => if h = 0 then .error 150 else if 1048576 < w ∨ 1048576 < h ∨ 1048576 < w * h then .error 120 else .ok ((w, h), i2)
def sheetPR (b : List Nat) : Except Int (Nat × Nat × Nat × Nat) := match sizeP b 0 with
  | .error e => .error e
  | .ok ((w, h), i1) => match byteP b i1 with
    | .error e => .error e
    | .ok (d, i2) => if 1 < d then .error 150 else match placeP b i2 with
      | .error e => .error e
      | .ok (s, i3) => if i3 < b.length then .error 150 else .ok (w, h, d, s)
/-- What it gives up with. -/
def flt (e : Int) : List PanicEntry := [{ v := .iface T_page_fault (.agg #[.int .i64 e]), recovered := false }]
section
variable {h0 h : Heap} {F : List Nat} {K : Value → Heap → Prop} {Kp : List PanicEntry → Heap → Prop} {q : Option Addr} {c i r : Nat} {b : List Nat} {D : List Ent}
theorem wrong_ok {bad : Bool} (hk : bad = false → K (.tuple #[]) h) (hp : bad = true → Kp (flt 150) h) : CP F_page_wrong #[.bool bad] h K Kp := by
  refine call_page_wrong ?_
  unfold page_wrong
  exact bcase_of (fun h1 => hp h1) fun h1 => hk h1
theorem rdw (hs : Slot T_uint8 1 D q b.length c (u8s b)) (p : Nat) : (rdE r q b.length c p :: D).all Ent.w = true := by rw [List.all_cons, hs.w]; rfl
theorem number_ok (H : Hp h0 F h (rdE r q b.length c i :: D)) (hs : Slot T_uint8 1 D q b.length c (u8s b)) (hb : RdB b) (hi : i ≤ b.length)
    (hk : ∀ n i' h', numP b i = .ok (n, i') → i' ≤ b.length → n < 18446744073709551616 → Hp h0 F h' (rdE r q b.length c i' :: D) → K (.int .u64 (n : Nat)) h')
    (hp : ∀ i' h', numP b i = .error 150 → i' ≤ b.length → Hp h0 F h' (rdE r q b.length c i' :: D) → Kp (flt 150) h') :
    CP F_page_reader_number #[.agg #[.pointer (some ⟨r, 0, none⟩)]] h K Kp := by
  refine call_page_reader_number ?_
  unfold page_reader_number
  refine newC_hp H fun r2 h H => ?_
  have H := H.rot
  refine ldP_of (hpA H 0 rfl rfl) ?_
  have hle := varP_le hi
  have hlt := varP_lt b i
  refine rvar_ok (Hp.giveS H) hs hb hi fun h H' => ?_
  have H := Hp.suf (Hp.putS H (rdw hs _) H' (rdw hs _))
  clear H'
  refine ⟨_, _, rfl, ?_⟩
  refine wrong_ok (fun h1 => ?_) fun h1 => ?_
  · have h1 : (varP b i).1 = 0 := by simpa using h1
    exact hk _ _ h (by unfold numP; rw [if_pos h1]) hle hlt H
  · have h1 : (varP b i).1 ≠ 0 := by simpa using h1
    exact hp _ h (by unfold numP; rw [if_neg h1]) hle H
theorem place_ok (H : Hp h0 F h (rdE r q b.length c i :: D)) (hs : Slot T_uint8 1 D q b.length c (u8s b)) (hb : RdB b) (hi : i ≤ b.length)
    (hk : ∀ n i' h', placeP b i = .ok (n, i') → i' ≤ b.length → n ≤ 1048576 → Hp h0 F h' (rdE r q b.length c i' :: D) → K (.int .i64 (n : Nat)) h')
    (hp : ∀ i' h', placeP b i = .error 150 → i' ≤ b.length → Hp h0 F h' (rdE r q b.length c i' :: D) → Kp (flt 150) h') :
    CP F_page_reader_place #[.agg #[.pointer (some ⟨r, 0, none⟩)]] h K Kp := by
  refine call_page_reader_place ?_
  unfold page_reader_place
  refine newC_hp H fun r2 h H => ?_
  have H := H.rot
  refine ldP_of (hpA H 0 rfl rfl) ?_
  refine number_ok (Hp.giveS H) hs hb hi (fun n i' h hn hi' hlt H' => ?_) fun i' h hn hi' H' => ?_
  · have H := Hp.suf (Hp.putS H (rdw hs _) H' (rdw hs _))
    refine ⟨_, rfl, ?_⟩
    refine wrong_ok (fun h1 => ?_) fun h1 => ?_
    · have h1 : ¬ ((n : Nat) : Int) > 1048576 := of_decide_eq_false h1
      refine bindI_of (((n : Nat) : Int)) (by exact i64_in _ (by omega) (by omega)) ?_
      exact hk n i' h (by unfold placeP; rw [hn]; dsimp only; rw [if_neg (by omega)]) hi' (by omega) H
    · have h1 : ((n : Nat) : Int) > 1048576 := of_decide_eq_true h1
      exact hp i' h (by unfold placeP; rw [hn]; dsimp only; rw [if_pos (by omega)]) hi' H
  · have H := Hp.suf (Hp.putS H (rdw hs _) H' (rdw hs _))
    exact hp i' h (by unfold placeP; rw [hn]) hi' H
theorem pbyte_ok (H : Hp h0 F h (rdE r q b.length c i :: D)) (hs : Slot T_uint8 1 D q b.length c (u8s b)) (hb : RdB b) (hi : i ≤ b.length)
    (hk : ∀ n i' h', byteP b i = .ok (n, i') → i' ≤ b.length → n < 256 → Hp h0 F h' (rdE r q b.length c i' :: D) → K (.int .i64 (n : Nat)) h')
    (hp : ∀ i' h', byteP b i = .error 150 → i' ≤ b.length → Hp h0 F h' (rdE r q b.length c i' :: D) → Kp (flt 150) h') :
    CP F_page_reader_byte #[.agg #[.pointer (some ⟨r, 0, none⟩)]] h K Kp := by
  refine call_page_reader_byte ?_
  unfold page_reader_byte
  refine newC_hp H fun r2 h H => ?_
  have H := H.rot
  refine ldP_of (hpA H 0 rfl rfl) ?_
  refine rtake8_ok (Hp.giveS H) hs hb hi (fun hn => ?_) fun x h hx H' => ?_
  · refine ⟨_, _, rfl, ?_⟩
    refine wrong_ok (fun h1 => by cases h1) fun h1 => ?_
    exact hp i _ (by unfold byteP; rw [hn]) hi (Hp.suf H)
  · have H := Hp.suf (Hp.putS H (rdw hs _) H' (rdw hs _))
    have hx8 := hb.b8 x (List.mem_of_getElem? hx)
    refine ⟨_, _, rfl, ?_⟩
    refine wrong_ok (fun h1 => ?_) fun h1 => by cases h1
    refine bindI_of (((x : Nat) : Int)) (by exact i64_in _ (by omega) (by omega)) ?_
    exact hk x (i + 1) h (by unfold byteP; rw [hx]) (List.getElem?_eq_some_iff.1 hx).1 hx8 H
set_option maxHeartbeats 1000000 in
theorem size_ok (H : Hp h0 F h (rdE r q b.length c i :: D)) (hs : Slot T_uint8 1 D q b.length c (u8s b)) (hb : RdB b) (hi : i ≤ b.length)
    (hk : ∀ w g i' h', sizeP b i = .ok ((w, g), i') → i' ≤ b.length → SizeP (w : Int) (g : Int) → Hp h0 F h' (rdE r q b.length c i' :: D) → K (.tuple #[.int .i64 (w : Nat), .int .i64 (g : Nat)]) h')
    (hp : ∀ e i' h', sizeP b i = .error e → e ≠ 0 → i' ≤ b.length → Hp h0 F h' (rdE r q b.length c i' :: D) → Kp (flt e) h') :
    CP F_page_reader_size #[.agg #[.pointer (some ⟨r, 0, none⟩)]] h K Kp := by
  refine call_page_reader_size ?_
  unfold page_reader_size
  refine newC_hp H fun r2 h H => ?_
  have H := H.rot
  refine ldP_of (hpA H 0 rfl rfl) ?_
  refine number_ok (Hp.giveS H) hs hb hi (fun w i1 h hw hi1 hwlt H' => ?_) fun i' h hn hi' H' => ?_
  rotate_left
  · have H := Hp.suf (Hp.putS H (rdw hs _) H' (rdw hs _))
    exact hp 150 i' h (by unfold sizeP; rw [hn]) (by decide) hi' H
  have H := Hp.putS H (rdw hs _) H' (rdw hs _)
  clear H'
  refine ⟨_, rfl, ?_⟩
  refine wrong_ok (fun h1 => ?_) fun h1 => ?_
  rotate_left
  · have h1 : ((w : Nat) : Int) = 0 := by simpa using h1
    exact hp 150 i1 h (by unfold sizeP; rw [hw]; dsimp only; rw [if_pos (by omega)]) (by decide) hi1 (Hp.suf H)
  have hw0 : w ≠ 0 := by
    have h1 : ¬ ((w : Nat) : Int) = 0 := by simpa using h1
    omega
  clear h1
  refine ldP_of (hpA H 0 rfl rfl) ?_
  refine number_ok (Hp.giveS H) hs hb hi1 (fun g i2 h hg hi2 hglt H' => ?_) fun i' h hn hi' H' => ?_
  rotate_left
  · have H := Hp.suf (Hp.putS H (rdw hs _) H' (rdw hs _))
    exact hp 150 i' h (by unfold sizeP; rw [hw]; dsimp only; rw [if_neg hw0, hn]) (by decide) hi' H
  have H := Hp.suf (Hp.putS H (rdw hs _) H' (rdw hs _))
  clear H'
  refine ⟨_, rfl, ?_⟩
  refine wrong_ok (fun h1 => ?_) fun h1 => ?_
  rotate_left
  · have h1 : ((g : Nat) : Int) = 0 := by simpa using h1
    exact hp 150 i2 h (by unfold sizeP; rw [hw]; dsimp only; rw [if_neg hw0, hg]; dsimp only; rw [if_pos (by omega)]) (by decide) hi2 H
  have hg0 : g ≠ 0 := by
    have h1 : ¬ ((g : Nat) : Int) = 0 := by simpa using h1
    omega
  clear h1
  have big : (1048576 < w ∨ 1048576 < g ∨ 1048576 < w * g) → Kp (flt 120) h := fun hh => hp 120 i2 h (by unfold sizeP; rw [hw]; dsimp only; rw [if_neg hw0, hg]; dsimp only; rw [if_neg hg0, if_pos hh]) (by decide) hi2 H
  refine bcase_dec (fun h1 => big (.inl (by omega))) fun h1 => ?_
  refine bcase_dec (fun h2 => big (.inr (.inl (by omega)))) fun h2 => ?_
  have hwg : w * g ≤ 1048576 * 1048576 := Nat.mul_le_mul (by omega) (by omega)
  refine bindI_of (((w * g : Nat) : Int)) (by exact u64_at _ _ (by simp) (by omega) (by omega)) ?_
  refine bcase_dec (fun h3 => big (.inr (.inr (by omega)))) fun h3 => ?_
  refine bindI_of (((w : Nat) : Int)) (by exact i64_in _ (by omega) (by omega)) ?_
  refine bindI_of (((g : Nat) : Int)) (by exact i64_in _ (by omega) (by omega)) ?_
  refine hk w g i2 h (by unfold sizeP; rw [hw]; dsimp only; rw [if_neg hw0, hg]; dsimp only; rw [if_neg hg0, if_neg (by omega)]) hi2 ?_ H
  unfold SizeP
  have : (w : Int) * (g : Int) = ((w * g : Nat) : Int) := by simp
  rw [this]
  omega
theorem newReader_ok (hr : rdO h q (b.length * 1) (u8s b)) (hb : RdB b) (hk : ∀ r q' c' D h', Slot T_uint8 1 D q' b.length c' (u8s b) → Hp h [] h' (rdE r q' b.length c' 0 :: D) → K (.pointer (some ⟨r, 0, none⟩)) h') : CP F_bits_NewReader #[.slice q b.length c] h K Kp := by
  refine call_bits_NewReader ?_
  unfold bits_NewReader
  have hbl := hb.bl
  have fin : ∀ D q' c' h', Slot T_uint8 1 D q' b.length c' (u8s b) → Hp h [] h' D → newC h' [.slice q' b.length c', .int .i64 0] T_bits_Reader fun r_3 h_4 => K (.pointer (some ⟨r_3, 0, none⟩)) h_4 := fun D q' c' h' hs H => by
    refine newC_hp H fun r h2 H => ?_
    have H := H.rot
    exact hk r q' c' D h2 hs H
  rcases Nat.eq_zero_or_pos b.length with h1 | h1
  · have hb0 : b = [] := List.length_eq_zero_iff.1 h1
    subst hb0
    refine ⟨u8s [], hr, ?_⟩
    rw [if_pos (by simp)]
    exact fin [] none 0 h (Slot.nil _ _) (Hp.nil h [])
  · have H := Hp.nil h []
    refine appC_new H hr (u8s_length b) h1 (by omega) fun o rest h' he H' => ?_
    exact fin _ _ _ h' (Slot.one (by rw [u8s_length, Nat.mul_one]) (by rw [List.length_append, u8s_length, Nat.mul_one])) H'

/-! ### read -/
theorem pcatch_idle {r : Nat} {Kd : FrameMode → Heap → Prop} {Kdp : FrameMode → List PanicEntry → Heap → Prop} (hk : Kd .returning h) : DCalls Go.Proofs.Tryz.prog F_page_read_c1 #[.pointer (some ⟨r, 0, none⟩)] .returning h Kd Kdp :=
  dcall_page_read_c1 (cap0 := ⟨r, 0, none⟩) (by unfold page_read_c1 recD; exact hk)
theorem pcatch {L : List Ent} {r : Nat} {e x : Int} (H : Hp h0 F h ([⟨r, true, T_api_Errno, [.int .i64 x]⟩] ++ L)) (hk : ∀ h', Hp h0 F h' L → K (.int .i64 e) h') :
    leaveD (DCalls Go.Proofs.Tryz.prog) (fun h => ldI h ⟨r, 0, none⟩ .i64 fun v => K (.int .i64 v) h) Kp [{ target := .fn (.func F_page_read_c1) #[.pointer (some ⟨r, 0, none⟩)], args := #[] }] (.panicking (flt e)) h := by
  show DCalls Go.Proofs.Tryz.prog F_page_read_c1 #[.pointer (some ⟨r, 0, none⟩)] _ h _ _
  refine dcall_page_read_c1 (cap0 := ⟨r, 0, none⟩) ?_
  unfold page_read_c1
  refine recD_iface ?_
  refine bcase_true (by decide) ?_
  refine ⟨e, rfl, ?_⟩
  refine newC_hp H fun r6 h H => ?_
  have H := H.rot
  refine stA H 0 rfl rfl rfl fun h H => ?_
  refine ldI_of (hpA H 0 rfl rfl) ?_
  refine st0 H 1 rfl rfl rfl fun h H => ?_
  show ldI h ⟨r, 0, none⟩ .i64 _
  refine ldI_of (H.cell 1 rfl rfl) ?_
  have H : Hp h0 F h ([⟨r6, true, T_page_fault, [.int .i64 e]⟩, ⟨r, true, T_api_Errno, [.int .i64 e]⟩] ++ L) := H
  exact hk h (Hp.suf H)
theorem pread_ok {L : List Ent} {run : Value} {qf : Option Addr} {cf : Nat} (Post : List Ent → Prop) (PostB : Int → List Ent → Prop) (hb : RdB b) (hr : rdO h0 qf (b.length * 1) (u8s b)) (H : Hp h0 [] h L)
    (hrun : ∀ {r rr q' c' D h1} {K1 : Value → Heap → Prop} {Kp1 : List PanicEntry → Heap → Prop}, Slot T_uint8 1 D q' b.length c' (u8s b) → Hp h0 [] h1 (([⟨r, true, T_api_Errno, [.int .i64 0]⟩] ++ L) ++ (rdE rr q' b.length c' 0 :: D)) →
      (∀ h2 L2 i', Post L2 → Hp h0 [] h2 (([⟨r, true, T_api_Errno, [.int .i64 0]⟩] ++ L2) ++ (rdE rr q' b.length c' i' :: D)) → K1 (.tuple #[]) h2) →
      (∀ e h2 L2 i', PostB e L2 → Hp h0 [] h2 (([⟨r, true, T_api_Errno, [.int .i64 0]⟩] ++ L2) ++ (rdE rr q' b.length c' i' :: D)) → Kp1 (flt e) h2) → callD (CallsHP Go.Proofs.Tryz.prog) Kp1 run [.agg #[.pointer (some ⟨rr, 0, none⟩)]] h1 K1)
    (hk0 : ∀ h' L', Post L' → Hp h0 [] h' L' → K (.int .i64 0) h') (hke : ∀ e h' L', PostB e L' → Hp h0 [] h' L' → K (.int .i64 e) h') : CP F_page_read #[.slice qf b.length cf, run] h K Kp := by
  refine call_page_read ?_
  unfold page_read
  refine newC_hp H fun r1 h H => ?_
  have H := H.rot
  refine newReader_ok (H.rdO hr) hb fun rr q' c' D h1 hs H' => ?_
  replace H := H.join H' (rdw hs _)
  clear H'
  refine ⟨_, rfl, ?_⟩
  refine hrun hs H (fun h2 L2 i' hp H => ?_) fun e h2 L2 i' hp H => ?_
  · have H := Hp.pre H
    refine st0 H 0 rfl rfl rfl fun h H => ?_
    show DCalls Go.Proofs.Tryz.prog F_page_read_c1 #[.pointer (some ⟨r1, 0, none⟩)] .returning h _ _
    refine pcatch_idle ?_
    show ldI h ⟨r1, 0, none⟩ .i64 _
    refine ldI_of (H.cell 0 rfl rfl) ?_
    have H : Hp h0 [] h ([⟨r1, true, T_api_Errno, [.int .i64 0]⟩] ++ L2) := H
    exact hk0 h L2 hp (Hp.suf H)
  · exact pcatch (Hp.pre H) fun h' H => hke e h' L2 hp H
end

/-! ### DecodeSheet -/
def shRes (b : List Nat) : Int × Nat × Nat × Nat × Nat := match sheetPR b with
  | .error e => (e, 0, 0, 0, 0)
  | .ok (w, h, d, s) => (0, w, h, d, s)
def shV (x : Int × Nat × Nat × Nat × Nat) : Value := .tuple #[.agg #[.int .i64 (x.2.1 : Nat), .int .i64 (x.2.2.1 : Nat), .int .i64 (x.2.2.2.1 : Nat), .int .i64 (x.2.2.2.2 : Nat)], .int .i64 x.1]
section
variable {hB : Heap} {K : Value → Heap → Prop} {Kp : List PanicEntry → Heap → Prop} {q : Option Addr} {c : Nat} {b : List Nat}
set_option maxRecDepth 100000 in
set_option maxHeartbeats 4000000 in
theorem decSheet_ok (hb : RdB b) (hr : rdO hB q (b.length * 1) (u8s b)) (hk : ∀ h', hext hB h' → K (shV (shRes b)) h') :
    CP F_page_DecodeSheet #[.slice q b.length c] hB K Kp := by
  refine call_page_DecodeSheet ?_
  unfold page_DecodeSheet
  have H := Hp.nil hB []
  refine newC_hp H fun r1 h H => ?_
  refine newC_hp H fun r3 h H => ?_
  have H : Hp hB [] h [⟨r1, true, T_api_Sheet, [.int .i64 0, .int .i64 0, .int .i64 0, .int .i64 0]⟩, ⟨r3, true, T_api_Sheet, [.int .i64 0, .int .i64 0, .int .i64 0, .int .i64 0]⟩] := H
  refine pread_ok (fun L2 => ∃ w g d s, sheetPR b = .ok (w, g, d, s) ∧ L2 = [⟨r1, true, T_api_Sheet, [.int .i64 0, .int .i64 0, .int .i64 0, .int .i64 0]⟩, ⟨r3, true, T_api_Sheet, [.int .i64 (w : Nat), .int .i64 (g : Nat), .int .i64 (d : Nat), .int .i64 (s : Nat)]⟩])
    (fun e L2 => sheetPR b = .error e ∧ e ≠ 0 ∧ ∃ cs, L2 = [⟨r1, true, T_api_Sheet, [.int .i64 0, .int .i64 0, .int .i64 0, .int .i64 0]⟩, ⟨r3, true, T_api_Sheet, cs⟩]) hb hr H (fun {r rr q' c' D h1 K1 Kp1} hs H hK hKp => ?_) (fun h' L' hp H => ?_) fun e h' L' hp H => ?_
  · show CP F_page_DecodeSheet_c1 #[.agg #[.pointer (some ⟨rr, 0, none⟩)], .pointer (some ⟨r3, 0, none⟩)] h1 K1 Kp1
    refine call_page_DecodeSheet_c1 (cap0 := ⟨r3, 0, none⟩) ?_
    unfold page_DecodeSheet_c1
    refine newC_hp H fun r2 h H => ?_
    have H := H.rot
    have bad : ∀ {e : Int} {i' : Nat} {h : Heap} {cs : List Value}, sheetPR b = .error e → e ≠ 0 → Hp hB [] h (([⟨r2, true, T_page_reader, [.pointer (some ⟨rr, 0, none⟩)]⟩] ++ [⟨r, true, T_api_Errno, [.int .i64 0]⟩, ⟨r1, true, T_api_Sheet, [.int .i64 0, .int .i64 0, .int .i64 0, .int .i64 0]⟩, ⟨r3, true, T_api_Sheet, cs⟩]) ++ (rdE rr q' b.length c' i' :: D)) → Kp1 (flt e) h := fun {e i' h cs} he he0 H => by
      refine hKp e h _ i' ⟨he, he0, cs, rfl⟩ ?_
      rw [List.append_assoc] at H
      exact Hp.suf H
    have H : Hp hB [] h (([⟨r2, true, T_page_reader, [.pointer (some ⟨rr, 0, none⟩)]⟩] ++ [⟨r, true, T_api_Errno, [.int .i64 0]⟩, ⟨r1, true, T_api_Sheet, [.int .i64 0, .int .i64 0, .int .i64 0, .int .i64 0]⟩, ⟨r3, true, T_api_Sheet, [.int .i64 0, .int .i64 0, .int .i64 0, .int .i64 0]⟩]) ++ (rdE rr q' b.length c' 0 :: D)) := H
    refine ldP_of (hpA H 0 rfl rfl) ?_
    refine size_ok (Hp.giveS H) hs hb (Nat.zero_le _) (fun w g i1 h hsz hi1 hP H' => ?_) fun e i' h hsz he hi' H' => ?_
    rotate_left
    · have H := Hp.putS H (rdw hs _) H' (rdw hs _)
      exact bad (by unfold sheetPR; rw [hsz]) he H
    have H := Hp.putS H (rdw hs _) H' (rdw hs _)
    clear H'
    refine ⟨_, _, rfl, ?_⟩
    refine stA H 3 rfl rfl rfl fun h H => ?_
    refine stA H 3 rfl rfl rfl fun h H => ?_
    have H : Hp hB [] h (([⟨r2, true, T_page_reader, [.pointer (some ⟨rr, 0, none⟩)]⟩] ++ [⟨r, true, T_api_Errno, [.int .i64 0]⟩, ⟨r1, true, T_api_Sheet, [.int .i64 0, .int .i64 0, .int .i64 0, .int .i64 0]⟩, ⟨r3, true, T_api_Sheet, [.int .i64 (w : Nat), .int .i64 (g : Nat), .int .i64 0, .int .i64 0]⟩]) ++ (rdE rr q' b.length c' i1 :: D)) := H
    refine ldP_of (hpA H 0 rfl rfl) ?_
    refine pbyte_ok (Hp.giveS H) hs hb hi1 (fun d i2 h hd hi2 hd8 H' => ?_) fun i' h hd hi' H' => ?_
    rotate_left
    · have H := Hp.putS H (rdw hs _) H' (rdw hs _)
      exact bad (e := 150) (by unfold sheetPR; rw [hsz]; dsimp only; rw [hd]) (by decide) H
    have H := Hp.putS H (rdw hs _) H' (rdw hs _)
    clear H'
    refine ⟨_, rfl, ?_⟩
    refine stA H 3 rfl rfl rfl fun h H => ?_
    have H : Hp hB [] h (([⟨r2, true, T_page_reader, [.pointer (some ⟨rr, 0, none⟩)]⟩] ++ [⟨r, true, T_api_Errno, [.int .i64 0]⟩, ⟨r1, true, T_api_Sheet, [.int .i64 0, .int .i64 0, .int .i64 0, .int .i64 0]⟩, ⟨r3, true, T_api_Sheet, [.int .i64 (w : Nat), .int .i64 (g : Nat), .int .i64 (d : Nat), .int .i64 0]⟩]) ++ (rdE rr q' b.length c' i2 :: D)) := H
    refine ldI_of (hpA H 3 rfl rfl) ?_
    refine wrong_ok (fun h1 => ?_) fun h1 => ?_
    rotate_left
    · have h1 : ((d : Nat) : Int) > 1 := of_decide_eq_true h1
      exact bad (e := 150) (by unfold sheetPR; rw [hsz]; dsimp only; rw [hd]; dsimp only; rw [if_pos (by omega)]) (by decide) H
    have h1 : ¬ ((d : Nat) : Int) > 1 := of_decide_eq_false h1
    refine ldP_of (hpA H 0 rfl rfl) ?_
    refine place_ok (Hp.giveS H) hs hb hi2 (fun s i3 h hsp hi3 hsM H' => ?_) fun i' h hd2 hi' H' => ?_
    rotate_left
    · have H := Hp.putS H (rdw hs _) H' (rdw hs _)
      exact bad (e := 150) (by unfold sheetPR; rw [hsz]; dsimp only; rw [hd]; dsimp only; rw [if_neg (by omega), hd2]) (by decide) H
    have H := Hp.putS H (rdw hs _) H' (rdw hs _)
    clear H'
    refine ⟨_, rfl, ?_⟩
    refine stA H 3 rfl rfl rfl fun h H => ?_
    have H : Hp hB [] h (([⟨r2, true, T_page_reader, [.pointer (some ⟨rr, 0, none⟩)]⟩] ++ [⟨r, true, T_api_Errno, [.int .i64 0]⟩, ⟨r1, true, T_api_Sheet, [.int .i64 0, .int .i64 0, .int .i64 0, .int .i64 0]⟩, ⟨r3, true, T_api_Sheet, [.int .i64 (w : Nat), .int .i64 (g : Nat), .int .i64 (d : Nat), .int .i64 (s : Nat)]⟩]) ++ (rdE rr q' b.length c' i3 :: D)) := H
    refine ldP_of (hpA H 0 rfl rfl) ?_
    refine rleft_ok (Hp.suf H) hb hi3 ?_
    refine ⟨_, rfl, ?_⟩
    refine wrong_ok (fun h2 => ?_) fun h2 => ?_
    · have h2 : ¬ ((8 * (b.length - i3) : Nat) : Int) > 0 := of_decide_eq_false h2
      refine hK h _ i3 ⟨w, g, d, s, ?_, rfl⟩ ?_
      · unfold sheetPR
        rw [hsz]; dsimp only; rw [hd]; dsimp only; rw [if_neg (by omega), hsp]; dsimp only; rw [if_neg (by omega)]
      · rw [List.append_assoc] at H
        exact Hp.suf H
    · have h2 : ((8 * (b.length - i3) : Nat) : Int) > 0 := of_decide_eq_true h2
      exact bad (e := 150) (by unfold sheetPR; rw [hsz]; dsimp only; rw [hd]; dsimp only; rw [if_neg (by omega), hsp]; dsimp only; rw [if_pos (by omega)]) (by decide) H
  · obtain ⟨w, g, d, s, hsh, rfl⟩ := hp
    have hres : shRes b = (0, w, g, d, s) := by unfold shRes; rw [hsh]
    rw [hres] at hk
    refine ⟨_, rfl, ?_⟩
    refine bcase_false (by rfl) ?_
    repeat first | with_reducible refine ldI_of (by with_unfolding_all first | exact hpA H 0 rfl rfl | exact hpA H 1 rfl rfl | exact Hp.cell H 0 rfl rfl | exact Hp.cell H 1 rfl rfl | exact hpB H 0 rfl rfl | exact hpB H 1 rfl rfl | exact hpC H 0 rfl rfl | exact hpC H 1 rfl rfl) ?_ | with_reducible refine ldS_of (by with_unfolding_all first | exact hpA H 0 rfl rfl | exact hpA H 1 rfl rfl | exact Hp.cell H 0 rfl rfl | exact Hp.cell H 1 rfl rfl | exact hpB H 0 rfl rfl | exact hpB H 1 rfl rfl | exact hpC H 0 rfl rfl | exact hpC H 1 rfl rfl) ?_ | with_reducible refine ldP_of (by with_unfolding_all first | exact hpA H 0 rfl rfl | exact hpA H 1 rfl rfl | exact Hp.cell H 0 rfl rfl | exact Hp.cell H 1 rfl rfl | exact hpB H 0 rfl rfl | exact hpB H 1 rfl rfl | exact hpC H 0 rfl rfl | exact hpC H 1 rfl rfl) ?_ | with_reducible refine ldB_of (by with_unfolding_all first | exact hpA H 0 rfl rfl | exact hpA H 1 rfl rfl | exact Hp.cell H 0 rfl rfl | exact Hp.cell H 1 rfl rfl | exact hpB H 0 rfl rfl | exact hpB H 1 rfl rfl | exact hpC H 0 rfl rfl | exact hpC H 1 rfl rfl) ?_ | with_reducible refine ldT_of (by with_unfolding_all first | exact hpA H 0 rfl rfl | exact hpA H 1 rfl rfl | exact Hp.cell H 0 rfl rfl | exact Hp.cell H 1 rfl rfl | exact hpB H 0 rfl rfl | exact hpB H 1 rfl rfl | exact hpC H 0 rfl rfl | exact hpC H 1 rfl rfl) ?_
    repeat first | with_reducible refine stA H 0 (by with_unfolding_all exact rfl) (by with_unfolding_all exact rfl) (by with_unfolding_all exact rfl) fun h H => ?_ | with_reducible refine st0 H 0 (by with_unfolding_all exact rfl) (by with_unfolding_all exact rfl) (by with_unfolding_all exact rfl) fun h H => ?_ | with_reducible refine stB H 0 (by with_unfolding_all exact rfl) (by with_unfolding_all exact rfl) (by with_unfolding_all exact rfl) fun h H => ?_
    repeat first | with_reducible refine ldI_of (by with_unfolding_all first | exact hpA H 0 rfl rfl | exact Hp.cell H 0 rfl rfl | exact hpB H 0 rfl rfl | exact hpC H 0 rfl rfl) ?_ | with_reducible refine ldS_of (by with_unfolding_all first | exact hpA H 0 rfl rfl | exact Hp.cell H 0 rfl rfl | exact hpB H 0 rfl rfl | exact hpC H 0 rfl rfl) ?_ | with_reducible refine ldP_of (by with_unfolding_all first | exact hpA H 0 rfl rfl | exact Hp.cell H 0 rfl rfl | exact hpB H 0 rfl rfl | exact hpC H 0 rfl rfl) ?_ | with_reducible refine ldB_of (by with_unfolding_all first | exact hpA H 0 rfl rfl | exact Hp.cell H 0 rfl rfl | exact hpB H 0 rfl rfl | exact hpC H 0 rfl rfl) ?_ | with_reducible refine ldT_of (by with_unfolding_all first | exact hpA H 0 rfl rfl | exact Hp.cell H 0 rfl rfl | exact hpB H 0 rfl rfl | exact hpC H 0 rfl rfl) ?_
    exact hk _ H.hext
  · obtain ⟨hsh, he, cs, rfl⟩ := hp
    have hres : shRes b = (e, 0, 0, 0, 0) := by unfold shRes; rw [hsh]
    rw [hres] at hk
    refine ⟨_, rfl, ?_⟩
    refine bcase_ne (fun _ => ?_) fun hh => absurd hh he
    repeat first | with_reducible refine stA H 0 (by with_unfolding_all exact rfl) (by with_unfolding_all exact rfl) (by with_unfolding_all exact rfl) fun h H => ?_ | with_reducible refine st0 H 0 (by with_unfolding_all exact rfl) (by with_unfolding_all exact rfl) (by with_unfolding_all exact rfl) fun h H => ?_ | with_reducible refine stB H 0 (by with_unfolding_all exact rfl) (by with_unfolding_all exact rfl) (by with_unfolding_all exact rfl) fun h H => ?_
    repeat first | with_reducible refine ldI_of (by with_unfolding_all first | exact hpA H 0 rfl rfl | exact Hp.cell H 0 rfl rfl | exact hpB H 0 rfl rfl | exact hpC H 0 rfl rfl) ?_ | with_reducible refine ldS_of (by with_unfolding_all first | exact hpA H 0 rfl rfl | exact Hp.cell H 0 rfl rfl | exact hpB H 0 rfl rfl | exact hpC H 0 rfl rfl) ?_ | with_reducible refine ldP_of (by with_unfolding_all first | exact hpA H 0 rfl rfl | exact Hp.cell H 0 rfl rfl | exact hpB H 0 rfl rfl | exact hpC H 0 rfl rfl) ?_ | with_reducible refine ldB_of (by with_unfolding_all first | exact hpA H 0 rfl rfl | exact Hp.cell H 0 rfl rfl | exact hpB H 0 rfl rfl | exact hpC H 0 rfl rfl) ?_ | with_reducible refine ldT_of (by with_unfolding_all first | exact hpA H 0 rfl rfl | exact Hp.cell H 0 rfl rfl | exact hpB H 0 rfl rfl | exact hpC H 0 rfl rfl) ?_
    exact hk _ H.hext
end
end Go.Bm

/- RfD: refine.run, whatever decides. -/
set_option linter.unusedVariables false
set_option linter.unusedSimpArgs false
namespace Go.Bm
open Go Go.Den Go.Den.YtfaclehehhgpcaaGreat

def PadZ (W X : Nat) (ws : List Nat) : Prop := ∀ y, y < X → ∀ x, W ≤ x → x < 64 * wds W → pix ws (wds W) x y = false
theorem getP_set {W X a b : Nat} {bit : Bool} {ws R : List Nat} (ha : a < W) (hb : b < X) (h : ∀ y, y < X → ∀ x, x < 64 * wds W → pix R (wds W) x y = if y = b ∧ x = a then bit else pix ws (wds W) x y) : getP R W X = upd (getP ws W X) (a : Int) (b : Int) bit := by
  funext x y
  show (decide (0 ≤ x ∧ 0 ≤ y ∧ x < (W : Int) ∧ y < (X : Int)) && pix R (wds W) x.toNat y.toNat) = if x = (a : Int) ∧ y = (b : Int) then bit else (decide (0 ≤ x ∧ 0 ≤ y ∧ x < (W : Int) ∧ y < (X : Int)) && pix ws (wds W) x.toNat y.toNat)
  by_cases h1 : 0 ≤ x ∧ 0 ≤ y ∧ x < W ∧ y < X
  · rw [decide_eq_true h1, Bool.true_and, Bool.true_and, h _ (by omega) _ (by unfold wds; omega)]
    by_cases h2 : x = a ∧ y = b
    · rw [if_pos (by omega), if_pos h2]
    · rw [if_neg (by omega), if_neg h2]
  · rw [decide_eq_false h1, Bool.false_and, Bool.false_and, if_neg (by omega)]
theorem PadZ.set {W X a b : Nat} {bit : Bool} {ws R : List Nat} (hz : PadZ W X ws) (ha : a < W) (h : ∀ y, y < X → ∀ x, x < 64 * wds W → pix R (wds W) x y = if y = b ∧ x = a then bit else pix ws (wds W) x y) : PadZ W X R := fun y hy x h1 h2 => by
  rw [h y hy x h2, if_neg (by omega)]
  exact hz y hy x h1 h2

end Go.Bm

/- ArF: the law ArithKnown, said of memory. -/
set_option linter.unusedVariables false
set_option linter.unusedSimpArgs false
namespace Go.Ar
open Go Go.Den Go.Den.YtfaclehehhgpcaaGreat

theorem row_rdO {h0 h : Heap} {F : List Nat} {L : List Ent} (H : Hp h0 F h L) (k : Nat) {b : Nat} {w : Bool} {t : TypeId} {xs : List Nat} {rest : List Value} (he : L[k]? = some ⟨b, w, t, u8s xs ++ rest⟩) : rdO h (at0 b) (xs.length * 1) (u8s xs) := by
  have h2 := rdO_hp H k (o := 0) (n := xs.length * 1) he (by rw [List.length_append, u8s_length]; omega)
  rw [List.drop_zero, List.take_append_of_le_length (by rw [u8s_length]; omega), List.take_of_length_le (by rw [u8s_length]; omega)] at h2
  exact h2
end Go.Ar

/- ArG: the laws' script in memory; the law ArithReduced, said of memory. -/
set_option linter.unusedVariables false
set_option linter.unusedSimpArgs false
namespace Go.Ar
open Go Go.Den Go.Den.YtfaclehehhgpcaaGreat

/-- A script's decisions can be read. -/
def SV (h : Heap) (q : Option Addr) (len : Nat) : Prop := ∀ i, i < len → ∃ a c b, q = some a ∧ hcell h (a.add (i * 2)) = some (.int .i64 c) ∧ hcell h (a.add (i * 2 + 1)) = some (.int .i64 b)

theorem add_add' (a : Addr) (m n : Nat) : (a.add m).add n = a.add (m + n) := by
  unfold Addr.add
  by_cases h1 : m = 0
  · subst h1; simp
  · by_cases h2 : n = 0
    · subst h2; simp
    · rw [if_neg h1, if_neg h2, if_neg (by omega)]
      simp [Nat.add_assoc]
end Go.Ar

/- Written by gen.py: the conditions of the functions of burinref4. -/
set_option linter.unusedVariables false
set_option linter.unusedSimpArgs false
namespace Go.Den.YtfaclehehhgpcaaGreat
open Go Go.Den

/- burin/burinref4.New -/
/- (*burin/burinref4.Coder).Flush -/
/- burin/burinref4.NewDecoder -/
/- burin/burinref4.begun -/
/- (*burin/burinref4.Coder).Put -/
/- (*burin/burinref4.Coder).out -/
/- (*burin/burinref4.Decoder).byte -/
/- (*burin/burinref4.Decoder).in -/
/- (*burin/burinref4.Decoder).Get -/
/- burin/burinref4.table -/
/- (*burin/burinref4.side).Index -/
/- (*burin/burinref4.side).likely -/
/- (*burin/burinref4.side).other -/
/- (*burin/burinref4.Coder).renew -/
/- (*burin/burinref4.Decoder).renew -/
/- burin/burinref4.row -/
end Go.Den.YtfaclehehhgpcaaGreat

/- Written by gen.py: each condition of the functions of burinref4 is the one of its body; so it is enough for its call. -/
set_option linter.unusedVariables false
set_option linter.unusedSimpArgs false
namespace Go.Den.YtfaclehehhgpcaaGreat
open Go Go.Den

end Go.Den.YtfaclehehhgpcaaGreat

/- ArR: the document's own coder (burinref4) in memory: its table, its side, what its functions do. The same plain coder as ArA's. -/
set_option linter.unusedVariables false
set_option linter.unusedSimpArgs false
namespace Go.Ar
open Go Go.Den Go.Den.YtfaclehehhgpcaaGreat

def grow (k : Nat) : List Value := [.int .i64 (qOf k : Nat), .int .i64 (mOf k : Nat), .int .i64 (lOf k : Nat), .bool (cOf k == 1)]
/-! ### the table -/
end Go.Ar

/- ArS: the document's own coder in memory: begun, Index, likely, other, New, out, renew, Put. -/
set_option linter.unusedVariables false
set_option linter.unusedSimpArgs false
namespace Go.Ar
open Go Go.Den Go.Den.YtfaclehehhgpcaaGreat

/-! ### the side: where a coder's or a decoder's row begins -/
end Go.Ar

/- ArT: the document's own coder in memory: other, New, out, renew, Put, States. -/
set_option linter.unusedVariables false
set_option linter.unusedSimpArgs false
namespace Go.Ar
open Go Go.Den Go.Den.YtfaclehehhgpcaaGreat

/-! ### the coder -/
structure RP where
  p : Nat
  g : Nat
  gc : Nat
  sq : Nat
  bq : Nat
  grest : List Value
end Go.Ar

/- ArU: the document's own coder in memory: renew, Put, Flush, States. -/
set_option linter.unusedVariables false
set_option linter.unusedSimpArgs false
namespace Go.Ar
open Go Go.Den Go.Den.YtfaclehehhgpcaaGreat

end Go.Ar

/- ArV: the document's own coder in memory: States, Flush. -/
set_option linter.unusedVariables false
set_option linter.unusedSimpArgs false
namespace Go.Ar
open Go Go.Den Go.Den.YtfaclehehhgpcaaGreat

end Go.Ar

/- ArW: what the coders answer where they do not code: contexts out of range, a bit that is none, a coder that is done; Over. -/
set_option linter.unusedVariables false
set_option linter.unusedSimpArgs false
namespace Go.Ar
open Go Go.Den Go.Den.YtfaclehehhgpcaaGreat

end Go.Ar

/- ArX: what a call on rows of one's own leaves: the rows that came in, and another known row. -/
set_option linter.unusedVariables false
set_option linter.unusedSimpArgs false
namespace Go.Ar
open Go Go.Den Go.Den.YtfaclehehhgpcaaGreat

end Go.Ar

/- ArH: the law ArithApart, said of memory. -/
set_option linter.unusedVariables false
set_option linter.unusedSimpArgs false
namespace Go.Ar
open Go Go.Den Go.Den.YtfaclehehhgpcaaGreat

theorem SV.fn {h : Heap} {q : Option Addr} {len : Nat} (hv : SV h q len) : ∃ C B : Nat → Int, ∀ i, i < len → ∃ a, q = some a ∧ hcell h (a.add (i * 2)) = some (.int .i64 (C i)) ∧ hcell h (a.add (i * 2 + 1)) = some (.int .i64 (B i)) := by
  have h1 : ∀ i, ∃ cb : Int × Int, i < len → ∃ a, q = some a ∧ hcell h (a.add (i * 2)) = some (.int .i64 cb.1) ∧ hcell h (a.add (i * 2 + 1)) = some (.int .i64 cb.2) := fun i => by
    by_cases hi : i < len
    · obtain ⟨a, c, b, e1, e2, e3⟩ := hv i hi
      exact ⟨(c, b), fun _ => ⟨a, e1, e2, e3⟩⟩
    · exact ⟨(0, 0), fun h => absurd h hi⟩
  exact ⟨fun i => (Classical.choose (h1 i)).1, fun i => (Classical.choose (h1 i)).2, fun i hi => Classical.choose_spec (h1 i) hi⟩

theorem contexts_ok {h : Heap} {p q n : Nat} {F : List Nat} {h0 : Heap} {L : List Ent} (H : Hp h0 F h L) (kp : Nat) {w : Bool} {t : TypeId} {T : List Value} (hp : L[kp]? = some ⟨p, w, t, rowsV ++ (.slice (some ⟨q, 0, none⟩) n n :: T)⟩)
    {K : Value → Heap → Prop} {Kp : List PanicEntry → Heap → Prop} (hk : K (.int .i64 (n : Nat)) h) : CP F_arith_table_Contexts #[.pointer (at0 p)] h K Kp := by
  refine call_arith_table_Contexts ?_
  unfold arith_table_Contexts
  try simp only [ptr_some_eq, add_mk, Nat.zero_add, Nat.add_zero]
  refine ldS_of (H.cell kp hp (app_get hR 0 rfl)) ?_
  exact hk

end Go.Ar

/- ArY: the law ArithCodes, said of memory. -/
set_option linter.unusedVariables false
set_option linter.unusedSimpArgs false
namespace Go.Ar
open Go Go.Den Go.Den.YtfaclehehhgpcaaGreat

end Go.Ar

/- PgB: pages: Add, Stripe, End, Next, the program's and the document's. -/
set_option linter.unusedVariables false
set_option linter.unusedSimpArgs false
namespace Go.Bm
open Go Go.Den Go.Den.YtfaclehehhgpcaaGreat

/-- What a bitmap that is laid leaves. -/
def LaidP (g : Pg) (x y : Int) (op W2 X2 : Nat) (ws2 R : List Nat) : Prop := R.length = g.X * wds g.W ∧ W64 R ∧ ∀ Y, Y < g.X → ∀ x', x' < 64 * wds g.W → pix R (wds g.W) x' Y =
  if x ≤ x' ∧ (x' : Int) < x + W2 ∧ x' < g.W ∧ y ≤ Y ∧ (Y : Int) < y + X2 then opB op (pix g.ws (wds g.W) x' Y) (pix ws2 (wds W2) (x' - x).toNat (Y - y).toNat) else pix g.ws (wds g.W) x' Y
def LateP (g : Pg) (y h : Int) : Prop := g.dn = true ∨ y < g.nx ∨ g.s ≠ 0 ∧ (g.s : Int) - h < y - g.nx
def AddR (g : Pg) (x y op w h : Int) (ws2 : List Nat) (e : Int) (g' : Pg) : Prop :=
  ¬ (0 ≤ op ∧ op ≤ 4 ∧ MayP w h ws2) ∧ e = 150 ∧ g' = g ∨
  (0 ≤ op ∧ op ≤ 4 ∧ MayP w h ws2) ∧ LateP g y h ∧ e = 151 ∧ g' = g ∨
  (0 ≤ op ∧ op ≤ 4 ∧ MayP w h ws2) ∧ ¬ LateP g y h ∧ e = 0 ∧ ∃ R, LaidP g x y op.toNat w.toNat h.toNat ws2 R ∧ g' = { g with ws := R }
theorem AddR.ok {g g' : Pg} {x y op w h e : Int} {ws2 : List Nat} (h1 : AddR g x y op w h ws2 e g') (hg : PgOk g) : PgOk g' := by
  rcases h1 with ⟨_, _, c⟩ | ⟨_, _, _, c⟩ | ⟨_, _, _, R, r, c⟩
  · rw [c]; exact hg
  · rw [c]; exact hg
  · rw [c]; exact ⟨hg.size, r.1, r.2.1, hg.nx, hg.s⟩

theorem operation_ok {h : Heap} {op : Int} {K : Value → Heap → Prop} {Kp : List PanicEntry → Heap → Prop} (hk : ∀ b : Bool, (b = true ↔ 0 ≤ op ∧ op ≤ 4) → K (.bool b) h) : CP F_page_operation #[.int .i64 op] h K Kp := by
  refine call_page_operation ?_
  unfold page_operation
  refine bcase_dec (fun h1 => ?_) fun h1 => hk false (by simp; omega)
  exact hk _ (by simp; omega)
set_option maxRecDepth 100000 in
set_option maxHeartbeats 1000000 in
theorem padd_ok {h0 h : Heap} {F : List Nat} {p m q : Nat} {rest : List Value} {g : Pg} (H : Hp h0 F h (pgL p m q rest g)) (hg : PgOk g) {x y op w b : Int} {q2 : Option Addr} {c2 : Nat} {ws2 : List Nat} (hr : rdO h q2 (ws2.length * 1) (u64s ws2)) (hw2 : W64 ws2) (hl2 : ws2.length < 140737488351300)
    (hx : InI x) (hy : InI y) (hb : InI b) {K : Value → Heap → Prop} {Kp : List PanicEntry → Heap → Prop} (hk : ∀ e g' h', AddR g x y op w b ws2 e g' → Hp h0 F h' (pgL p m q rest g') → K (.int .i64 e) h') :
    CP F_page_Page_Add #[.pointer (at0 p), .int .i64 x, .int .i64 y, .int .i64 op, .agg #[.int .i64 w, .int .i64 b, .slice q2 ws2.length c2]] h K Kp := by
  refine call_page_Page_Add ?_
  unfold page_Page_Add
  have hgb := hg.b
  have hnx := hg.nx
  have hss := hg.s
  refine newC_hpx H fun r4 h1 x1 H => ?_
  have hr := rdO_ext x1 hr
  try simp only [ptr_some_eq, add_mk, Nat.zero_add, Nat.add_zero]
  have e3 : ∀ (T : List Ent), (pgL p m q rest g ++ ([⟨r4, true, T_api_Bitmap, [.int .i64 w, .int .i64 b, .slice q2 ws2.length c2]⟩] ++ T))[3]? = some ⟨r4, true, T_api_Bitmap, [.int .i64 w, .int .i64 b, .slice q2 ws2.length c2]⟩ := fun T => rfl
  refine ldI_of (H.cell 3 rfl (i := 0) rfl) ?_
  refine ldI_of (H.cell 3 rfl (i := 1) rfl) ?_
  refine ldS_of (H.cell 3 rfl (i := 2) rfl) ?_
  refine from_ok hr hw2 hl2 (fun W2 X2 p2 qs srest h2 hw hb' hm H' => ?_) fun h2 hm e2 => ?_
  · subst hw hb'
    replace H := H.join H' rfl
    clear H'
    refine ⟨_, _, rfl, ?_⟩
    obtain ⟨W', X', e1, e2, hV1, hV2, hY1, hY2, hVY⟩ := size_nat hm.1
    obtain rfl : W2 = W' := by omega
    obtain rfl : X2 = X' := by omega
    refine ⟨fun vs h' => h' = h2 ∧ (0 ≤ op ∧ op ≤ 4) ∧ ¬ LateP g y (X2 : Int), ?_, ?_⟩
    · refine ⟨fun vs h' => h' = h2 ∧ ∃ bb : Bool, (bb = true ↔ ¬ (0 ≤ op ∧ op ≤ 4)) ∧ vs = [.bool bb], ?_, ?_⟩
      · refine operation_ok fun bb hbb => ?_
        refine ⟨_, rfl, ?_⟩
        refine bcase_not (fun h3 => ?_) fun h3 => ?_
        · rw [h3]
          exact ⟨rfl, true, ⟨(fun _ h4 => by rw [hbb.2 h4] at h3; cases h3), fun _ => rfl⟩, rfl⟩
        · exact ⟨rfl, false, ⟨(fun h => Bool.noConfusion h), fun h4 => absurd (hbb.1 h3) h4⟩, rfl⟩
      · rintro h' u xx ⟨rfl, bb, hbb, hxx⟩
        injection hxx with hxx
        injection hxx with hxx
        subst hxx
        refine bcase_of (fun h3 => ?_) fun h3 => ?_
        · exact hk 150 g _ (.inl ⟨fun h4 => hbb.1 h3 ⟨h4.1, h4.2.1⟩, rfl, rfl⟩) H.pre.pre
        have hop : 0 ≤ op ∧ op ≤ 4 := Classical.byContradiction fun h4 => by rw [hbb.2 h4] at h3; cases h3
        have late : LateP g y (X2 : Int) → K (.int .i64 151) h' := fun hl => hk 151 g _ (.inr (.inl ⟨⟨hop.1, hop.2, hm⟩, hl, rfl, rfl⟩)) H.pre.pre
        refine ldB_of (H.cell 0 rfl (i := 6) rfl) ?_
        refine bcase_of (fun h4 => ?_) fun h4 => ?_
        · refine bcase_true h4 (late (.inl h4))
        refine ldI_of (H.cell 0 rfl (i := 5) rfl) ?_
        refine bcase_dec (fun h5 => ?_) fun h5 => ?_
        · simp only [decide_eq_true h5]
          exact bcase_true rfl (late (.inr (.inl h5)))
        refine ldI_of (H.cell 0 rfl (i := 3) rfl) ?_
        refine bcase_ne (fun h6 => ?_) fun h6 => ?_
        · refine ldI_of (H.cell 0 rfl (i := 5) rfl) ?_
          unfold InI at hy
          refine bindI_of ((y - (g.nx : Nat))) (by exact i64_in _ (by omega) (by omega)) ?_
          refine ldI_of (H.cell 0 rfl (i := 3) rfl) ?_
          refine ldI_of (H.cell 3 rfl (i := 1) rfl) ?_
          refine bindI_of (((g.s : Nat) - (X2 : Int))) (by exact i64_in _ (by omega) (by omega)) ?_
          refine bcase_dec (fun h7 => ?_) fun h7 => ?_
          · exact late (.inr (.inr ⟨by omega, by omega⟩))
          · refine ⟨by first | rfl | trivial, hop, ?_⟩
            rintro (h8 | h8 | h8)
            · rw [h4] at h8; cases h8
            · omega
            · omega
        · refine ⟨by first | rfl | trivial, hop, ?_⟩
          rintro (h8 | h8 | h8)
          · rw [h4] at h8; cases h8
          · omega
          · omega
    · rintro h' u ⟨rfl, hop, hnl⟩
      obtain ⟨opn, rfl⟩ : ∃ n : Nat, op = (n : Nat) := ⟨op.toNat, by omega⟩
      refine ldP_of (H.cell 0 rfl (i := 4) rfl) ?_
      refine ldI_of (H.cell 3 rfl (i := 0) rfl) ?_
      refine ldI_of (H.cell 3 rfl (i := 1) rfl) ?_
      refine blit_ok (p := m) (q := q) (W := g.W) (X := g.X) (ws := g.ws) (rest := rest) (p2 := p2) (q2 := qs) (ws2 := ws2) (rest2 := srest) (H.give [1, 2, 4, 5] (by decide) rfl) hg.size hg.len hg.w hm.1 hm.2.1 hw2 ⟨by omega, by omega⟩ ⟨by omega, by omega⟩ ⟨by omega, by omega⟩ ⟨by omega, by omega⟩ hx hy (by omega) (by omega) (by omega) fun R h' k1 k2 k3 H' => ?_
      have H := (H.pick [0, 1, 2, 4, 5] (by decide) (L' := pgL p m q rest g ++ mapL p2 qs W2 X2 ws2 srest) rfl)
      have H := (H.back [1, 2, 3, 4] (by decide) rfl rfl H' rfl (Nat.le_of_ble_eq_true rfl))
      refine ⟨_, rfl, hk 0 { g with ws := R } _ (.inr (.inr ⟨⟨hop.1, hop.2, hm⟩, hnl, rfl, R, ⟨k1, k2, fun Y hY x' hx' => ?_⟩, rfl⟩)) (H.pick [0, 1, 2] (by decide) (by rfl))⟩
      rw [k3 Y hY x' hx']
      have e1 : ((W2 : Int)).toNat = W2 := by simp
      have e2 : ((X2 : Int)).toNat = X2 := by simp
      rw [e1, e2, Int.toNat_natCast]
      by_cases h9 : x ≤ x' ∧ (x' : Int) < x + W2 ∧ x' < g.W ∧ y ≤ Y ∧ (Y : Int) < y + X2
      · rw [if_pos (by omega), if_pos h9]
        congr 2 <;> omega
      · rw [if_neg (by omega), if_neg h9]
  · have H := H.ext e2
    refine ⟨_, _, rfl, ?_⟩
    refine ⟨fun vs h' => False, ?_, fun h u hf => hf.elim⟩
    refine ⟨fun vs h' => h' = h2 ∧ vs = [.bool true], ?_, ?_⟩
    · refine operation_ok fun bb hbb => ?_
      refine ⟨_, rfl, ?_⟩
      refine bcase_not (fun h3 => ?_) fun h3 => ?_
      · rw [h3]; exact ⟨rfl, rfl⟩
      · exact ⟨rfl, rfl⟩
    · rintro h' u xx ⟨rfl, hxx⟩
      injection hxx with hxx
      injection hxx with hxx
      subst hxx
      refine bcase_true (by rfl) ?_
      exact hk 150 g _ (.inl ⟨fun h4 => hm h4.2.2, rfl, rfl⟩) H.pre

/-! ### Stripe, End, Next -/
def stripeG (g : Pg) (last : Int) : Int × Pg := if g.dn = true ∨ g.s = 0 ∨ g.nx = g.X ∨ last ≠ ((min (g.nx + g.s) g.X : Nat) : Int) - 1 then (151, g) else (0, { g with nx := min (g.nx + g.s) g.X })
theorem stripeG_ok {g : Pg} (h : PgOk g) (last : Int) : PgOk (stripeG g last).2 := by
  unfold stripeG
  split
  · exact h
  · exact ⟨h.size, h.len, h.w, Nat.min_le_right _ _, h.s⟩
theorem pstripe_ok {h0 h : Heap} {F : List Nat} {p m q : Nat} {rest : List Value} {g : Pg} (H : Hp h0 F h (pgL p m q rest g)) (hg : PgOk g) {last : Int} {K : Value → Heap → Prop} {Kp : List PanicEntry → Heap → Prop}
    (hk : ∀ h', Hp h0 F h' (pgL p m q rest (stripeG g last).2) → K (.int .i64 (stripeG g last).1) h') : CP F_page_Page_Stripe #[.pointer (at0 p), .int .i64 last] h K Kp := by
  refine call_page_Page_Stripe ?_
  unfold page_Page_Stripe
  have hgb := hg.b
  have hnx := hg.nx
  have hss := hg.s
  unfold stripeG at hk
  have bad : (g.dn = true ∨ g.s = 0 ∨ g.nx = g.X ∨ last ≠ ((min (g.nx + g.s) g.X : Nat) : Int) - 1) → K (.int .i64 151) h := fun hz => by
    rw [if_pos hz] at hk
    exact hk h H
  try simp only [ptr_some_eq, add_mk, Nat.zero_add, Nat.add_zero]
  refine ldB_of (H.cell 0 rfl (i := 6) rfl) ?_
  refine bcase_of (fun h1 => bad (.inl h1)) fun h1 => ?_
  refine ldI_of (H.cell 0 rfl (i := 3) rfl) ?_
  refine bcase_eq (fun h2 => bad (.inr (.inl (by omega)))) fun h2 => ?_
  refine ldI_of (H.cell 0 rfl (i := 5) rfl) ?_
  refine ldI_of (H.cell 0 rfl (i := 1) rfl) ?_
  refine bcase_eq (fun h3 => bad (.inr (.inr (.inl (by omega))))) fun h3 => ?_
  refine ldI_of (H.cell 0 rfl (i := 5) rfl) ?_
  refine ldI_of (H.cell 0 rfl (i := 3) rfl) ?_
  refine bindI_of (((g.nx + g.s : Nat) : Int)) (by exact i64_at _ _ (by omega) (by omega) (by omega)) ?_
  refine ldI_of (H.cell 0 rfl (i := 1) rfl) ?_
  refine min_of fun mm hmm => ?_
  obtain rfl : mm = ((min (g.nx + g.s) g.X : Nat) : Int) := by omega
  refine bindI_of ((((min (g.nx + g.s) g.X : Nat) : Int) - 1)) (by exact i64_in _ (by omega) (by omega)) ?_
  refine bcase_ne (fun h4 => bad (.inr (.inr (.inr h4)))) fun h4 => ?_
  refine bindI_of (((min (g.nx + g.s) g.X : Nat) : Int)) (by exact i64_at _ _ (by omega) (by omega) (by omega)) ?_
  refine stV_hp H 0 rfl (Nat.le_of_ble_eq_true rfl) rfl fun h hsz H => ?_
  rw [if_neg (by
    rintro (h5 | h5 | h5 | h5)
    · rw [h1] at h5; cases h5
    · omega
    · omega
    · exact h5 h4)] at hk
  exact hk h H
theorem pnext_ok {h0 h : Heap} {F : List Nat} {p m : Nat} {L : List Ent} {g : Pg} (H : Hp h0 F h L) (k : Nat) (hp : L[k]? = some (pgE p m g)) {K : Value → Heap → Prop} {Kp : List PanicEntry → Heap → Prop}
    (hk : K (.int .i64 (g.nx : Nat)) h) : CP F_page_Page_Next #[.pointer (at0 p)] h K Kp := by
  refine call_page_Page_Next ?_
  unfold page_Page_Next
  try simp only [ptr_some_eq, add_mk, Nat.zero_add, Nat.add_zero]
  refine ldI_of (H.cell k hp (i := 5) rfl) ?_
  exact hk

/-- What End answers, and leaves. -/
def EndR (g : Pg) (e w b : Int) (bs : List Nat) (g' : Pg) : Prop :=
  (g.dn = true ∨ g.s ≠ 0 ∧ g.nx < g.X) ∧ e = 151 ∧ w = 0 ∧ b = 0 ∧ bs = [] ∧ g' = g ∨
  ¬ (g.dn = true ∨ g.s ≠ 0 ∧ g.nx < g.X) ∧ e = 0 ∧ w = (g.W : Nat) ∧ b = (g.X : Nat) ∧ bs = g.ws ∧ g' = { g with nx := g.X, dn := true }
theorem EndR.ok {g g' : Pg} {e w b : Int} {bs : List Nat} (h : EndR g e w b bs g') (hg : PgOk g) : PgOk g' ∧ bs.length ≤ 1048576 := by
  have hb := hg.b
  rcases h with ⟨a, b, c, d, e, f⟩ | ⟨a, b, c, d, e, f⟩
  · rw [f, e]; exact ⟨hg, by simp⟩
  · rw [f, e]; exact ⟨⟨hg.size, hg.len, hg.w, Nat.le_refl _, hg.s⟩, by omega⟩

set_option maxRecDepth 100000 in
theorem pend_ok {h0 h : Heap} {F : List Nat} {p m q : Nat} {rest : List Value} {g : Pg} (H : Hp h0 F h (pgL p m q rest g)) (hg : PgOk g) {K : Value → Heap → Prop} {Kp : List PanicEntry → Heap → Prop}
    (hk : ∀ e w b bs g' D qo c h', EndR g e w b bs g' → Slot T_uint64 1 D qo bs.length c (u64s bs) → Hp h0 F h' (pgL p m q rest g' ++ D) → K (.tuple #[.agg #[.int .i64 w, .int .i64 b, .slice qo bs.length c], .int .i64 e]) h') :
    CP F_page_Page_End #[.pointer (at0 p)] h K Kp := by
  refine call_page_Page_End ?_
  unfold page_Page_End
  have hgb := hg.b
  refine newC_hp H fun r h H => ?_
  have H := H.rot
  refine ⟨fun vs h' => ¬ (g.dn = true ∨ g.s ≠ 0 ∧ g.nx < g.X) ∧ Hp h0 F h' ([⟨r, true, T_api_Bitmap, [.int .i64 0, .int .i64 0, .slice none 0 0]⟩] ++ pgL p m q rest g), ?_, ?_⟩
  · try simp only [ptr_some_eq, add_mk, Nat.zero_add, Nat.add_zero]
    have bad : (g.dn = true ∨ g.s ≠ 0 ∧ g.nx < g.X) → ∀ h, Hp h0 F h ([⟨r, true, T_api_Bitmap, [.int .i64 0, .int .i64 0, .slice none 0 0]⟩] ++ pgL p m q rest g) → stV h ⟨r, 0, none⟩ (.int .i64 0) fun h_8 => stV h_8 ⟨r, 1, none⟩ (.int .i64 0) fun h_9 => stV h_9 ⟨r, 2, none⟩ (.slice none 0 0) fun h_10 =>
        ldI h_10 ⟨r, 0, none⟩ .i64 fun r_11 => ldI h_10 ⟨r, 1, none⟩ .i64 fun r_12 => ldS h_10 ⟨r, 2, none⟩ fun r_13 r_13n r_13c => K (.tuple #[.agg #[.int .i64 r_11, .int .i64 r_12, .slice r_13 r_13n r_13c], .int .i64 151]) h_10 := fun hz h H => by
      refine stV_hp H 0 rfl (by first | exact Nat.le_of_ble_eq_true rfl | simp) rfl fun h hsz H => ?_
      refine stV_hp H 0 rfl (by first | exact Nat.le_of_ble_eq_true rfl | simp) rfl fun h hsz H => ?_
      refine stV_hp H 0 rfl (by first | exact Nat.le_of_ble_eq_true rfl | simp) rfl fun h hsz H => ?_
      refine ldI_of (H.cell 0 rfl rfl) ?_
      refine ldI_of (H.cell 0 rfl rfl) ?_
      refine ldS_of (H.cell 0 rfl rfl) ?_
      exact hk 151 0 0 [] g [] none 0 _ (.inl ⟨hz, rfl, rfl, rfl, rfl, rfl⟩) (Slot.nil _ _) ((Hp.suf (X := [_]) H).as (List.append_nil _).symm)
    refine ldB_of (H.cell 1 rfl (i := 6) rfl) ?_
    refine bcase_of (fun h1 => bad (.inl h1) _ H) fun h1 => ?_
    refine ldI_of (H.cell 1 rfl (i := 3) rfl) ?_
    refine bcase_ne (fun h2 => ?_) fun h2 => ?_
    · refine ldI_of (H.cell 1 rfl (i := 5) rfl) ?_
      refine ldI_of (H.cell 1 rfl (i := 1) rfl) ?_
      refine bcase_dec (fun h3 => bad (.inr ⟨by omega, by omega⟩) _ H) fun h3 => ?_
      refine ⟨?_, H⟩
      rintro (h4 | h4)
      · rw [h1] at h4; cases h4
      · omega
    · refine ⟨?_, H⟩
      rintro (h4 | h4)
      · rw [h1] at h4; cases h4
      · omega
  · rintro h u ⟨hn, H⟩
    try simp only [ptr_some_eq, add_mk, Nat.zero_add, Nat.add_zero]
    refine ldI_of (H.cell 1 rfl (i := 1) rfl) ?_
    refine stV_hp H 1 rfl (Nat.le_of_ble_eq_true rfl) rfl fun h hsz H => ?_
    refine stV_hp H 1 rfl (Nat.le_of_ble_eq_true rfl) rfl fun h hsz H => ?_
    have H : Hp h0 F h ([⟨r, true, T_api_Bitmap, [.int .i64 0, .int .i64 0, .slice none 0 0]⟩] ++ pgL p m q rest { g with nx := g.X, dn := true }) := H
    refine ldP_of (H.cell 1 rfl (i := 4) rfl) ?_
    refine plain_ok (W := g.W) (X := g.X) (ws := g.ws) (rest := rest) H 2 3 rfl rfl (by omega) (by omega) fun o orest h H => ?_
    refine ⟨_, _, _, _, _, rfl, ?_⟩
    refine stV_hp H 0 rfl (by first | exact Nat.le_of_ble_eq_true rfl | simp) rfl fun h hsz H => ?_
    refine stV_hp H 0 rfl (by first | exact Nat.le_of_ble_eq_true rfl | simp) rfl fun h hsz H => ?_
    refine stV_hp H 0 rfl (by first | exact Nat.le_of_ble_eq_true rfl | simp) rfl fun h hsz H => ?_
    refine ldI_of (H.cell 0 rfl rfl) ?_
    refine ldI_of (H.cell 0 rfl rfl) ?_
    refine ldS_of (H.cell 0 rfl rfl) ?_
    refine hk 0 _ _ g.ws _ [⟨o, true, T_uint64, u64s g.ws ++ orest⟩] _ _ _ (.inr ⟨hn, rfl, rfl, rfl, rfl, rfl⟩) (Slot.one (by rw [u64s_length, Nat.mul_one]) (by rw [List.length_append, u64s_length, Nat.mul_one])) ?_
    exact H.pick [1, 2, 3, 4] (by decide) rfl

end Go.Bm

/- Written by gen.py: the conditions of the functions of law15x. -/
set_option linter.unusedVariables false
set_option linter.unusedSimpArgs false
namespace Go.Den.YtfaclehehhgpcaaGreat
open Go Go.Den

/- burin/burinlaw15.wakes -/
set_option maxRecDepth 100000 in
def burinlaw15_wakes (C : CallP)  (h : Heap) (K : Value → Heap → Prop) (Kp : List PanicEntry → Heap → Prop) : Prop :=
C F_page_New #[.agg #[.int .i64 3, .int .i64 3, .int .i64 0, .int .i64 2]] h (fun v_1 h_2 =>
∃ (r_3 : Option Addr), ∃ (r_4 : Int), v_1 = .tuple #[.pointer r_3, .int .i64 r_4] ∧ (
bcase (r_4 != (0 : Int)) (
K (.bool false) h_2) <|
bcase r_3.isNone (
K (.bool false) h_2) <|
newC h_2 [.int .u64 9223372036854775808] T_uint64 fun r_5 h_6 =>
C F_page_Page_Add #[.pointer r_3, .int .i64 0, .int .i64 0, .int .i64 0, .agg #[.int .i64 1, .int .i64 1, .slice (some ⟨r_5, 0, none⟩) 1 1]] h_6 (fun v_7 h_8 =>
∃ (r_9 : Int), v_7 = .int .i64 r_9 ∧ (
bcase (r_9 != (0 : Int)) (
K (.bool false) h_8) <|
C F_page_Page_Stripe #[.pointer r_3, .int .i64 2] h_8 (fun v_10 h_11 =>
∃ (r_12 : Int), v_10 = .int .i64 r_12 ∧ (
bcase (r_12 != (151 : Int)) (
K (.bool false) h_11) <|
C F_page_Page_Stripe #[.pointer r_3, .int .i64 1] h_11 (fun v_13 h_14 =>
∃ (r_15 : Int), v_13 = .int .i64 r_15 ∧ (
bcase (r_15 != (0 : Int)) (
K (.bool false) h_14) <|
C F_page_Page_Next #[.pointer r_3] h_14 (fun v_16 h_17 =>
∃ (r_18 : Int), v_16 = .int .i64 r_18 ∧ (
bcase (r_18 != (2 : Int)) (
K (.bool false) h_17) <|
C F_page_Page_Stripe #[.pointer r_3, .int .i64 2] h_17 (fun v_19 h_20 =>
∃ (r_21 : Int), v_19 = .int .i64 r_21 ∧ (
bcase (r_21 != (0 : Int)) (
K (.bool false) h_20) <|
C F_page_Page_End #[.pointer r_3] h_20 (fun v_22 h_23 =>
∃ (r_24 : Int) (r_25 : Int) (r_26 : Option Addr) (r_26n : Nat) (r_26c : Nat), ∃ (r_27 : Int), v_22 = .tuple #[.agg #[.int .i64 r_24, .int .i64 r_25, .slice r_26 r_26n r_26c], .int .i64 r_27] ∧ (
newC h_23 [.int .i64 0, .int .i64 0, .slice none 0 0] T_api_Bitmap fun r_28 h_29 =>
stV h_29 ((⟨r_28, 0, none⟩ : Addr).add 0) (.int .i64 r_24) fun h_30 =>
stV h_30 ((⟨r_28, 0, none⟩ : Addr).add 1) (.int .i64 r_25) fun h_31 =>
stV h_31 ((⟨r_28, 0, none⟩ : Addr).add 2) (.slice r_26 r_26n r_26c) fun h_32 =>
bcase (r_27 == (0 : Int)) (
ldI h_32 ((⟨r_28, 0, none⟩ : Addr).add 0) .i64 fun x_33 =>
ldI h_32 ((⟨r_28, 0, none⟩ : Addr).add 1) .i64 fun x_34 =>
ldS h_32 ((⟨r_28, 0, none⟩ : Addr).add 2) fun x_35 x_35n x_35c =>
newC h_32 [.int .u64 9223372036854775808, .int .u64 0, .int .u64 0] T_uint64 fun r_36 h_37 =>
C F_burinref0_EqBitmap #[.agg #[.int .i64 x_33, .int .i64 x_34, .slice x_35 x_35n x_35c], .agg #[.int .i64 3, .int .i64 3, .slice (some ⟨r_36, 0, none⟩) 3 3]] h_37 (fun v_38 h_39 =>
∃ (r_40 : Bool), v_38 = .bool r_40 ∧ (
K (.bool r_40) h_39)) (Kp)) <|
K (.bool false) h_32)) (Kp))) (Kp))) (Kp))) (Kp))) (Kp))) (Kp))) (Kp)

/- burin/burinlaw15.great -/
end Go.Den.YtfaclehehhgpcaaGreat

/- Written by gen.py: each condition of the functions of law15x is the one of its body; so it is enough for its call. -/
set_option linter.unusedVariables false
set_option linter.unusedSimpArgs false
namespace Go.Den.YtfaclehehhgpcaaGreat
open Go Go.Den

noncomputable def hints_burinlaw15_wakes : Hints := Hints.mk (fun i => none)
  (fun i => none)
  (fun i => none) []
set_option maxRecDepth 100000 in
theorem eq_burinlaw15_wakes (C : CallP)  (h : Heap) (K : Value → Heap → Prop) (Kp : List PanicEntry → Heap → Prop) :
    fnD Go.Proofs.Tryz.prog C hints_burinlaw15_wakes Go.Proofs.Tryz.f20 [] h K Kp = burinlaw15_wakes C  h K Kp := by kernel_rfl

theorem call_burinlaw15_wakes  {h : Heap} {K : Value → Heap → Prop} {Kp : List PanicEntry → Heap → Prop} (H : burinlaw15_wakes (CallsHP Go.Proofs.Tryz.prog)  h K Kp) : CallsHP Go.Proofs.Tryz.prog F_burinlaw15_wakes #[] h K Kp :=
  callsHP_of hints_burinlaw15_wakes (by kernel_rfl) Go.Proofs.Tryz.func20 (by kernel_rfl) (by rw [eq_burinlaw15_wakes]; exact H)

end Go.Den.YtfaclehehhgpcaaGreat

/- PgC: the law PageExact, said of memory. -/
set_option linter.unusedVariables false
set_option linter.unusedSimpArgs false
namespace Go.Bm
open Go Go.Den Go.Den.YtfaclehehhgpcaaGreat

theorem one_may : MayP 1 1 [9223372036854775808] := by
  refine ⟨by unfold SizeP; omega, by decide, fun y hy => ?_⟩
  have : y = 0 := by simp at hy; omega
  subst this
  decide
theorem three_ws {R0 R : List Nat} (h0 : FullP 3 3 0 R0) (h : LaidP ⟨3, 3, 0, 2, R0, 0, false⟩ 0 0 0 1 1 [9223372036854775808] R) : R = [9223372036854775808, 0, 0] := by
  have hw3 : wds 3 = 1 := rfl
  obtain ⟨h1, h2, h3⟩ := h
  dsimp only at h1 h3
  rw [hw3] at h1 h3
  refine pix_ext (wd := 1) (h := 3) h1 rfl h2 (fun v hv => by simp at hv; rcases hv with rfl | rfl <;> decide) fun y hy x hx => ?_
  have := h3 y hy x hx
  have hz := h0.2.2 y hy x hx
  rw [hw3] at hz
  rw [this]
  have hx64 : x / 64 = 0 := by omega
  have hR : pix [9223372036854775808, 0, 0] 1 x y = decide (x = 0 ∧ y = 0) := by
    unfold pix
    rw [hx64]
    have hb : (9223372036854775808 : Nat) = 2 ^ 63 := rfl
    rcases (show y = 0 ∨ y = 1 ∨ y = 2 by omega) with rfl | rfl | rfl
    · show (9223372036854775808 : Nat).testBit _ = _
      rw [hb, Nat.testBit_two_pow, decide_eq_decide]
      omega
    · show (0 : Nat).testBit _ = _
      rw [Nat.zero_testBit, eq_comm, decide_eq_false_iff_not]; omega
    · show (0 : Nat).testBit _ = _
      rw [Nat.zero_testBit, eq_comm, decide_eq_false_iff_not]; omega
  rw [hR, hz]
  by_cases h4 : x = 0 ∧ y = 0
  · obtain ⟨rfl, rfl⟩ := h4
    rw [if_pos (by omega)]
    decide
  · rw [if_neg (by omega), decide_eq_false h4]
    simp

set_option maxRecDepth 100000 in
set_option maxHeartbeats 1000000 in
theorem wakes15_ok {hB : Heap} {K : Value → Heap → Prop} {Kp : List PanicEntry → Heap → Prop} (hk : ∀ h', hext hB h' → K (.bool true) h') : CP F_burinlaw15_wakes #[] hB K Kp := by
  refine call_burinlaw15_wakes ?_
  unfold burinlaw15_wakes
  have hs : SheetP 3 3 0 2 := ⟨by unfold SizeP; omega, by omega, by omega, by omega⟩
  refine pnew_ok (fun G p m q rest h hw hx hd hss _ hn hdn hf H => ?_) fun _ hbad _ => absurd hs hbad
  obtain ⟨W, X, d, s, ws, nx, dn⟩ := G
  dsimp only at hw hx hd hss hn hdn hf
  obtain rfl : W = 3 := by omega
  obtain rfl : X = 3 := by omega
  obtain rfl : d = 0 := by omega
  obtain rfl : s = 2 := by omega
  obtain rfl : nx = 0 := hn
  obtain rfl : dn = false := hdn
  refine ⟨_, _, rfl, ?_⟩
  refine bcase_false (by rfl) ?_
  refine bcase_false (by rfl) ?_
  refine newC_hp H fun o h H => ?_
  have hok : PgOk ⟨3, 3, 0, 2, ws, 0, false⟩ := ⟨hs.1, hf.1, hf.2.1, Nat.zero_le _, by show 2 ≤ 1048576; decide⟩
  have hr := row_rdO H 3 (xs := [9223372036854775808]) (rest := []) rfl
  refine padd_ok (ws2 := [9223372036854775808]) (H.give [0, 1, 2] (by decide) rfl) hok hr (fun v hv => by simp at hv; rw [hv]; decide) (by decide) ⟨by omega, by omega⟩ ⟨by omega, by omega⟩ ⟨by omega, by omega⟩ fun e g' h' ha H' => ?_
  replace H := H.put [0, 1, 2] (by decide) rfl rfl H' rfl rfl
  clear H'
  have hok' := ha.ok hok
  rcases ha with ⟨a, _, _⟩ | ⟨_, l, _, _⟩ | ⟨_, _, rfl, R, hR, rfl⟩
  · exact absurd ⟨by omega, by omega, one_may⟩ a
  · rcases l with l | l | l
    · cases l
    · exact absurd l (by show ¬ (0 : Int) < ((0 : Nat) : Int); omega)
    · exact absurd l.2 (by show ¬ ((2 : Nat) : Int) - 1 < 0 - ((0 : Nat) : Int); omega)
  have hRe := three_ws hf hR
  subst hRe
  dsimp only at hok' H
  have hs1 : stripeG ⟨3, 3, 0, 2, [9223372036854775808, 0, 0], 0, false⟩ 2 = (151, ⟨3, 3, 0, 2, [9223372036854775808, 0, 0], 0, false⟩) := by simp [stripeG]
  have hs2 : stripeG ⟨3, 3, 0, 2, [9223372036854775808, 0, 0], 0, false⟩ 1 = (0, ⟨3, 3, 0, 2, [9223372036854775808, 0, 0], 2, false⟩) := by simp [stripeG]
  have hs3 : stripeG ⟨3, 3, 0, 2, [9223372036854775808, 0, 0], 2, false⟩ 2 = (0, ⟨3, 3, 0, 2, [9223372036854775808, 0, 0], 3, false⟩) := by simp [stripeG]
  have H : Hp hB [] h' (pgL p m q rest ⟨3, 3, 0, 2, [9223372036854775808, 0, 0], 0, false⟩ ++ [⟨o, true, T_uint64, [.int .u64 9223372036854775808]⟩]) := H
  refine ⟨_, rfl, ?_⟩
  refine bcase_false (by rfl) ?_
  refine pstripe_ok (H.give [0, 1, 2] (by decide) rfl) hok' fun h' H' => ?_
  rw [hs1] at H' ⊢
  replace H := H.put [0, 1, 2] (by decide) rfl rfl H' rfl rfl
  clear H'
  have H : Hp hB [] h' (pgL p m q rest ⟨3, 3, 0, 2, [9223372036854775808, 0, 0], 0, false⟩ ++ [⟨o, true, T_uint64, [.int .u64 9223372036854775808]⟩]) := H
  refine ⟨_, rfl, ?_⟩
  refine bcase_false (by rfl) ?_
  refine pstripe_ok (H.give [0, 1, 2] (by decide) rfl) hok' fun h' H' => ?_
  rw [hs2] at H' ⊢
  replace H := H.put [0, 1, 2] (by decide) rfl rfl H' rfl rfl
  clear H'
  have H : Hp hB [] h' (pgL p m q rest ⟨3, 3, 0, 2, [9223372036854775808, 0, 0], 2, false⟩ ++ [⟨o, true, T_uint64, [.int .u64 9223372036854775808]⟩]) := H
  refine ⟨_, rfl, ?_⟩
  refine bcase_false (by rfl) ?_
  refine pnext_ok (m := m) (g := ⟨3, 3, 0, 2, [9223372036854775808, 0, 0], 2, false⟩) H 0 rfl ?_
  refine ⟨_, rfl, ?_⟩
  refine bcase_false (by rfl) ?_
  have hok2 : PgOk ⟨3, 3, 0, 2, [9223372036854775808, 0, 0], 2, false⟩ := by have := stripeG_ok hok' 1; rw [hs2] at this; exact this
  refine pstripe_ok (H.give [0, 1, 2] (by decide) rfl) hok2 fun h' H' => ?_
  rw [hs3] at H' ⊢
  replace H := H.put [0, 1, 2] (by decide) rfl rfl H' rfl rfl
  clear H'
  have H : Hp hB [] h' (pgL p m q rest ⟨3, 3, 0, 2, [9223372036854775808, 0, 0], 3, false⟩ ++ [⟨o, true, T_uint64, [.int .u64 9223372036854775808]⟩]) := H
  refine ⟨_, rfl, ?_⟩
  refine bcase_false (by rfl) ?_
  have hok3 : PgOk ⟨3, 3, 0, 2, [9223372036854775808, 0, 0], 3, false⟩ := by have := stripeG_ok hok2 2; rw [hs3] at this; exact this
  refine pend_ok (g := ⟨3, 3, 0, 2, [9223372036854775808, 0, 0], 3, false⟩) (H.give [0, 1, 2] (by decide) rfl) hok3 fun e w b bs g' D qo c h' he hd H' => ?_
  have H := Go.Bm.Hp.backD H [0, 1, 2] (by decide) rfl rfl H' rfl hd.w rfl
  clear H'
  rcases he with ⟨a, _⟩ | ⟨_, rfl, rfl, rfl, rfl, rfl⟩
  · exact absurd a (by simp)
  refine ⟨_, _, _, _, _, _, rfl, ?_⟩
  have H : Hp hB [] h' (pgL p m q rest ⟨3, 3, 0, 2, [9223372036854775808, 0, 0], 3, true⟩ ++ [⟨o, true, T_uint64, [.int .u64 9223372036854775808]⟩] ++ D) := H
  refine newC_hp H fun r h H => ?_
  have H := H.rot
  try simp only [ptr_some_eq, add_mk, Nat.zero_add, Nat.add_zero]
  refine stV_hp H 0 rfl (by first | exact Nat.le_of_ble_eq_true rfl | simp) rfl fun h hsz H => ?_
  refine stV_hp H 0 rfl (by first | exact Nat.le_of_ble_eq_true rfl | simp) rfl fun h hsz H => ?_
  refine stV_hp H 0 rfl (by first | exact Nat.le_of_ble_eq_true rfl | simp) rfl fun h hsz H => ?_
  refine bcase_true (by rfl) ?_
  refine ldI_of (H.cell 0 rfl rfl) ?_
  refine ldI_of (H.cell 0 rfl rfl) ?_
  refine ldS_of (H.cell 0 rfl rfl) ?_
  refine newC_hp H fun r2 h H => ?_
  have H := H.rot
  have H : Hp hB [] h ([⟨r2, true, T_uint64, [.int .u64 9223372036854775808, .int .u64 0, .int .u64 0]⟩] ++ ([⟨r, true, T_api_Bitmap, [.int .i64 ((3 : Nat) : Int), .int .i64 ((3 : Nat) : Int), .slice qo 3 c]⟩] ++ (pgL p m q rest ⟨3, 3, 0, 2, [9223372036854775808, 0, 0], 3, true⟩ ++ [⟨o, true, T_uint64, [.int .u64 9223372036854775808]⟩] ++ D))) := H
  have h1 := row_rdO H 0 (xs := [9223372036854775808, 0, 0]) (rest := []) rfl
  have h2 := Slot.rdO' hd H fun e he => List.mem_append_right _ (List.mem_append_right _ (List.mem_append_right _ he))
  refine eqB_ok (xs := [9223372036854775808, 0, 0]) (ys := [9223372036854775808, 0, 0]) h2 h1 (by decide) fun h' e => ?_
  refine ⟨_, rfl, ?_⟩
  have := hk h' (H.hext.trans e)
  simpa using this

end Go.Bm

/- PgD: a script of pages as it comes in as an argument: the law PageExact over it. -/
set_option linter.unusedVariables false
set_option linter.unusedSimpArgs false
namespace Go.Bm
open Go Go.Den Go.Den.YtfaclehehhgpcaaGreat

theorem list3 {α : Type} {l : List α} (h : l.length = 3) : ∃ a b c, l = [a, b, c] := by
  match l, h with
  | [a, b, c], _ => exact ⟨a, b, c, rfl⟩
theorem list4 {α : Type} {l : List α} (h : l.length = 4) : ∃ a b c d, l = [a, b, c, d] := by
  match l, h with
  | [a, b, c, d], _ => exact ⟨a, b, c, d, rfl⟩
noncomputable abbrev TP := Go.Proofs.Tryz.prog
theorem one_of {P : Program} {h : Heap} {t : TypeId} {cs : List Value} {o : Nat} {v : Value} (k : P.cellsOf t = 1) (H : WDx P h t ((cs.drop o).take (P.cellsOf t))) (hv : cs[o]? = some v) : WDx P h t [v] := by
  rw [k] at H
  have : (cs.drop o).take 1 = [v] := by
    have ho := (List.getElem?_eq_some_iff.1 hv).1
    rw [List.drop_eq_getElem_cons ho]
    have := (List.getElem?_eq_some_iff.1 hv).2
    simp [this]
  rw [this] at H
  exact H
theorem inI_of {n : Int} (h : IntKind.i64.min ≤ n ∧ n ≤ IntKind.i64.max) : InI n := by
  have h1 : IntKind.i64.min = -9223372036854775808 := by decide
  have h2 : IntKind.i64.max = 9223372036854775807 := by decide
  rw [h1, h2] at h
  unfold InI
  omega
theorem u64s_ints {l : List Int} (h : ∀ x ∈ l, IntKind.u64.min ≤ x ∧ x ≤ IntKind.u64.max) : (l.map fun x => (.int .u64 x : Value)) = u64s (l.map Int.toNat) ∧ W64 (l.map Int.toNat) := by
  have h1 : IntKind.u64.min = 0 := by decide
  have h2 : IntKind.u64.max = 18446744073709551615 := by decide
  rw [h1, h2] at h
  constructor
  · unfold u64s
    rw [List.map_map]
    refine List.map_congr_left fun x hx => ?_
    have := h x hx
    show Value.int .u64 x = .int .u64 ((x.toNat : Nat) : Int)
    rw [Int.toNat_of_nonneg this.1]
  · intro y hy
    obtain ⟨x, hx, rfl⟩ := List.mem_map.1 hy
    have := h x hx
    show x.toNat < 18446744073709551616
    omega
theorem k_int : TP.cellsOf T_int = 1 := by kernel_rfl
theorem k_s_uint64 : TP.cellsOf T_s_uint64 = 1 := by kernel_rfl
theorem wd_words {h : Heap} {cs : List Value} (H : WDx TP h T_s_uint64 cs) :
    ∃ q cap, ∃ ws : List Nat, cs = [.slice q ws.length cap] ∧ ws.length < 140737488351300 ∧ rdO h q (ws.length * 1) (u64s ws) ∧ W64 ws := by
  obtain ⟨q, cap, l, rfl, h1, h2, h3, h4, h5⟩ := wd_ints (k := .u64) Go.Proofs.Tryz.underlying34 Go.Proofs.Tryz.underlying85 (by kernel_rfl) H
  obtain ⟨e1, e2⟩ := u64s_ints h5
  have k1 : TP.bytesOf T_uint64 = 8 := by kernel_rfl
  rw [k1] at h2
  have hr : reachBytes = 140737488351232 := rfl
  rw [e1] at h4
  exact ⟨q, cap, l.map Int.toNat, by simp, by simp; omega, by simpa using h4, e2⟩
/-- A bitmap that comes in. -/
theorem wd_bitmap {h : Heap} {cs : List Value} (H : WDx TP h T_api_Bitmap cs) :
    ∃ w b q cap, ∃ ws : List Nat, cs = [.int .i64 w, .int .i64 b, .slice q ws.length cap] ∧ InI w ∧ InI b ∧ ws.length < 140737488351300 ∧ rdO h q (ws.length * 1) (u64s ws) ∧ W64 ws := by
  obtain ⟨hl, hf⟩ := wd_struct Go.Proofs.Tryz.underlying36 H
  have k : TP.cellsOf T_api_Bitmap = 3 := by kernel_rfl
  rw [k] at hl
  obtain ⟨a, b, c, rfl⟩ := list3 hl
  obtain ⟨w, ew, iw⟩ := wd_int Go.Proofs.Tryz.underlying3 (one_of k_int (hf 0 _ rfl) (v := a) rfl)
  obtain ⟨b', eb, ib⟩ := wd_int Go.Proofs.Tryz.underlying3 (one_of k_int (hf 1 _ rfl) (v := b) rfl)
  obtain ⟨q, cap, ws, e2, g1, g2, g3⟩ := wd_words (one_of k_s_uint64 (hf 2 _ rfl) (v := c) rfl)
  simp only [List.cons.injEq, and_true] at ew eb e2
  subst ew eb e2
  exact ⟨w, b', q, cap, ws, rfl, inI_of iw, inI_of ib, g1, g2, g3⟩
theorem wd_sheet {h : Heap} {cs : List Value} (H : WDx TP h T_api_Sheet cs) : ∃ w x d s : Int, cs = [.int .i64 w, .int .i64 x, .int .i64 d, .int .i64 s] ∧ InI w ∧ InI x ∧ InI d ∧ InI s := by
  obtain ⟨hl, hf⟩ := wd_struct Go.Proofs.Tryz.underlying32 H
  have k : TP.cellsOf T_api_Sheet = 4 := by kernel_rfl
  rw [k] at hl
  obtain ⟨a, b, c, d, rfl⟩ := list4 hl
  obtain ⟨w, e0, i0⟩ := wd_int Go.Proofs.Tryz.underlying3 (one_of k_int (hf 0 _ rfl) (v := a) rfl)
  obtain ⟨x, e1, i1⟩ := wd_int Go.Proofs.Tryz.underlying3 (one_of k_int (hf 1 _ rfl) (v := b) rfl)
  obtain ⟨y, e2, i2⟩ := wd_int Go.Proofs.Tryz.underlying3 (one_of k_int (hf 2 _ rfl) (v := c) rfl)
  obtain ⟨z, e3, i3⟩ := wd_int Go.Proofs.Tryz.underlying3 (one_of k_int (hf 3 _ rfl) (v := d) rfl)
  simp only [List.cons.injEq, and_true] at e0 e1 e2 e3
  subst e0 e1 e2 e3
  exact ⟨w, x, y, z, rfl, inI_of i0, inI_of i1, inI_of i2, inI_of i3⟩
end Go.Bm

/- PgF: what the laws PageLaid and PageStripes need besides. -/
set_option linter.unusedVariables false
set_option linter.unusedSimpArgs false
namespace Go.Bm
open Go Go.Den Go.Den.YtfaclehehhgpcaaGreat

theorem pix_of_may {W X : Nat} {ws : List Nat} (h : MayP (W : Int) (X : Int) ws) {x y : Nat} (hy : y < X) (h1 : W ≤ x) (h2 : x < 64 * wds W) : pix ws (wds W) x y = false := by
  have h3 := h.2.2 y (by simpa using hy)
  simp only [Int.toNat_natCast] at h3
  rw [mod_zero_bits] at h3
  have hwd : wds W = (W + 63) / 64 := rfl
  unfold padn at h3
  have := h3 (63 - x % 64) (by omega)
  unfold pix
  rw [show x / 64 = wds W - 1 by omega]
  exact this
theorem may_len {W X : Nat} {ws : List Nat} (h : MayP (W : Int) (X : Int) ws) : ws.length = X * wds W := by simpa using h.2.1

end Go.Bm

/- RfE: refine.Put: the decisions of a bitmap, coded by the program. -/
set_option linter.unusedVariables false
set_option linter.unusedSimpArgs false
namespace Go.Bm
open Go Go.Den Go.Den.YtfaclehehhgpcaaGreat
open Go.Ar (Cod putM idx)

def stepP (m : Nat) (base : Int) (s : Cod) (n : Nat) (bit : Bool) : (Bool × Cod) ⊕ (Int × Cod) := .inl (bit, putM s (idx (base + (n : Int)) m) bit.toNat)
/-- What refine.Put answers. -/
def ShiftP (dx dy : Int) : Prop := (-1048576 ≤ dx ∧ dx ≤ 1048576) ∧ -1048576 ≤ dy ∧ dy ≤ 1048576
end Go.Bm

/- RfF: the document's side of refinement: the context of a pixel; a bitmap's decisions, coded. -/
set_option linter.unusedVariables false
set_option linter.unusedSimpArgs false
namespace Go.Bm
open Go Go.Den Go.Den.YtfaclehehhgpcaaGreat
-- (nothing of Go.Ar opened)

end Go.Bm

/- RfG: burinref8.Put. -/
set_option linter.unusedVariables false
set_option linter.unusedSimpArgs false
namespace Go.Bm
open Go Go.Den Go.Den.YtfaclehehhgpcaaGreat
-- (nothing of Go.Ar opened)

theorem upd_self (G : Int → Int → Bool) (a b : Int) : upd G a b (G a b) = G := by
  funext x y
  unfold upd
  by_cases h : x = a ∧ y = b
  · rw [if_pos h, h.1, h.2]
  · rw [if_neg h]

end Go.Bm

/- RfH: refine.Encode and burinref8.Encode answer alike. -/
set_option linter.unusedVariables false
set_option linter.unusedSimpArgs false
namespace Go.Bm
open Go Go.Den Go.Den.YtfaclehehhgpcaaGreat
open Go.Ar (CodOk newC flushM bytesM)

/-- What Encode answers. -/
def EncR (w b w2 b2 : Int) (ws ws2 : List Nat) (dx dy : Int) (e : Int) (bs : List Nat) : Prop :=
  ¬ (MayP w b ws ∧ MayP w2 b2 ws2) ∧ e = 62 ∧ bs = [] ∨
  (MayP w b ws ∧ MayP w2 b2 ws2) ∧ ¬ ShiftP dx dy ∧ e = 70 ∧ bs = [] ∨
  (MayP w b ws ∧ MayP w2 b2 ws2) ∧ ShiftP dx dy ∧ e = 0 ∧ ∃ G s', runN w.toNat (getP ws2 w2.toNat b2.toNat) dx dy (stepP 8192 0) (b.toNat * w.toNat) (getP ws w.toNat b.toNat, newC 8192) = .inl (G, s') ∧ CodOk 8192 (b.toNat * w.toNat) s' ∧ bs = bytesM (flushM s')
section
variable {hB : Heap} {w b w2 b2 : Int} {q1 q2 : Option Addr} {c1 c2 : Nat} {ws ws2 : List Nat} {dx dy : Int} {K : Value → Heap → Prop} {Kp : List PanicEntry → Heap → Prop}
end
end Go.Bm

/- RfI: refine.Get's decider: bits out of the decoder. -/
set_option linter.unusedVariables false
set_option linter.unusedSimpArgs false
namespace Go.Bm
open Go Go.Den Go.Den.YtfaclehehhgpcaaGreat
open Go.Ar (Dec decL idx BOk)

def stepG (m : Nat) (base : Int) (s : Dec) (n : Nat) (_ : Bool) : (Bool × Dec) ⊕ (Int × Dec) := .inl (decide ((Go.Ar.getD s (idx (base + (n : Int)) m)).2 = 1), (Go.Ar.getD s (idx (base + (n : Int)) m)).1)
def SG (p q rc rb : Nat) (base : Int) (e : Ent) (bp : Option Addr) (bc : Nat) (s : Dec) (M : List Ent) : Prop := BOk e bp s.b ∧ M = decL p q e bp bc s ++ [⟨rc, true, T_p_arith_Decoder, [.pointer (at0 p)]⟩, ⟨rb, true, T_int, [.int .i64 base]⟩]
theorem SG.w {p q rc rb : Nat} {base : Int} {e : Ent} {bp : Option Addr} {bc : Nat} {s : Dec} {M : List Ent} (h : SG p q rc rb base e bp bc s M) : M.all Ent.w = true := by
  obtain ⟨h1, rfl⟩ := h
  simp [decL, Go.Ar.decE, h1.1]

end Go.Bm

/- RfJ: refine.Get. -/
set_option linter.unusedVariables false
set_option linter.unusedSimpArgs false
namespace Go.Bm
open Go Go.Den Go.Den.YtfaclehehhgpcaaGreat
-- (nothing of Go.Ar opened)

theorem getP_zero (n W X : Nat) : getP (List.replicate n 0) W X = fun _ _ => false := by
  funext x y
  unfold getP
  rw [pix_zero, Bool.and_false]

end Go.Bm

/- RfK: refine.Decode. -/
set_option linter.unusedVariables false
set_option linter.unusedSimpArgs false
namespace Go.Bm
open Go Go.Den Go.Den.YtfaclehehhgpcaaGreat
-- (nothing of Go.Ar opened)

end Go.Bm

/- BkA: what the decoder reads is what the coder wrote: the interval of a code, plain numbers. No Go, no memory. -/
set_option linter.unusedVariables false
set_option linter.unusedSimpArgs false
namespace Go.Ar

/-! ### a code's value -/
/-- Of bytes, the last one first: a byte behind a 255 has seven bits of its own. -/
def valR : List Nat → Nat
  | [] => 0
  | x :: r => valR r * (if r.head? = some 255 then 128 else 256) + x
def valL (l : List Nat) : Nat := valR l.reverse
theorem valL_snoc (l : List Nat) (x : Nat) : valL (l ++ [x]) = valL l * (if l.getLast? = some 255 then 128 else 256) + x := by
  unfold valL
  rw [List.reverse_append, List.reverse_singleton, List.singleton_append, valR, List.head?_reverse]

/-! ### the whole code, ones behind it -/
section
variable (E : List Nat)
def fE (k : Nat) : Nat := E.getD k 255
def lenE (k : Nat) : Nat := if k < E.length ∧ fE E (k - 1) = 255 then 7 else 8
def XE : Nat → Nat
  | 0 => fE E 0
  | k + 1 => XE k * 2 ^ lenE E (k + 1) + fE E (k + 1)
def BE : Nat → Nat
  | 0 => 0
  | k + 1 => BE k + lenE E (k + 1)
end

theorem lenE_le (E : List Nat) (k : Nat) : lenE E k ≤ 8 ∧ 7 ≤ lenE E k := by unfold lenE; split <;> omega
theorem BE_mono (E : List Nat) {j k : Nat} (h : j ≤ k) : BE E j ≤ BE E k := by
  induction k with
  | zero => have : j = 0 := by omega
            subst this; exact Nat.le_refl _
  | succ k ih =>
    rcases Nat.lt_or_ge k j with h1 | h1
    · have : j = k + 1 := by omega
      subst this; exact Nat.le_refl _
    · exact Nat.le_trans (ih h1) (Nat.le_add_right _ _)
/-- A code's beginnings only grow. -/
theorem XE_mono (E : List Nat) {j k : Nat} (h : j ≤ k) : XE E j * 2 ^ BE E k ≤ XE E k * 2 ^ BE E j := by
  induction k with
  | zero => have : j = 0 := by omega
            subst this; exact Nat.le_refl _
  | succ k ih =>
    rcases Nat.lt_or_ge k j with h1 | h1
    · have : j = k + 1 := by omega
      subst this; exact Nat.le_refl _
    · have h2 := ih h1
      show XE E j * 2 ^ (BE E k + lenE E (k + 1)) ≤ (XE E k * 2 ^ lenE E (k + 1) + fE E (k + 1)) * 2 ^ BE E j
      rw [Nat.pow_add, ← Nat.mul_assoc, Nat.add_mul]
      have h3 := Nat.mul_le_mul_right (2 ^ lenE E (k + 1)) h2
      have e : XE E k * 2 ^ BE E j * 2 ^ lenE E (k + 1) = XE E k * 2 ^ lenE E (k + 1) * 2 ^ BE E j := Nat.mul_right_comm _ _ _
      omega
/-- Behind the end: ones. -/
theorem XE_end (E : List Nat) {m : Nat} (hm : m + 1 = E.length) : ∀ d, XE E (m + d) + 1 = (XE E m + 1) * 2 ^ (8 * d) ∧ BE E (m + d) = BE E m + 8 * d
  | 0 => by simp
  | d + 1 => by
    obtain ⟨h1, h2⟩ := XE_end E hm d
    have hl : lenE E (m + d + 1) = 8 := by unfold lenE; rw [if_neg (by omega)]
    have hf : fE E (m + d + 1) = 255 := by unfold fE; rw [List.getD_eq_getElem?_getD, List.getElem?_eq_none (by omega)]; rfl
    constructor
    · show XE E (m + d) * 2 ^ lenE E (m + d + 1) + fE E (m + d + 1) + 1 = _
      rw [hl, hf, show 8 * (d + 1) = 8 * d + 8 by omega, Nat.pow_add, ← Nat.mul_assoc, ← h1]
      omega
    · show BE E (m + d) + lenE E (m + d + 1) = _
      rw [hl, h2]; omega
theorem valL_XE (E : List Nat) : ∀ (p : List Nat) (x : Nat), p.length < E.length → (∀ j v, p[j]? = some v → fE E j = v) → valL (p ++ [x]) + fE E p.length = XE E p.length + x := by
  intro p
  have key : ∀ (n : Nat) (p : List Nat) (x : Nat), p.length = n → p.length < E.length → (∀ j v, p[j]? = some v → fE E j = v) → valL (p ++ [x]) + fE E p.length = XE E p.length + x := by
    intro n
    induction n with
    | zero =>
      intro p x hn hl hp
      have : p = [] := List.length_eq_zero_iff.1 hn
      subst this
      rw [valL_snoc]
      show valL [] * _ + x + fE E 0 = fE E 0 + x
      simp [valL, valR]; omega
    | succ n ih =>
      intro p x hn hl hp
      obtain ⟨q, y, rfl⟩ : ∃ q y, p = q ++ [y] := by
        rcases List.eq_nil_or_concat p with rfl | ⟨q, y, rfl⟩
        · simp at hn
        · exact ⟨q, y, by simp⟩
      have hq : q.length = n := by simp at hn; exact hn
      have hy : fE E q.length = y := hp q.length y (by simp)
      have h1 := ih q y hq (by omega) (fun j v hv => hp j v (by rw [List.getElem?_append_left (List.getElem?_eq_some_iff.1 hv).1]; exact hv))
      have h2 : valL (q ++ [y]) = XE E q.length := by omega
      rw [valL_snoc, h2, hn]
      have hlen : (if (q ++ [y]).getLast? = some 255 then 128 else 256) = 2 ^ lenE E (n + 1) := by
        unfold lenE
        rw [List.getLast?_concat, Nat.add_sub_cancel, ← hq, hy]
        by_cases h3 : y = 255
        · rw [if_pos (by rw [h3]), if_pos ⟨by rw [hn] at hl; omega, h3⟩]
        · rw [if_neg (by simpa using h3), if_neg (by simp [h3])]
      rw [hlen, ← hq]
      show _ = XE E q.length * 2 ^ lenE E (q.length + 1) + fE E (q.length + 1) + x
      omega
  exact fun x => key p.length p x rfl

/-! ### a coder's interval, and the code that becomes of it -/
def lowC (s : Cod) : Nat := valL (s.bs ++ [s.l]) * 2 ^ (27 - s.t) + s.c

/-- The code 'E' may become of a coder whose interval is 'A' wide. -/
structure Fut (E : List Nat) (s : Cod) (A : Nat) : Prop where
  len : s.bs.length < E.length
  pre : ∀ j v, s.bs[j]? = some v → fE E j = v
  last : fE E s.bs.length = s.l ∨ fE E s.bs.length = s.l + 1 ∧ s.l ≠ 255
  lo : ∀ k, s.bs.length < k → lowC s * 2 ^ BE E k < (XE E k + 1) * 2 ^ (BE E s.bs.length + (27 - s.t))
  hi : ∀ k, XE E k * 2 ^ (BE E s.bs.length + (27 - s.t)) < (lowC s + A) * 2 ^ BE E k

/-- A part of the interval. -/
theorem Fut.part {E : List Nat} {s : Cod} {A a' c' n' : Nat} {st' : List Nat} {d' : Bool} (h : Fut E { s with a := a', c := c', n := n', st := st', done := d' } A) {A0 : Nat} (h1 : s.c ≤ c') (h2 : c' + A ≤ s.c + A0) : Fut E s A0 := by
  have hl : lowC { s with a := a', c := c', n := n', st := st', done := d' } = lowC s + (c' - s.c) := by
    show valL (s.bs ++ [s.l]) * 2 ^ (27 - s.t) + c' = valL (s.bs ++ [s.l]) * 2 ^ (27 - s.t) + s.c + (c' - s.c)
    omega
  refine ⟨h.len, h.pre, h.last, fun k hk => ?_, fun k => ?_⟩
  · have := h.lo k hk
    rw [hl, Nat.add_mul] at this
    exact Nat.lt_of_le_of_lt (Nat.le_add_right _ _) this
  · have := h.hi k
    rw [hl] at this
    exact Nat.lt_of_lt_of_le this (Nat.mul_le_mul_right _ (by omega))
/-- The interval seen nearer. -/
theorem Fut.near {E : List Nat} {s : Cod} {A j a' : Nat} (h : Fut E { s with a := a', c := s.c * 2 ^ j, t := s.t - j } (A * 2 ^ j)) (hj : j ≤ s.t) (ht : s.t ≤ 27) : Fut E s A := by
  have hl : lowC { s with a := a', c := s.c * 2 ^ j, t := s.t - j } = lowC s * 2 ^ j := by
    show valL (s.bs ++ [s.l]) * 2 ^ (27 - (s.t - j)) + s.c * 2 ^ j = (valL (s.bs ++ [s.l]) * 2 ^ (27 - s.t) + s.c) * 2 ^ j
    rw [Nat.add_mul, Nat.mul_assoc, ← Nat.pow_add]
    congr 3; omega
  have he : BE E s.bs.length + (27 - (s.t - j)) = BE E s.bs.length + (27 - s.t) + j := by omega
  have hp : 0 < 2 ^ j := Nat.two_pow_pos j
  refine ⟨h.len, h.pre, h.last, fun k hk => ?_, fun k => ?_⟩
  · have h1 : _ < (XE E k + 1) * 2 ^ (BE E s.bs.length + (27 - (s.t - j))) := h.lo k hk
    rw [hl, he, Nat.pow_add _ _ j, ← Nat.mul_assoc, Nat.mul_right_comm] at h1
    exact Nat.lt_of_mul_lt_mul_right h1
  · have h1 : XE E k * 2 ^ (BE E s.bs.length + (27 - (s.t - j))) < _ := h.hi k
    rw [hl, he, Nat.pow_add _ _ j, ← Nat.mul_assoc, ← Nat.add_mul, Nat.mul_right_comm (lowC s + A)] at h1
    exact Nat.lt_of_mul_lt_mul_right h1
theorem outTail_low (s : Cod) (l c : Nat) (hc : c < 2 ^ 28) (hc2 : l ≠ 255 → c < 2 ^ 27) : lowC (outTail s l c) = valL (s.bs ++ [l]) * 2 ^ 27 + c := by
  unfold outTail lowC
  split
  · rename_i h
    show valL ((s.bs ++ [l]) ++ [c / 1048576 % 256]) * 2 ^ (27 - 7) + c % 1048576 = _
    rw [valL_snoc, List.getLast?_concat, if_pos (by rw [h])]
    generalize valL (s.bs ++ [l]) = v
    omega
  · rename_i h
    have := hc2 h
    show valL ((s.bs ++ [l]) ++ [c / 524288 % 256]) * 2 ^ (27 - 8) + c % 524288 = _
    rw [valL_snoc, List.getLast?_concat, if_neg (by simpa using h)]
    generalize valL (s.bs ++ [l]) = v
    omega
theorem Fut.tail {E : List Nat} {s : Cod} {A l c : Nat} (h : Fut E (outTail s l c) A) (hc : c < 2 ^ 28) (hc2 : l ≠ 255 → c < 2 ^ 27) (ht : s.t = 0) (hl : l = s.l ∧ c = s.c ∨ l = s.l + 1 ∧ s.l ≠ 255 ∧ c + 2 ^ 27 = s.c) : Fut E s A := by
  have hlow : lowC (outTail s l c) = lowC s := by
    rw [outTail_low s l c hc hc2]
    unfold lowC
    rw [ht, valL_snoc, valL_snoc]
    rcases hl with ⟨rfl, rfl⟩ | ⟨rfl, _, h2⟩
    · rfl
    · generalize (valL s.bs * if s.bs.getLast? = some 255 then 128 else 256) = v
      omega
  have hbs : (outTail s l c).bs = s.bs ++ [l] := by unfold outTail; split <;> rfl
  have hpre := h.pre
  have hlen := h.len
  rw [hbs] at hpre hlen
  have hfl : fE E s.bs.length = l := hpre s.bs.length l (by simp)
  have hlen' : s.bs.length + 1 < E.length := by simpa using hlen
  have hB : BE E (s.bs.length + 1) + (27 - (outTail s l c).t) = BE E s.bs.length + 27 := by
    show BE E s.bs.length + lenE E (s.bs.length + 1) + _ = _
    have : lenE E (s.bs.length + 1) + (27 - (outTail s l c).t) = 27 := by
      unfold lenE outTail
      rw [Nat.add_sub_cancel, hfl]
      by_cases h3 : l = 255
      · simp only [if_pos h3]; rw [if_pos ⟨hlen', h3⟩]
      · simp only [if_neg h3]; rw [if_neg (by simp [h3])]
    omega
  have hsl : (outTail s l c).bs.length = s.bs.length + 1 := by rw [hbs]; simp
  have hlo := h.lo
  have hhi := h.hi
  rw [hsl, hB, hlow] at hlo hhi
  refine ⟨by omega, fun j v hv => hpre j v (by rw [List.getElem?_append_left (List.getElem?_eq_some_iff.1 hv).1]; exact hv), ?_, fun k hk => ?_, fun k => ?_⟩
  · rw [hfl]
    rcases hl with ⟨rfl, rfl⟩ | ⟨rfl, h1, _⟩
    · exact .inl rfl
    · exact .inr ⟨rfl, h1⟩
  · rw [ht]
    rcases Nat.lt_or_ge (s.bs.length + 1) k with h1 | h1
    · exact hlo k h1
    · have hk : k = s.bs.length + 1 := by omega
      subst hk
      rw [← hlow, Nat.sub_zero, ← hB, Nat.pow_add, ← Nat.mul_assoc, Nat.mul_right_comm]
      refine Nat.mul_lt_mul_of_pos_right ?_ (Nat.two_pow_pos _)
      have hX := valL_XE E (s.bs ++ [l]) (outTail s l c).l (by simpa using hlen') hpre
      have hle : (outTail s l c).l ≤ fE E (s.bs.length + 1) := by
        have := h.last
        rw [hsl] at this
        omega
      rw [List.length_append, List.length_singleton] at hX
      have hcl : (outTail s l c).c < 2 ^ (27 - (outTail s l c).t) := by
        unfold outTail
        split
        · exact Nat.mod_lt _ (by decide)
        · exact Nat.mod_lt _ (by decide)
      unfold lowC
      rw [hbs]
      have h4 : valL (s.bs ++ [l] ++ [(outTail s l c).l]) ≤ XE E (s.bs.length + 1) := by omega
      have h5 := Nat.mul_le_mul_right (2 ^ (27 - (outTail s l c).t)) h4
      rw [Nat.add_mul]
      omega
  · rw [ht]; exact hhi k
theorem Fut.out {E : List Nat} {s : Cod} {A : Nat} (h : Fut E (outM s) A) (ht : s.t = 0) (hc : s.c < 2 ^ 28) : Fut E s A := by
  unfold outM at h
  split at h
  · rename_i h1
    refine h.tail (by omega) (fun _ => by omega) ht (.inr ⟨rfl, h1.1, by omega⟩)
  · rename_i h1
    exact h.tail hc (fun h2 => by
      rcases Nat.lt_or_ge s.c 134217728 with h3 | h3
      · exact h3
      · exact absurd ⟨h2, h3⟩ h1) ht (.inl ⟨rfl, rfl⟩)

end Go.Ar

/- BkB: coder and decoder in step: what is decoded are the decisions; no byte above 8f behind an ff. No Go, no memory. -/
set_option linter.unusedVariables false
set_option linter.unusedSimpArgs false
namespace Go.Ar

theorem outM_t (s : Cod) (t : Nat) : outM { s with t := t } = outM s := rfl
theorem outM_ct (s : Cod) : (outM s).c = s.c % 2 ^ (27 - (outM s).t) ∧ ((outM s).t = 7 ∨ (outM s).t = 8) := by
  unfold outM outTail
  split
  · split
    · refine ⟨?_, .inl rfl⟩; show s.c % 134217728 % 1048576 = s.c % 1048576; omega
    · refine ⟨?_, .inr rfl⟩; show s.c % 134217728 % 524288 = s.c % 524288; omega
  · split
    · exact ⟨rfl, .inl rfl⟩
    · exact ⟨rfl, .inr rfl⟩

theorem Fut.shift {E : List Nat} {s : Cod} {A : Nat} (h : Fut E (shiftM s) (2 * A)) (ht : 1 ≤ s.t) (ht2 : s.t ≤ 12) (hc : s.c < 2 ^ (28 - s.t)) : Fut E s A := by
  have key : Fut E { s with a := 2 * s.a, c := s.c * 2 ^ 1, t := s.t - 1 } (A * 2 ^ 1) := by
    rw [Nat.pow_one, Nat.mul_comm s.c 2, Nat.mul_comm A 2]
    unfold shiftM at h
    simp only [] at h
    split at h
    · rename_i h1
      have h1 : s.t - 1 = 0 := h1
      have : s.t = 1 := by omega
      rw [this] at hc
      exact h.out h1 (by show 2 * s.c < 2 ^ 28; omega)
    · exact h
  exact key.near ht (by omega)

theorem Fut.renew {E : List Nat} : ∀ (k : Nat) {s : Cod}, Mid s → s.a < 0x8000 → 0x8000 ≤ s.a * 2 ^ k → Fut E (renewM k s) (renewM k s).a → Fut E s s.a
  | 0, s, h, ha, hk, _ => by simp at hk; omega
  | k + 1, s, h, ha, hk, hF => by
    obtain ⟨h1, h2, h3, h4, h5, h6⟩ := shiftM_mid h ha
    have hc := h.ca
    unfold renewM at hF
    simp only [] at hF
    split at hF
    · rw [h2] at hF
      exact hF.shift h.t1 h.t12 (by omega)
    · rename_i hlt
      have hk' : 0x8000 ≤ (shiftM s).a * 2 ^ k := by
        rw [h2]
        rw [Nat.pow_succ] at hk
        have : s.a * (2 ^ k * 2) = 2 * s.a * 2 ^ k := by rw [Nat.mul_comm (2 ^ k) 2, ← Nat.mul_assoc, Nat.mul_comm s.a 2]
        omega
      have := Fut.renew k h1 (by omega) hk' hF
      rw [h2] at this
      exact this.shift h.t1 h.t12 (by omega)

/-- The code that Flush makes. -/
def codeE (s : Cod) : List Nat := s.bs ++ [s.l]
theorem flushC_mod (s : Cod) : 32768 ∣ flushC s + 1 := by
  unfold flushC
  simp only []
  split <;> omega
theorem fut_flush {s : Cod} (hs : Wf s) : Fut (codeE (flushM s)) s s.a := by
  have hca := hs.ca
  have ht1 := hs.t1
  have ht2 := hs.t12
  have hlo := hs.lo
  have hhi := hs.hi
  have hf1 : s.c ≤ flushC s ∧ flushC s + 1 ≤ s.c + s.a := by
    unfold flushC
    simp only []
    split <;> omega
  have hmod := flushC_mod s
  generalize hcf : flushC s = cf at hf1 hmod
  -- the states
  have hF : flushM s = flushS (flushS { s with c := cf, done := true }) := by unfold flushM; rw [hcf]
  generalize hS0 : ({ s with c := cf, done := true } : Cod) = S0 at hF
  have hS0t : S0.t = s.t := by rw [← hS0]
  have hS0c : S0.c = cf := by rw [← hS0]
  have hS1 : flushS S0 = outM { S0 with c := S0.c * 2 ^ S0.t, t := S0.t - S0.t } := (outM_t { S0 with c := S0.c * 2 ^ S0.t } _).symm
  generalize hG1 : flushS S0 = S1 at hF hS1
  have hS2 : flushM s = outM { S1 with c := S1.c * 2 ^ S1.t, t := S1.t - S1.t } := hF.trans (outM_t { S1 with c := S1.c * 2 ^ S1.t } _).symm
  generalize hG2 : flushM s = F at hS2
  obtain ⟨hc1, ht1'⟩ := outM_ct { S0 with c := S0.c * 2 ^ S0.t, t := S0.t - S0.t }
  obtain ⟨hc2, ht2'⟩ := outM_ct { S1 with c := S1.c * 2 ^ S1.t, t := S1.t - S1.t }
  rw [← hS1] at hc1 ht1'
  rw [← hS2] at hc2 ht2'
  have hc1 : S1.c = cf * 2 ^ s.t % 2 ^ (27 - S1.t) := by rw [hc1, ← hS0c, ← hS0t]
  have hc2 : F.c = S1.c * 2 ^ S1.t % 2 ^ (27 - F.t) := hc2
  -- the last interval
  have hdv : 2 ^ (27 - F.t) ≤ F.c + 2 ^ (s.t + S1.t) := by
    have e1 : F.c = cf * 2 ^ (s.t + S1.t) % 2 ^ (27 - F.t) := by
      rw [hc2, hc1, ← Nat.mul_mod_mul_right, ← Nat.pow_add, Nat.mul_assoc, ← Nat.pow_add, Nat.mod_mod_of_dvd]
      exact Nat.pow_dvd_pow 2 (by omega)
    have e2 : (F.c + 2 ^ (s.t + S1.t)) % 2 ^ (27 - F.t) = 0 := by
      rw [e1, Nat.mod_add_mod, ← Nat.succ_mul]
      refine Nat.mod_eq_zero_of_dvd (Nat.dvd_trans (Nat.pow_dvd_pow 2 (show 27 - F.t ≤ 15 + (s.t + S1.t) by omega)) ?_)
      rw [Nat.pow_add]
      exact Nat.mul_dvd_mul_right hmod _
    have e3 := Nat.two_pow_pos (s.t + S1.t)
    exact Nat.le_of_dvd (by omega) (Nat.dvd_of_mod_eq_zero e2)
  have hclt : F.c < 2 ^ (27 - F.t) := by rw [hc2]; exact Nat.mod_lt _ (Nat.two_pow_pos _)
  have hEl : F.bs.length + 1 = (codeE F).length := by simp [codeE]
  have hpre : ∀ j v, F.bs[j]? = some v → fE (codeE F) j = v := fun j v hj => by
    unfold fE codeE
    rw [List.getD_eq_getElem?_getD, List.getElem?_append_left (List.getElem?_eq_some_iff.1 hj).1, hj]; rfl
  have hlast : fE (codeE F) F.bs.length = F.l := by
    unfold fE codeE
    rw [List.getD_eq_getElem?_getD]; simp
  have hX : valL (F.bs ++ [F.l]) = XE (codeE F) F.bs.length := by
    have := valL_XE (codeE F) F.bs F.l (by omega) hpre
    rw [hlast] at this
    omega
  have hlow : lowC F = XE (codeE F) F.bs.length * 2 ^ (27 - F.t) + F.c := by unfold lowC; rw [hX]
  have fF : Fut (codeE F) F (2 ^ (s.t + S1.t)) := by
    refine ⟨by omega, hpre, .inl hlast, fun k hk => ?_, fun k => ?_⟩
    · obtain ⟨d, rfl⟩ : ∃ d, k = F.bs.length + d := ⟨k - F.bs.length, by omega⟩
      obtain ⟨h1, h2⟩ := XE_end (codeE F) hEl d
      rw [h1, h2, hlow, Nat.pow_add, Nat.pow_add]
      have h3 : XE (codeE F) F.bs.length * 2 ^ (27 - F.t) + F.c < (XE (codeE F) F.bs.length + 1) * 2 ^ (27 - F.t) := by rw [Nat.add_mul]; omega
      have h4 := Nat.mul_lt_mul_of_pos_right h3 (show 0 < 2 ^ BE (codeE F) F.bs.length * 2 ^ (8 * d) from Nat.mul_pos (Nat.two_pow_pos _) (Nat.two_pow_pos _))
      have e : (XE (codeE F) F.bs.length + 1) * 2 ^ (8 * d) * (2 ^ BE (codeE F) F.bs.length * 2 ^ (27 - F.t)) = (XE (codeE F) F.bs.length + 1) * 2 ^ (27 - F.t) * (2 ^ BE (codeE F) F.bs.length * 2 ^ (8 * d)) := by
        simp only [Nat.mul_assoc, Nat.mul_comm, Nat.mul_left_comm]
      rw [e]
      exact h4
    · rcases Nat.lt_or_ge k F.bs.length with hk | hk
      · have h1 := XE_mono (codeE F) (Nat.le_of_lt hk)
        have h2 := Nat.mul_le_mul_right (2 ^ (27 - F.t)) h1
        rw [hlow, Nat.pow_add, ← Nat.mul_assoc]
        refine Nat.lt_of_le_of_lt h2 ?_
        rw [Nat.mul_right_comm]
        refine Nat.mul_lt_mul_of_pos_right ?_ (Nat.two_pow_pos _)
        have := Nat.two_pow_pos (s.t + S1.t)
        omega
      · obtain ⟨d, rfl⟩ : ∃ d, k = F.bs.length + d := ⟨k - F.bs.length, by omega⟩
        obtain ⟨h1, h2⟩ := XE_end (codeE F) hEl d
        have h3 : XE (codeE F) (F.bs.length + d) < (XE (codeE F) F.bs.length + 1) * 2 ^ (8 * d) := by omega
        rw [h2, hlow]
        have h4 := Nat.mul_lt_mul_of_pos_right h3 (Nat.two_pow_pos (BE (codeE F) F.bs.length + (27 - F.t)))
        refine Nat.lt_of_lt_of_le h4 ?_
        have h5 : (XE (codeE F) F.bs.length + 1) * 2 ^ (27 - F.t) ≤ XE (codeE F) F.bs.length * 2 ^ (27 - F.t) + F.c + 2 ^ (s.t + S1.t) := by rw [Nat.add_mul]; omega
        have h6 := Nat.mul_le_mul_right (2 ^ (BE (codeE F) F.bs.length + 8 * d)) h5
        refine Nat.le_trans (Nat.le_of_eq ?_) h6
        rw [Nat.pow_add, Nat.pow_add]
        simp only [Nat.mul_assoc, Nat.mul_comm, Nat.mul_left_comm]
  -- backwards
  generalize codeE F = E at fF ⊢
  rw [hS2] at fF
  have hp1 : (2 : Nat) ^ (27 - S1.t) * 2 ^ S1.t = 2 ^ 27 := by rw [← Nat.pow_add]; congr 1; omega
  have hc1lt : S1.c < 2 ^ (27 - S1.t) := by rw [hc1]; exact Nat.mod_lt _ (Nat.two_pow_pos _)
  have f1 := fF.out (Nat.sub_self _) (by
    show S1.c * 2 ^ S1.t < 2 ^ 28
    have := Nat.mul_lt_mul_of_pos_right hc1lt (Nat.two_pow_pos S1.t)
    omega)
  rw [Nat.pow_add] at f1
  have f2 : Fut E S1 (2 ^ s.t) := f1.near (a' := S1.a) (Nat.le_refl _) (by omega)
  rw [hS1] at f2
  have f3 := f2.out (Nat.sub_self _) (by
    show S0.c * 2 ^ S0.t < 2 ^ 28
    rw [hS0c, hS0t]
    have h1 : cf < 2 ^ (28 - s.t) := by omega
    have h2 := Nat.mul_lt_mul_of_pos_right h1 (Nat.two_pow_pos s.t)
    have h3 : (2 : Nat) ^ (28 - s.t) * 2 ^ s.t = 2 ^ 28 := by rw [← Nat.pow_add]; congr 1; omega
    omega)
  rw [← hS0t] at f3
  have f3' : Fut E { S0 with c := S0.c * 2 ^ S0.t, t := S0.t - S0.t } (1 * 2 ^ S0.t) := by rw [Nat.one_mul]; exact f3
  have f4 : Fut E S0 1 := f3'.near (a' := S0.a) (Nat.le_refl _) (by omega)
  rw [← hS0] at f4
  exact Fut.part (s := s) (a' := s.a) (n' := s.n) (st' := s.st) f4 hf1.1 hf1.2

end Go.Ar

/- BkC: coder and decoder in step: what is decoded are the decisions. No Go, no memory. -/
set_option linter.unusedVariables false
set_option linter.unusedSimpArgs false
namespace Go.Ar

/-- Where a decoder stands in the code 'E', of which it has 'k' bytes. -/
structure Pos (E : List Nat) (d : Dec) (k : Nat) : Prop where
  by_ : ∀ j, byteD d j = fE E (j + 1)
  at_ : k = d.i + 1 ∨ d.i + 1 ≤ k ∧ E.length ≤ d.i + 2 ∧ fE E (d.i + 1) = 255
/-- No byte above 8f stands behind an ff. -/
def Stuffed (E : List Nat) : Prop := ∀ j, fE E j = 255 → j + 1 < E.length → fE E (j + 1) ≤ 143
theorem fE_end (E : List Nat) {k : Nat} (h : E.length ≤ k) : fE E k = 255 := by unfold fE; rw [List.getD_eq_getElem?_getD, List.getElem?_eq_none h]; rfl

/-- A byte comes in. -/
theorem inD_pos {E : List Nat} {d : Dec} {k : Nat} (hE : Stuffed E) (h : Pos E d k) :
    Pos E (inD d) (k + 1) ∧ (inD d).t = lenE E (k + 1) ∧ (inD d).c = (d.c + fE E (k + 1) * 2 ^ (16 - lenE E (k + 1))) % M32 := by
  have hb0 := h.by_ d.i
  have hb1 := h.by_ (d.i + 1)
  have hb : ∀ d' : Dec, d'.b = d.b → ∀ j, byteD d' j = fE E (j + 1) := fun d' e j => by rw [← h.by_ j]; unfold byteD; rw [e]
  unfold inD
  split
  · rename_i h1
    rw [hb0] at h1
    have hlt : d.i + 1 < E.length := by
      rcases Nat.lt_or_ge (d.i + 1) E.length with h2 | h2
      · exact h2
      · exact absurd (fE_end E h2) h1
    have hk : k = d.i + 1 := by
      rcases h.at_ with h2 | ⟨_, h2, h3⟩
      · exact h2
      · exact absurd h3 h1
    have hl : lenE E (k + 1) = 8 := by
      unfold lenE
      rw [Nat.add_sub_cancel, if_neg]
      rintro ⟨_, h3⟩
      rw [hk] at h3
      exact h1 h3
    refine ⟨⟨hb _ rfl, .inl (by rw [hk])⟩, by rw [hl], ?_⟩
    rw [hb1, hl, hk]
  · rename_i h1
    rw [hb0] at h1
    have h1 : fE E (d.i + 1) = 255 := by simpa using h1
    split
    · rename_i h2
      rw [hb1] at h2
      have hge : E.length ≤ d.i + 2 := by
        rcases Nat.lt_or_ge (d.i + 1 + 1) E.length with h3 | h3
        · have := hE _ h1 h3; omega
        · exact h3
      have hkge : d.i + 1 ≤ k := by rcases h.at_ with h3 | ⟨h3, _⟩ <;> omega
      have hl : lenE E (k + 1) = 8 := by unfold lenE; rw [if_neg (by omega)]
      have hf : fE E (k + 1) = 255 := fE_end E (by omega)
      exact ⟨⟨hb _ rfl, .inr ⟨by show d.i + 1 ≤ k + 1; omega, hge, h1⟩⟩, by rw [hl], by rw [hl, hf]⟩
    · rename_i h2
      rw [hb1] at h2
      have hlt : d.i + 2 < E.length := by
        rcases Nat.lt_or_ge (d.i + 2) E.length with h3 | h3
        · exact h3
        · have := fE_end E h3
          rw [show d.i + 1 + 1 = d.i + 2 from rfl] at h2
          omega
      have hk : k = d.i + 1 := by
        rcases h.at_ with h3 | ⟨_, h3, _⟩
        · exact h3
        · omega
      have hl : lenE E (k + 1) = 7 := by
        unfold lenE
        rw [Nat.add_sub_cancel, if_pos ⟨by omega, by rw [hk]; exact h1⟩]
      refine ⟨⟨hb _ rfl, .inl (by rw [hk])⟩, by rw [hl], ?_⟩
      rw [hb1, hl, hk]

/-- The decoder's number: what it has of the code, above the coder's lower end. -/
structure Num (E : List Nat) (s : Cod) (d : Dec) (k : Nat) : Prop extends Pos E d k where
  pos : BE E k = BE E s.bs.length + (27 - s.t) + d.t
  num : d.c + lowC s * 65536 = XE E k * 2 ^ (16 - d.t)
structure Sync (E : List Nat) (s : Cod) (d : Dec) : Prop where
  a : d.a = s.a
  st : d.st = s.st
  n : d.n = s.n
  num : ∃ k, Num E s d k

section
variable {E : List Nat} {s : Cod} {d : Dec} {k A t : Nat}
theorem XE_split (x : Nat) (h : t ≤ 16) : x * 2 ^ (16 - t) * 2 ^ t = x * 65536 := by
  rw [Nat.mul_assoc, ← Nat.pow_add]
  congr 1
  have : 16 - t + t = 16 := by omega
  rw [this]
/-- The number lies in the interval. -/
theorem Fut.lt (h : Fut E s A) (hp : BE E k = BE E s.bs.length + (27 - s.t) + t) (ht : t ≤ 16) : XE E k * 2 ^ (16 - t) < (lowC s + A) * 65536 := by
  have h1 := h.hi k
  rw [hp, Nat.pow_add _ _ t, ← Nat.mul_assoc, Nat.mul_right_comm (lowC s + A)] at h1
  have h2 : XE E k < (lowC s + A) * 2 ^ t := Nat.lt_of_mul_lt_mul_right h1
  refine Nat.lt_of_mul_lt_mul_right (a := 2 ^ t) ?_
  rw [XE_split _ ht, Nat.mul_right_comm]
  exact Nat.mul_lt_mul_of_pos_right h2 (by decide)
theorem Fut.ge (h : Fut E s A) (hp : BE E k = BE E s.bs.length + (27 - s.t) + t) (ht : t ≤ 16) (hk : s.bs.length < k) : lowC s * 65536 ≤ XE E k * 2 ^ (16 - t) := by
  have h1 := h.lo k hk
  rw [hp, Nat.pow_add _ _ t, ← Nat.mul_assoc, Nat.mul_right_comm] at h1
  have h2 : lowC s * 2 ^ t < XE E k + 1 := Nat.lt_of_mul_lt_mul_right h1
  refine Nat.le_of_mul_le_mul_right (c := 2 ^ t) ?_ (Nat.two_pow_pos t)
  rw [XE_split _ ht, Nat.mul_right_comm]
  exact Nat.mul_le_mul_right _ (by omega)
theorem ahead (hp : BE E k = BE E s.bs.length + (27 - s.t) + t) (ht : s.t ≤ 12) : s.bs.length < k := by
  rcases Nat.lt_or_ge s.bs.length k with h1 | h1
  · exact h1
  · have := BE_mono E h1; omega

theorem shiftM_pos (h : Fut E (shiftM s) A) (ht1 : 1 ≤ s.t) (ht2 : s.t ≤ 12) (hc : s.c < 2 ^ (28 - s.t)) : lowC (shiftM s) = 2 * lowC s ∧ BE E (shiftM s).bs.length + (27 - (shiftM s).t) = BE E s.bs.length + (27 - s.t) + 1 := by
  have e0 : lowC { s with a := 2 * s.a, c := 2 * s.c, t := s.t - 1 } = 2 * lowC s := by
    show valL (s.bs ++ [s.l]) * 2 ^ (27 - (s.t - 1)) + 2 * s.c = 2 * (valL (s.bs ++ [s.l]) * 2 ^ (27 - s.t) + s.c)
    rw [show 27 - (s.t - 1) = (27 - s.t) + 1 by omega, Nat.pow_succ, ← Nat.mul_assoc]
    omega
  unfold shiftM at h ⊢
  simp only [] at h ⊢
  split
  · rename_i h1
    rw [if_pos h1] at h
    have h1 : s.t - 1 = 0 := h1
    have ht : s.t = 1 := by omega
    rw [ht] at hc
    have tail : ∀ {l c : Nat}, Fut E (outTail { s with a := 2 * s.a, c := 2 * s.c, t := s.t - 1 } l c) A → c < 2 ^ 28 → (l ≠ 255 → c < 2 ^ 27) → (l = s.l ∧ c = 2 * s.c ∨ l = s.l + 1 ∧ s.l ≠ 255 ∧ c + 2 ^ 27 = 2 * s.c) →
        lowC (outTail { s with a := 2 * s.a, c := 2 * s.c, t := s.t - 1 } l c) = 2 * lowC s ∧ BE E (outTail { s with a := 2 * s.a, c := 2 * s.c, t := s.t - 1 } l c).bs.length + (27 - (outTail { s with a := 2 * s.a, c := 2 * s.c, t := s.t - 1 } l c).t) = BE E s.bs.length + (27 - s.t) + 1 := by
      intro l c hF hc hc2 hl
      constructor
      · rw [outTail_low _ l c hc hc2, ← e0]
        unfold lowC
        show valL (s.bs ++ [l]) * 2 ^ 27 + c = valL (s.bs ++ [s.l]) * 2 ^ (27 - (s.t - 1)) + 2 * s.c
        rw [h1, valL_snoc, valL_snoc]
        rcases hl with ⟨rfl, rfl⟩ | ⟨rfl, _, h2⟩
        · rfl
        · generalize (valL s.bs * if s.bs.getLast? = some 255 then 128 else 256) = v
          omega
      · have hbs : (outTail { s with a := 2 * s.a, c := 2 * s.c, t := s.t - 1 } l c).bs = s.bs ++ [l] := by unfold outTail; split <;> rfl
        have hpre := hF.pre
        have hlen := hF.len
        rw [hbs] at hpre hlen
        have hfl : fE E s.bs.length = l := hpre s.bs.length l (by simp)
        have hlen' : s.bs.length + 1 < E.length := by simpa using hlen
        rw [hbs, List.length_append, List.length_singleton]
        show BE E s.bs.length + lenE E (s.bs.length + 1) + _ = _
        have : lenE E (s.bs.length + 1) + (27 - (outTail { s with a := 2 * s.a, c := 2 * s.c, t := s.t - 1 } l c).t) = 27 := by
          unfold lenE outTail
          rw [Nat.add_sub_cancel, hfl]
          by_cases h3 : l = 255
          · simp only [if_pos h3]; rw [if_pos ⟨hlen', h3⟩]
          · simp only [if_neg h3]; rw [if_neg (by simp [h3])]
        omega
    unfold outM at h ⊢
    split
    · rename_i h2
      rw [if_pos h2] at h
      exact tail h (by show 2 * s.c % 134217728 < _; omega) (fun _ => by show 2 * s.c % 134217728 < _; omega) (.inr ⟨rfl, h2.1, by
        have : 134217728 ≤ 2 * s.c := h2.2
        show 2 * s.c % 134217728 + _ = _
        omega⟩)
    · rename_i h2
      rw [if_neg h2] at h
      exact tail h (by show 2 * s.c < _; omega) (fun h3 => by
        rcases Nat.lt_or_ge (2 * s.c) 134217728 with h4 | h4
        · exact h4
        · exact absurd ⟨h3, h4⟩ h2) (.inl ⟨rfl, rfl⟩)
  · exact ⟨e0, by show BE E s.bs.length + (27 - (s.t - 1)) = _; omega⟩

/-- One doubling. -/
theorem sync_shift (hE : Stuffed E) (hm : Mid s) (hd : MidD d) (S : Sync E s d) (ha : s.a < 0x8000) (F : Fut E (shiftM s) (shiftM s).a) : Sync E (shiftM s) (shiftD d) := by
  obtain ⟨hm1, hma, hmn, hmst, _, _⟩ := shiftM_mid hm ha
  have hc := hm.ca
  rw [hma] at F
  have hF : Fut E s s.a := F.shift hm.t1 hm.t12 (by omega)
  obtain ⟨p1, p2⟩ := shiftM_pos F hm.t1 hm.t12 (by omega)
  obtain ⟨k, hN⟩ := S.num
  have key : ∃ (k : Nat) (d1 : Dec), (if d.t = 0 then inD d else d) = d1 ∧ Num E s d1 k ∧ 1 ≤ d1.t ∧ d1.t ≤ 8 ∧ d1.a = d.a ∧ d1.st = d.st ∧ d1.n = d.n := by
    by_cases h0 : d.t = 0
    · obtain ⟨q1, q2, q3⟩ := inD_pos hE hN.toPos
      obtain ⟨i1, i2, i3, i4, i5, i6⟩ := inD_mid hd
      obtain ⟨l1, l2⟩ := lenE_le E (k + 1)
      rw [if_pos h0]
      have hpos : BE E (k + 1) = BE E s.bs.length + (27 - s.t) + lenE E (k + 1) := by
        have := hN.pos
        show BE E k + lenE E (k + 1) = _
        omega
      have hlt := hF.lt hpos (by omega)
      have e1 : XE E (k + 1) * 2 ^ (16 - lenE E (k + 1)) = XE E k * 65536 + fE E (k + 1) * 2 ^ (16 - lenE E (k + 1)) := by
        show (XE E k * 2 ^ lenE E (k + 1) + fE E (k + 1)) * _ = _
        rw [Nat.add_mul, ← XE_split (t := lenE E (k + 1)) (XE E k) (by omega), Nat.mul_right_comm]
      have e2 := hN.num
      rw [h0, Nat.sub_zero] at e2
      have hcl : (inD d).c + lowC s * 65536 = XE E (k + 1) * 2 ^ (16 - lenE E (k + 1)) := by
        rw [q3, Nat.mod_eq_of_lt]
        · omega
        · show _ < 4294967296
          rw [Nat.add_mul] at hlt
          have e3 : XE E k * 2 ^ 16 = XE E k * 65536 := rfl
          omega
      exact ⟨k + 1, _, rfl, ⟨q1, by rw [q2]; exact hpos, by rw [q2]; exact hcl⟩, by omega, by omega, i2, i4, i3⟩
    · rw [if_neg h0]
      exact ⟨k, d, rfl, hN, by omega, hd.t8, rfl, rfl, rfl⟩
  obtain ⟨k1, d1, hd1, hN1, t1, t8, ea, est, en⟩ := key
  have hlt := hF.lt hN1.pos (by omega)
  rw [← hN1.num] at hlt
  rw [Nat.add_mul] at hlt
  have hsd : shiftD d = { d1 with a := 2 * d1.a, c := 2 * d1.c % M32, t := d1.t - 1 } := by rw [← hd1]; rfl
  rw [hsd]
  have hc2 : 2 * d1.c % M32 = 2 * d1.c := Nat.mod_eq_of_lt (by show 2 * d1.c < 4294967296; omega)
  rw [hc2]
  refine ⟨by show 2 * d1.a = _; rw [hma, ea, S.a], by show d1.st = _; rw [hmst, est, S.st], by show d1.n = _; rw [hmn, en, S.n], k1, ⟨⟨hN1.by_, hN1.at_⟩, ?_, ?_⟩⟩
  · show BE E k1 = _ + (d1.t - 1)
    have := hN1.pos
    omega
  · show 2 * d1.c + lowC (shiftM s) * 65536 = XE E k1 * 2 ^ (16 - (d1.t - 1))
    have := hN1.num
    rw [p1, show 16 - (d1.t - 1) = (16 - d1.t) + 1 by omega, Nat.pow_succ, ← Nat.mul_assoc]
    omega
end

theorem sync_renew {E : List Nat} (hE : Stuffed E) : ∀ (k : Nat) {s : Cod} {d : Dec}, Mid s → MidD d → Sync E s d → s.a < 0x8000 → 0x8000 ≤ s.a * 2 ^ k → Fut E (renewM k s) (renewM k s).a → Sync E (renewM k s) (renewD k d)
  | 0, s, d, h, _, _, ha, hk, _ => by simp at hk; omega
  | k + 1, s, d, h, hd, S, ha, hk, hF => by
    obtain ⟨h1, h2, h3, h4, h5, h6⟩ := shiftM_mid h ha
    obtain ⟨g1, g2, g3, g4, g5⟩ := shiftD_mid hd
    have ea : (shiftD d).a = (shiftM s).a := by rw [g2, h2, S.a]
    unfold renewM at hF ⊢
    unfold renewD
    simp only [] at hF ⊢
    rw [ea]
    by_cases hge : 0x8000 ≤ (shiftM s).a
    · rw [if_pos hge] at hF ⊢
      rw [if_pos hge]
      exact sync_shift hE h hd S ha hF
    · rw [if_neg hge] at hF ⊢
      rw [if_neg hge]
      have hk' : 0x8000 ≤ (shiftM s).a * 2 ^ k := by
        rw [h2]
        rw [Nat.pow_succ] at hk
        have : s.a * (2 ^ k * 2) = 2 * s.a * 2 ^ k := by rw [Nat.mul_comm (2 ^ k) 2, ← Nat.mul_assoc, Nat.mul_comm s.a 2]
        omega
      exact sync_renew hE k h1 g1 (sync_shift hE h hd S ha (Fut.renew k h1 (by omega) hk' hF)) (by omega) hk' hF

/-- One decision. -/
theorem sync_put {E : List Nat} (hE : Stuffed E) {s : Cod} {d : Dec} (hs : Wf s) (hd : WfD d) (S : Sync E s d) {k bit : Nat} (hb : bit ≤ 1) (hF : Fut E (putM s k bit) (putM s k bit).a) :
    Sync E (putM s k bit) (getD d k).1 ∧ (getD d k).2 = bit ∧ Fut E s s.a := by
  have hx := getD_lt hs.st k
  have hr : s.st.getD k 0 / 2 < 47 := by omega
  have hq1 := qOf_pos hr
  have hq2 := qOf_le hr
  have hM := set_lt hs.st (k := k) (upM_lt hx)
  have hL := set_lt hs.st (k := k) (upL_lt hx)
  have hlo := hs.lo
  have hhi := hs.hi
  have hca := hs.ca
  have ht1 := hs.t1
  have ht2 := hs.t12
  have hdc := hd.c
  have h17 : (2 : Nat) ^ 17 = 131072 := rfl
  obtain ⟨kk, hN⟩ := S.num
  have hdt := hd.t8
  -- the lower part, the upper part
  have up : ∀ {a' n' : Nat} {st' : List Nat}, Fut E { s with a := a', c := s.c + qOf (s.st.getD k 0 / 2), n := n', st := st' } (s.a - qOf (s.st.getD k 0 / 2)) → ¬ d.c / 65536 < qOf (s.st.getD k 0 / 2) ∧ Fut E s s.a := by
    intro a' n' st' h
    have hl : lowC { s with a := a', c := s.c + qOf (s.st.getD k 0 / 2), n := n', st := st' } = lowC s + qOf (s.st.getD k 0 / 2) := (Nat.add_assoc _ _ _).symm
    have h1 := h.ge (k := kk) (t := d.t) hN.pos (by omega) (ahead (s := s) hN.pos ht2)
    rw [hl, ← hN.num, Nat.add_mul] at h1
    refine ⟨by omega, Fut.part (s := s) (d' := s.done) h (by omega) (by omega)⟩
  have lw : ∀ {a' n' : Nat} {st' : List Nat}, Fut E { s with a := a', n := n', st := st' } (qOf (s.st.getD k 0 / 2)) → d.c / 65536 < qOf (s.st.getD k 0 / 2) ∧ Fut E s s.a := by
    intro a' n' st' h
    have h1 := h.lt (k := kk) (t := d.t) hN.pos (by omega)
    rw [← hN.num] at h1
    have hl : lowC { s with a := a', n := n', st := st' } = lowC s := rfl
    rw [hl, Nat.add_mul] at h1
    refine ⟨by omega, Fut.part (s := s) (c' := s.c) (d' := s.done) h (by omega) (by omega)⟩
  have hbit : s.st.getD k 0 % 2 < 2 := Nat.mod_lt _ (by omega)
  -- the numbers behind a step
  have nup : ¬ d.c / 65536 < qOf (s.st.getD k 0 / 2) → ∀ {a' n' : Nat} {st' : List Nat}, Sync E { s with a := a', c := s.c + qOf (s.st.getD k 0 / 2), n := n', st := st' } { d with a := a', c := d.c - qOf (s.st.getD k 0 / 2) * 65536, n := n', st := st' } := by
    intro h a' n' st'
    refine ⟨rfl, rfl, rfl, kk, ⟨hN.by_, hN.at_⟩, hN.pos, ?_⟩
    have := hN.num
    have hl : lowC { s with a := a', c := s.c + qOf (s.st.getD k 0 / 2), n := n', st := st' } = lowC s + qOf (s.st.getD k 0 / 2) := (Nat.add_assoc _ _ _).symm
    show d.c - qOf (s.st.getD k 0 / 2) * 65536 + lowC { s with a := a', c := s.c + qOf (s.st.getD k 0 / 2), n := n', st := st' } * 65536 = XE E kk * 2 ^ (16 - d.t)
    rw [hl, Nat.add_mul]
    omega
  have nlw : ∀ {a' n' : Nat} {st' : List Nat}, Sync E { s with a := a', n := n', st := st' } { d with a := a', n := n', st := st' } := by
    intro a' n' st'
    exact ⟨rfl, rfl, rfl, kk, ⟨hN.by_, hN.at_⟩, hN.pos, hN.num⟩
  have hget : getD d k = (if d.c / 65536 < qOf (s.st.getD k 0 / 2) then
    if s.a - qOf (s.st.getD k 0 / 2) < qOf (s.st.getD k 0 / 2) then (renewD 17 { d with a := qOf (s.st.getD k 0 / 2), n := s.n + 1, st := s.st.set k (upM (s.st.getD k 0)) }, s.st.getD k 0 % 2)
    else (renewD 17 { d with a := qOf (s.st.getD k 0 / 2), n := s.n + 1, st := s.st.set k (upL (s.st.getD k 0)) }, 1 - s.st.getD k 0 % 2)
  else
    if 0x8000 ≤ s.a - qOf (s.st.getD k 0 / 2) then ({ d with a := s.a - qOf (s.st.getD k 0 / 2), c := d.c - qOf (s.st.getD k 0 / 2) * 65536, n := s.n + 1, st := s.st }, s.st.getD k 0 % 2)
    else if s.a - qOf (s.st.getD k 0 / 2) < qOf (s.st.getD k 0 / 2) then (renewD 17 { d with a := s.a - qOf (s.st.getD k 0 / 2), c := d.c - qOf (s.st.getD k 0 / 2) * 65536, n := s.n + 1, st := s.st.set k (upL (s.st.getD k 0)) }, 1 - s.st.getD k 0 % 2)
    else (renewD 17 { d with a := s.a - qOf (s.st.getD k 0 / 2), c := d.c - qOf (s.st.getD k 0 / 2) * 65536, n := s.n + 1, st := s.st.set k (upM (s.st.getD k 0)) }, s.st.getD k 0 % 2)) := by
    have e1 := S.a
    have e2 := S.st
    have e3 := S.n
    obtain ⟨da, dc, dt, dn, dst, db, di⟩ := d
    simp only at e1 e2 e3
    subst e1 e2 e3
    rfl
  have hdm : ∀ {a' c' n' : Nat} {st' : List Nat}, c' ≤ d.c → (∀ x ∈ st', x < 94) → MidD { d with a := a', c := c', n := n', st := st' } := fun hc hst => ⟨hd.t8, Nat.lt_of_le_of_lt hc hdc, hd.b, hst, hd.i⟩
  rw [hget]
  unfold putM at hF ⊢
  simp only [] at hF ⊢
  generalize s.st.getD k 0 = x at *
  generalize qOf (x / 2) = q at *
  have mlw : ∀ {n' : Nat} {st' : List Nat}, (∀ x ∈ st', x < 94) → Mid { s with a := q, n := n', st := st' } := fun hst => ⟨ht1, ht2, by show s.c + q < 2 ^ (28 - s.t); omega, hs.l, hs.bs, hst⟩
  have mup : ∀ {n' : Nat} {st' : List Nat}, (∀ x ∈ st', x < 94) → Mid { s with a := s.a - q, c := s.c + q, n := n', st := st' } := fun hst => ⟨ht1, ht2, by show s.c + q + (s.a - q) < 2 ^ (28 - s.t); omega, hs.l, hs.bs, hst⟩
  have flw : ∀ {n' : Nat} {st' : List Nat}, (∀ x ∈ st', x < 94) → Fut E (renewM 17 { s with a := q, n := n', st := st' }) (renewM 17 { s with a := q, n := n', st := st' }).a →
      d.c / 65536 < q ∧ Fut E s s.a ∧ Sync E (renewM 17 { s with a := q, n := n', st := st' }) (renewD 17 { d with a := q, n := n', st := st' }) := by
    intro n' st' hst h
    have h0 := Fut.renew 17 (mlw (n' := n') hst) (by show q < _; omega) (by show _ ≤ q * _; omega) h
    obtain ⟨h1, h2⟩ := lw h0
    exact ⟨h1, h2, sync_renew hE 17 (mlw hst) (hdm (Nat.le_refl _) hst) nlw (by show q < _; omega) (by show _ ≤ q * _; omega) h⟩
  have fup : ∀ {n' : Nat} {st' : List Nat}, s.a - q < 0x8000 → 1 ≤ s.a - q → (∀ x ∈ st', x < 94) → Fut E (renewM 17 { s with a := s.a - q, c := s.c + q, n := n', st := st' }) (renewM 17 { s with a := s.a - q, c := s.c + q, n := n', st := st' }).a →
      ¬ d.c / 65536 < q ∧ Fut E s s.a ∧ Sync E (renewM 17 { s with a := s.a - q, c := s.c + q, n := n', st := st' }) (renewD 17 { d with a := s.a - q, c := d.c - q * 65536, n := n', st := st' }) := by
    intro n' st' h3 h4 hst h
    have h0 := Fut.renew 17 (mup (n' := n') hst) h3 (by show _ ≤ (s.a - q) * _; omega) h
    obtain ⟨h1, h2⟩ := up h0
    exact ⟨h1, h2, sync_renew hE 17 (mup hst) (hdm (Nat.sub_le _ _) hst) (nup h1) h3 (by show _ ≤ (s.a - q) * _; omega) h⟩
  by_cases hbx : bit = x % 2
  · rw [if_pos hbx] at hF ⊢
    by_cases h8 : 0x8000 ≤ s.a - q
    · rw [if_pos h8] at hF ⊢
      obtain ⟨h1, h2⟩ := up (a' := s.a - q) (n' := s.n + 1) (st' := s.st) hF
      rw [if_neg h1, if_pos h8]
      exact ⟨nup h1, hbx.symm, h2⟩
    · rw [if_neg h8] at hF ⊢
      by_cases hq : s.a - q < q
      · rw [if_pos hq] at hF ⊢
        obtain ⟨h1, h2, h3⟩ := flw hM hF
        rw [if_pos h1, if_pos hq]
        exact ⟨h3, hbx.symm, h2⟩
      · rw [if_neg hq] at hF ⊢
        obtain ⟨h1, h2, h3⟩ := fup (by omega) (by omega) hM hF
        rw [if_neg h1, if_neg h8, if_neg hq]
        exact ⟨h3, hbx.symm, h2⟩
  · rw [if_neg hbx] at hF ⊢
    by_cases hq : s.a - q < q
    · rw [if_pos hq] at hF ⊢
      obtain ⟨h1, h2, h3⟩ := fup (by omega) (by omega) hL hF
      rw [if_neg h1, if_neg (by omega), if_pos hq]
      exact ⟨h3, by show 1 - x % 2 = bit; omega, h2⟩
    · rw [if_neg hq] at hF ⊢
      obtain ⟨h1, h2, h3⟩ := flw hL hF
      rw [if_pos h1, if_neg hq]
      exact ⟨h3, by show 1 - x % 2 = bit; omega, h2⟩

end Go.Ar

/- BkD: no byte above 8f behind an ff; the whole run of a coder and the decoder of its bytes. No Go, no memory. -/
set_option linter.unusedVariables false
set_option linter.unusedSimpArgs false
namespace Go.Ar

structure Stf0 (s : Cod) (A : Nat) : Prop where
  bs : ∀ j, s.bs[j]? = some 255 → ∀ y, s.bs[j + 1]? = some y → y ≤ 143
  last : s.bs.getLast? = some 255 → s.l * 2 ^ (27 - s.t) + s.c + A ≤ 144 * 2 ^ (27 - s.t)
structure Stf (s : Cod) (A : Nat) : Prop extends Stf0 s A where
  ff : s.l = 255 → s.t ≤ 8 ∧ s.c + A ≤ 589824 * 2 ^ (8 - s.t)

section
variable {s : Cod} {A : Nat}
theorem Stf.part (h : Stf s A) {A' a' c' n' : Nat} {st' : List Nat} {d' : Bool} (hc : c' + A' ≤ s.c + A) : Stf { s with a := a', c := c', n := n', st := st', done := d' } A' := by
  refine ⟨⟨h.bs, fun hl => ?_⟩, fun hl => ?_⟩
  · have := h.last hl
    show s.l * 2 ^ (27 - s.t) + c' + A' ≤ 144 * 2 ^ (27 - s.t)
    omega
  · have := h.ff hl
    exact ⟨this.1, Nat.le_trans hc this.2⟩
theorem Stf.near (h : Stf s A) {j a' : Nat} (hj : j ≤ s.t) (ht : s.t ≤ 27) : Stf { s with a := a', c := s.c * 2 ^ j, t := s.t - j } (A * 2 ^ j) := by
  refine ⟨⟨h.bs, fun hl => ?_⟩, fun hl => ?_⟩
  · have h1 := Nat.mul_le_mul_right (2 ^ j) (h.last hl)
    show s.l * 2 ^ (27 - (s.t - j)) + s.c * 2 ^ j + A * 2 ^ j ≤ 144 * 2 ^ (27 - (s.t - j))
    have e : 27 - (s.t - j) = 27 - s.t + j := by omega
    rw [e, Nat.pow_add, ← Nat.mul_assoc, ← Nat.mul_assoc]
    rw [Nat.add_mul, Nat.add_mul] at h1
    exact h1
  · obtain ⟨h1, h2⟩ := h.ff hl
    have h3 := Nat.mul_le_mul_right (2 ^ j) h2
    refine ⟨by show s.t - j ≤ 8; omega, ?_⟩
    show s.c * 2 ^ j + A * 2 ^ j ≤ 589824 * 2 ^ (8 - (s.t - j))
    have e : 8 - (s.t - j) = 8 - s.t + j := by omega
    rw [e, Nat.pow_add, ← Nat.mul_assoc, ← Nat.add_mul]
    exact h3
theorem Stf.out (h : Stf s A) (ht : s.t = 0) (hc : s.c + A ≤ 2 ^ 28) (hA : 1 ≤ A) : Stf0 (outM s) A ∧ (A ≤ 65536 → Stf (outM s) A) := by
  have key : ∀ l c, (l = s.l ∧ c = s.c ∧ (l ≠ 255 → c < 2 ^ 27) ∨ l = s.l + 1 ∧ s.l ≠ 255 ∧ c + 2 ^ 27 = s.c) → Stf0 (outTail s l c) A ∧ (A ≤ 65536 → Stf (outTail s l c) A) := by
    intro l c hl
    have hbs : (outTail s l c).bs = s.bs ++ [l] := by unfold outTail; split <;> rfl
    have hchain : ∀ j, (s.bs ++ [l])[j]? = some 255 → ∀ y, (s.bs ++ [l])[j + 1]? = some y → y ≤ 143 := by
      intro j hj y hy
      have hlt := (List.getElem?_eq_some_iff.1 hy).1
      rw [List.length_append, List.length_singleton] at hlt
      rw [List.getElem?_append_left (by omega)] at hj
      rcases Nat.lt_or_ge (j + 1) s.bs.length with h1 | h1
      · rw [List.getElem?_append_left h1] at hy
        exact h.bs j hj y hy
      · have e : j + 1 = s.bs.length := by omega
        rw [e] at hy
        simp at hy
        subst hy
        have hg : s.bs.getLast? = some 255 := by rw [List.getLast?_eq_getElem?, ← e, Nat.add_sub_cancel]; exact hj
        have := h.last hg
        rw [ht] at this
        omega
    have hlast : (s.bs ++ [l]).getLast? = some 255 → l = 255 ∧ c + A ≤ 144 * 2 ^ 20 := by
      intro hg
      rw [List.getLast?_concat] at hg
      have hl2 : l = 255 := Option.some.inj hg
      refine ⟨hl2, ?_⟩
      rcases hl with ⟨h1, h2, _⟩ | ⟨h1, h2, h3⟩
      · have := (h.ff (by omega)).2
        rw [ht] at this
        omega
      · omega
    have hclt : c < 2 ^ 28 := by omega
    have h0 : Stf0 (outTail s l c) A := by
      refine ⟨by rw [hbs]; exact hchain, fun hg => ?_⟩
      rw [hbs] at hg
      obtain ⟨h1, h2⟩ := hlast hg
      unfold outTail
      rw [if_pos h1]
      show c / 1048576 % 256 * 2 ^ 20 + c % 1048576 + A ≤ 144 * 2 ^ 20
      omega
    refine ⟨h0, fun hA2 => ⟨h0, fun hl2 => ?_⟩⟩
    by_cases h3 : l = 255
    · have := h0.last (by rw [hbs, List.getLast?_concat, h3])
      rw [hl2] at this
      omega
    · unfold outTail
      rw [if_neg h3]
      refine ⟨Nat.le_refl _, ?_⟩
      show c % 524288 + A ≤ 589824
      omega
  unfold outM
  split
  · rename_i h1
    exact key _ _ (.inr ⟨rfl, h1.1, by omega⟩)
  · rename_i h1
    exact key _ _ (.inl ⟨rfl, rfl, fun h2 => by
      rcases Nat.lt_or_ge s.c 134217728 with h3 | h3
      · exact h3
      · exact absurd ⟨h2, h3⟩ h1⟩)

theorem stf_shift (h : Stf s s.a) (hm : Mid s) (ha : s.a < 0x8000) (ha1 : 1 ≤ s.a) : Stf (shiftM s) (shiftM s).a := by
  have ht1 := hm.t1
  have ht2 := hm.t12
  have hca := hm.ca
  have h1 := h.near (j := 1) (a' := 2 * s.a) ht1 (by omega)
  rw [Nat.pow_one, Nat.mul_comm s.c 2, Nat.mul_comm s.a 2] at h1
  unfold shiftM
  simp only []
  split
  · rename_i h0
    have h0 : s.t - 1 = 0 := h0
    have ht : s.t = 1 := by omega
    rw [ht] at hca
    rw [(outM_same _).1]
    exact (h1.out h0 (by show 2 * s.c + 2 * s.a ≤ _; omega) (by omega)).2 (by omega)
  · exact h1
theorem stf_renew : ∀ (k : Nat) {s : Cod}, Stf s s.a → Mid s → s.a < 0x8000 → 1 ≤ s.a → Stf (renewM k s) (renewM k s).a
  | 0, s, h, _, _, _ => h
  | k + 1, s, h, hm, ha, ha1 => by
    obtain ⟨g1, g2, _⟩ := shiftM_mid hm ha
    unfold renewM
    simp only []
    split
    · exact stf_shift h hm ha ha1
    · exact stf_renew k (stf_shift h hm ha ha1) g1 (by omega) (by omega)
theorem stf_put (h : Stf s s.a) (hs : Wf s) (k bit : Nat) : Stf (putM s k bit) (putM s k bit).a := by
  have hx := getD_lt hs.st k
  have hr : s.st.getD k 0 / 2 < 47 := by omega
  have hq1 := qOf_pos hr
  have hq2 := qOf_le hr
  have hM := set_lt hs.st (k := k) (upM_lt hx)
  have hL := set_lt hs.st (k := k) (upL_lt hx)
  have hlo := hs.lo
  have hhi := hs.hi
  have hca := hs.ca
  unfold putM
  simp only []
  generalize s.st.getD k 0 = x at *
  generalize qOf (x / 2) = q at *
  have lw : ∀ {n' : Nat} {st' : List Nat}, (∀ x ∈ st', x < 94) → Stf (renewM 17 { s with a := q, n := n', st := st' }) (renewM 17 { s with a := q, n := n', st := st' }).a := fun {n' st'} hst =>
    stf_renew 17 (h.part (c' := s.c) (A' := q) (d' := s.done) (by omega)) ⟨hs.t1, hs.t12, by show s.c + q < 2 ^ (28 - s.t); omega, hs.l, hs.bs, hst⟩ (by show q < _; omega) hq1
  have up : ∀ {n' : Nat} {st' : List Nat}, s.a - q < 0x8000 → 1 ≤ s.a - q → (∀ x ∈ st', x < 94) → Stf (renewM 17 { s with a := s.a - q, c := s.c + q, n := n', st := st' }) (renewM 17 { s with a := s.a - q, c := s.c + q, n := n', st := st' }).a := fun {n' st'} h1 h2 hst =>
    stf_renew 17 (h.part (c' := s.c + q) (A' := s.a - q) (d' := s.done) (by omega)) ⟨hs.t1, hs.t12, by show s.c + q + (s.a - q) < 2 ^ (28 - s.t); omega, hs.l, hs.bs, hst⟩ h1 h2
  split
  · split
    · exact h.part (a' := s.a - q) (c' := s.c + q) (A' := s.a - q) (n' := s.n + 1) (st' := s.st) (d' := s.done) (by omega)
    · split
      · exact lw hM
      · exact up (by omega) (by omega) hM
  · split
    · exact up (by omega) (by omega) hL
    · exact lw hL
theorem stf_new (m : Nat) : Stf (newC m) (newC m).a := ⟨⟨fun j hj => by simp [newC] at hj, fun hl => by simp [newC] at hl⟩, fun hl => by simp [newC] at hl⟩

theorem stf_flush (h : Stf s s.a) (hs : Wf s) : Stf0 (flushM s) 1 := by
  have hca := hs.ca
  have ht1 := hs.t1
  have ht2 := hs.t12
  have hlo := hs.lo
  have hf1 : s.c ≤ flushC s ∧ flushC s + 1 ≤ s.c + s.a := by
    unfold flushC
    simp only []
    split <;> omega
  have h0 : Stf { s with c := flushC s, done := true } 1 := h.part (a' := s.a) (n' := s.n) (st' := s.st) (by omega)
  have hS : flushM s = flushS (flushS { s with c := flushC s, done := true }) := rfl
  rw [hS]
  generalize hS0 : ({ s with c := flushC s, done := true } : Cod) = S0 at h0
  have hS0t : S0.t = s.t := by rw [← hS0]
  have hS0c : S0.c = flushC s := by rw [← hS0]
  have h1 := h0.near (j := S0.t) (a' := S0.a) (Nat.le_refl _) (by omega)
  have hp : (2 : Nat) ^ (28 - s.t) * 2 ^ s.t = 2 ^ 28 := by rw [← Nat.pow_add]; congr 1; omega
  have hp12 : (2 : Nat) ^ s.t ≤ 2 ^ 12 := Nat.pow_le_pow_right (by omega) ht2
  have h2 := (h1.out (Nat.sub_self _) (by
    show S0.c * 2 ^ S0.t + 1 * 2 ^ S0.t ≤ 2 ^ 28
    rw [← Nat.add_mul, hS0c, hS0t, ← hp]
    exact Nat.mul_le_mul_right _ (by omega)) (by have := Nat.two_pow_pos S0.t; omega)).2 (by rw [hS0t]; omega)
  have e1 : outM { S0 with c := S0.c * 2 ^ S0.t, t := S0.t - S0.t } = flushS S0 := outM_t { S0 with c := S0.c * 2 ^ S0.t } _
  rw [e1] at h2
  obtain ⟨hc1, ht1'⟩ := outM_ct { S0 with c := S0.c * 2 ^ S0.t, t := S0.t - S0.t }
  rw [e1] at hc1 ht1'
  generalize flushS S0 = S1 at *
  rw [hS0t, Nat.one_mul] at h2
  have h3 := h2.near (j := S1.t) (a' := S1.a) (Nat.le_refl _) (by omega)
  have hp1 : (2 : Nat) ^ (27 - S1.t) * 2 ^ S1.t = 2 ^ 27 := by rw [← Nat.pow_add]; congr 1; omega
  have hc1lt : S1.c < 2 ^ (27 - S1.t) := by rw [hc1]; exact Nat.mod_lt _ (Nat.two_pow_pos _)
  have hp8 : (2 : Nat) ^ S1.t ≤ 2 ^ 8 := Nat.pow_le_pow_right (by omega) (by omega)
  have hpp : 2 ^ s.t * 2 ^ S1.t ≤ 2 ^ 12 * 2 ^ 8 := Nat.mul_le_mul hp12 hp8
  have hpz : 0 < 2 ^ s.t * 2 ^ S1.t := Nat.mul_pos (Nat.two_pow_pos _) (Nat.two_pow_pos _)
  have h4 := (h3.out (Nat.sub_self _) (by
    show S1.c * 2 ^ S1.t + 2 ^ s.t * 2 ^ S1.t ≤ 2 ^ 28
    have := Nat.mul_lt_mul_of_pos_right hc1lt (Nat.two_pow_pos S1.t)
    omega) hpz).1
  have e2 : outM { S1 with c := S1.c * 2 ^ S1.t, t := S1.t - S1.t } = flushS S1 := outM_t { S1 with c := S1.c * 2 ^ S1.t } _
  rw [e2] at h4
  exact ⟨h4.bs, fun hl => by have := h4.last hl; omega⟩
end

theorem codeE_get {F : Cod} (j : Nat) (h : j < F.bs.length) : fE (codeE F) j = F.bs.getD j 0 ∧ F.bs[j]? = some (fE (codeE F) j) := by
  unfold fE codeE
  rw [List.getD_eq_getElem?_getD, List.getD_eq_getElem?_getD, List.getElem?_append_left h, List.getElem?_eq_getElem h]
  exact ⟨rfl, rfl⟩
theorem codeE_last {F : Cod} : fE (codeE F) F.bs.length = F.l := by
  unfold fE codeE
  rw [List.getD_eq_getElem?_getD]; simp
theorem codeE_len {F : Cod} : (codeE F).length = F.bs.length + 1 := by simp [codeE]
theorem Stf0.prev {F : Cod} (h : Stf0 F 1) (hl : F.bs.getLast? = some 255) : F.l ≤ 143 := by
  have h1 := h.last hl
  have h2 := Nat.two_pow_pos (27 - F.t)
  have h3 : F.l * 2 ^ (27 - F.t) < 144 * 2 ^ (27 - F.t) := by omega
  have := Nat.lt_of_mul_lt_mul_right h3
  omega
theorem Stf0.stuffed {F : Cod} (h : Stf0 F 1) : Stuffed (codeE F) := by
  intro j hj hlt
  rw [codeE_len] at hlt
  have hjl : j < F.bs.length := by omega
  have h1 := (codeE_get j hjl).2
  rw [hj] at h1
  rcases Nat.lt_or_ge (j + 1) F.bs.length with h2 | h2
  · exact h.bs j h1 _ (codeE_get (j + 1) h2).2
  · have e : j + 1 = F.bs.length := by omega
    rw [e, codeE_last]
    refine h.prev ?_
    rw [List.getLast?_eq_getElem?, ← e, Nat.add_sub_cancel]
    exact h1

/-- The bytes: the code without its first byte, and without an ff at its end. -/
theorem bytes_code {F : Cod} (j : Nat) : (bytesM F).getD j 255 = fE (codeE F) (j + 1) := by
  have hc : bytesM F = if F.l = 255 then ((codeE F).drop 1).dropLast else (codeE F).drop 1 := rfl
  have hd : ((codeE F).drop 1).getD j 255 = fE (codeE F) (j + 1) := by
    unfold fE
    rw [List.getD_eq_getElem?_getD, List.getD_eq_getElem?_getD, List.getElem?_drop, Nat.add_comm 1 j]
  rw [hc]
  split
  · rename_i hl
    have hlen := codeE_len (F := F)
    have hdl : ((codeE F).drop 1).length = F.bs.length := by rw [List.length_drop, hlen]; omega
    rcases Nat.lt_trichotomy (j + 1) F.bs.length with h1 | h1 | h1
    · rw [← hd, List.getD_eq_getElem?_getD, List.getD_eq_getElem?_getD, List.dropLast_eq_take, List.getElem?_take_of_lt (by omega)]
    · have e : fE (codeE F) (j + 1) = 255 := by rw [h1, codeE_last, hl]
      rw [e, List.getD_eq_getElem?_getD, List.getElem?_eq_none (by rw [List.length_dropLast]; omega)]
      rfl
    · rw [fE_end _ (by omega), List.getD_eq_getElem?_getD, List.getElem?_eq_none (by rw [List.length_dropLast]; omega)]
      rfl
  · exact hd
/-- Backwards over a decision. -/
theorem fut_put {E : List Nat} {s : Cod} (hs : Wf s) {k bit : Nat} (hF : Fut E (putM s k bit) (putM s k bit).a) : Fut E s s.a := by
  have hx := getD_lt hs.st k
  have hr : s.st.getD k 0 / 2 < 47 := by omega
  have hq1 := qOf_pos hr
  have hq2 := qOf_le hr
  have hM := set_lt hs.st (k := k) (upM_lt hx)
  have hL := set_lt hs.st (k := k) (upL_lt hx)
  have hlo := hs.lo
  have hhi := hs.hi
  have hca := hs.ca
  have h17 : (2 : Nat) ^ 17 = 131072 := rfl
  unfold putM at hF
  simp only [] at hF
  generalize s.st.getD k 0 = x at *
  generalize qOf (x / 2) = q at *
  have lw : ∀ {n' : Nat} {st' : List Nat}, (∀ x ∈ st', x < 94) → Fut E (renewM 17 { s with a := q, n := n', st := st' }) (renewM 17 { s with a := q, n := n', st := st' }).a → Fut E s s.a := fun {n' st'} hst h =>
    Fut.part (s := s) (c' := s.c) (d' := s.done) (Fut.renew 17 (s := { s with a := q, n := n', st := st' }) ⟨hs.t1, hs.t12, by show s.c + q < 2 ^ (28 - s.t); omega, hs.l, hs.bs, hst⟩ (by show q < _; omega) (by show _ ≤ q * _; omega) h) (by omega) (by show s.c + q ≤ _; omega)
  have up : ∀ {n' : Nat} {st' : List Nat}, s.a - q < 0x8000 → 1 ≤ s.a - q → (∀ x ∈ st', x < 94) → Fut E (renewM 17 { s with a := s.a - q, c := s.c + q, n := n', st := st' }) (renewM 17 { s with a := s.a - q, c := s.c + q, n := n', st := st' }).a → Fut E s s.a := fun {n' st'} h1 h2 hst h =>
    Fut.part (s := s) (d' := s.done) (Fut.renew 17 (s := { s with a := s.a - q, c := s.c + q, n := n', st := st' }) ⟨hs.t1, hs.t12, by show s.c + q + (s.a - q) < 2 ^ (28 - s.t); omega, hs.l, hs.bs, hst⟩ h1 (by show _ ≤ (s.a - q) * _; omega) h) (by omega) (by show s.c + q + (s.a - q) ≤ _; omega)
  split at hF
  · split at hF
    · exact Fut.part (s := s) (A := s.a - q) (d' := s.done) hF (by omega) (by omega)
    · split at hF
      · exact lw hM hF
      · exact up (by omega) (by omega) hM hF
  · split at hF
    · exact up (by omega) (by omega) hL hF
    · exact lw hL hF

/-- At the beginning. -/
theorem sync_new {E : List Nat} {m : Nat} {b : List Nat} (hE : Stuffed E) (hb : ∀ j, b.getD j 255 = fE E (j + 1)) (hlt : ∀ x ∈ b, x < 256) (hF : Fut E (newC m) (newC m).a) : Sync E (newC m) (newD b m) := by
  have hX0 : fE E 0 = 0 := by
    have := hF.hi 0
    have e : lowC (newC m) = 0 := by simp [lowC, newC, valL, valR]
    rw [e] at this
    have e2 : XE E 0 = fE E 0 := rfl
    rw [e2] at this
    simp [newC, BE] at this
    omega
  have hb0 : ∀ d : Dec, d.b = b → ∀ j, byteD d j = fE E (j + 1) := fun d e j => by unfold byteD; rw [e]; exact hb j
  have hl1 : lenE E 1 = 8 := by
    unfold lenE
    rw [if_neg]
    rintro ⟨_, h⟩
    rw [show 1 - 1 = 0 from rfl, hX0] at h
    omega
  have hX1 : XE E 1 = fE E 1 := by
    show XE E 0 * 2 ^ lenE E 1 + fE E 1 = _
    have : XE E 0 = 0 := hX0
    rw [this]; omega
  have hf1 : fE E 1 < 256 := by rw [← hb0 { a := 0, c := 0, t := 0, n := 0, st := [], b := b, i := 0 } rfl 0]; exact byteD_lt (s := { a := 0, c := 0, t := 0, n := 0, st := [], b := b, i := 0 }) hlt 0
  have hf2 : fE E 2 < 256 := by rw [← hb0 { a := 0, c := 0, t := 0, n := 0, st := [], b := b, i := 0 } rfl 1]; exact byteD_lt (s := { a := 0, c := 0, t := 0, n := 0, st := [], b := b, i := 0 }) hlt 1
  have hc0 : b.getD 0 255 = fE E 1 := hb 0
  generalize hd : ({ a := 0x8000, c := b.getD 0 255 * 65536, t := 0, n := 0, st := List.replicate m 0, b := b, i := 0 } : Dec) = d
  have hdc : d.c = fE E 1 * 65536 := by rw [← hd]; show b.getD 0 255 * 65536 = _; rw [hc0]
  have hP : Pos E d 1 := ⟨hb0 d (by rw [← hd]), .inl (by rw [← hd])⟩
  obtain ⟨q1, q2, q3⟩ := inD_pos hE hP
  have hnew : newD b m = { inD d with c := (inD d).c * 128 % M32, t := (inD d).t - 7 } := by rw [← hd]; rfl
  have hst : (inD d).a = 0x8000 ∧ (inD d).n = 0 ∧ (inD d).st = List.replicate m 0 := by
    rw [← hd]; unfold inD; split
    · exact ⟨rfl, rfl, rfl⟩
    · split <;> exact ⟨rfl, rfl, rfl⟩
  obtain ⟨l1, l2⟩ := lenE_le E 2
  have hXX : XE E 2 = fE E 1 * 2 ^ lenE E 2 + fE E 2 := by show XE E 1 * _ + _ = _; rw [hX1]
  have hBB : BE E 2 = 8 + lenE E 2 := by show 0 + lenE E 1 + lenE E 2 = _; rw [hl1]
  have q2 : (inD d).t = lenE E 2 := q2
  have q3 : (inD d).c = (d.c + fE E 2 * 2 ^ (16 - lenE E 2)) % M32 := q3
  rw [hnew]
  refine ⟨hst.1, hst.2.2, hst.2.1, 2, ⟨⟨q1.by_, q1.at_⟩, ?_, ?_⟩⟩
  · show BE E 2 = 0 + (27 - 12) + ((inD d).t - 7)
    omega
  · have e : lowC (newC m) = 0 := by simp [lowC, newC, valL, valR]
    show (inD d).c * 128 % M32 + lowC (newC m) * 65536 = XE E 2 * 2 ^ (16 - ((inD d).t - 7))
    have hM : M32 = 4294967296 := rfl
    rw [e, q3, q2, hXX, hdc, hM]
    rcases (show lenE E 2 = 7 ∨ lenE E 2 = 8 by omega) with h | h <;> rw [h] <;> simp only [show (16 - 7) = 9 from rfl, show 16 - 8 = 8 from rfl, show 16 - (7 - 7) = 16 from rfl, show 16 - (8 - 7) = 15 from rfl] <;> omega

/-! ### the whole run -/
section
variable (k b : Nat → Nat) (m cnt : Nat)
theorem codN_wf (h : ∀ i, i < cnt → b i ≤ 1) : ∀ i, i ≤ cnt → i ≤ 16777216 → Wf (codN k b m i) ∧ (codN k b m i).n = i
  | 0, _, _ => ⟨newC_wf m, rfl⟩
  | i + 1, hi, h2 => by
    obtain ⟨g1, g2⟩ := codN_wf h i (by omega) (by omega)
    exact ⟨putM_wf g1 _ _ (by omega), by show (putM _ _ _).n = _; rw [(putM_n _ _ _).1, g2]⟩
theorem codN_stf (h : ∀ i, i < cnt → b i ≤ 1) : ∀ i, i ≤ cnt → i ≤ 16777216 → Stf (codN k b m i) (codN k b m i).a
  | 0, _, _ => stf_new m
  | i + 1, hi, h2 => stf_put (codN_stf h i (by omega) (by omega)) (codN_wf k b m cnt h i (by omega) (by omega)).1 _ _
theorem fut_run (h : ∀ i, i < cnt → b i ≤ 1) (hc : cnt ≤ 16777216) : ∀ d, d ≤ cnt → Fut (codeE (flushM (codN k b m cnt))) (codN k b m (cnt - d)) (codN k b m (cnt - d)).a
  | 0, _ => fut_flush (codN_wf k b m cnt h cnt (Nat.le_refl _) hc).1
  | d + 1, hd => by
    have h1 := fut_run h hc d (by omega)
    have e : cnt - d = (cnt - (d + 1)) + 1 := by omega
    rw [e] at h1
    exact fut_put (codN_wf k b m cnt h _ (by omega) (by omega)).1 h1
theorem decN_wfD {bytes : List Nat} (hb : ∀ x ∈ bytes, x < 256) : ∀ i, i ≤ 16777216 → WfD (decN k bytes m i) ∧ (decN k bytes m i).n = i
  | 0, _ => by
    have hnew : ∀ d : Dec, MidD d → d.a = 0x8000 → d.n = 0 → WfD { inD d with c := (inD d).c * 128 % M32, t := (inD d).t - 7 } ∧ ({ inD d with c := (inD d).c * 128 % M32, t := (inD d).t - 7 } : Dec).n = 0 := fun d hd ha hn => by
      obtain ⟨i1, i2, i3, i4, i5, i6⟩ := inD_mid hd
      have := i1.t8
      exact ⟨⟨⟨by show (inD d).t - 7 ≤ 8; omega, Nat.mod_lt _ (by decide), i1.b, i1.st, i1.i⟩, by show (inD d).n ≤ _; omega, by show _ ≤ (inD d).a; omega, by show (inD d).a < _; omega⟩, by show (inD d).n = 0; omega⟩
    refine hnew { a := 0x8000, c := bytes.getD 0 255 * 65536, t := 0, n := 0, st := List.replicate m 0, b := bytes, i := 0 } ⟨Nat.zero_le _, ?_, hb, fun x hx => by simp only [List.mem_replicate] at hx; omega, Nat.zero_le _⟩ rfl rfl
    have := byteD_lt (s := { a := 0, c := 0, t := 0, n := 0, st := [], b := bytes, i := 0 }) hb 0
    have e : byteD { a := 0, c := 0, t := 0, n := 0, st := [], b := bytes, i := 0 } 0 = bytes.getD 0 255 := rfl
    show bytes.getD 0 255 * 65536 < 4294967296
    omega
  | i + 1, h => by
    obtain ⟨g1, g2⟩ := decN_wfD hb i (by omega)
    refine ⟨getD_wf g1 _ (by omega), ?_⟩
    have hrn : ∀ (j : Nat) (s : Dec), (renewD j s).n = s.n := by
      have hi : ∀ s : Dec, (inD s).n = s.n := fun s => by unfold inD; split; rfl; split <;> rfl
      have hs : ∀ s : Dec, (shiftD s).n = s.n := fun s => by unfold shiftD; simp only []; split; exact hi s; rfl
      intro j
      induction j with
      | zero => intro s; rfl
      | succ j ih => intro s; unfold renewD; simp only []; split; exact hs s; exact (ih _).trans (hs s)
    show (getD (decN k bytes m i) (k i)).1.n = i + 1
    unfold getD
    simp only []
    split
    · split <;> (rw [hrn]; exact congrArg (· + 1) g2)
    · split
      · exact congrArg (· + 1) g2
      · split <;> (rw [hrn]; exact congrArg (· + 1) g2)
theorem back_run (h : ∀ i, i < cnt → b i ≤ 1) (hc : cnt ≤ 16777216) (hlt : ∀ x ∈ bytesM (flushM (codN k b m cnt)), x < 256) : ∀ i, i ≤ cnt →
    Sync (codeE (flushM (codN k b m cnt))) (codN k b m i) (decN k (bytesM (flushM (codN k b m cnt))) m i)
  | 0, _ => by
    have hE := (stf_flush (codN_stf k b m cnt h cnt (Nat.le_refl _) hc) (codN_wf k b m cnt h cnt (Nat.le_refl _) hc).1).stuffed
    have hF := fut_run k b m cnt h hc cnt (Nat.le_refl _)
    rw [Nat.sub_self] at hF
    exact sync_new hE bytes_code hlt hF
  | i + 1, hi => by
    have hE := (stf_flush (codN_stf k b m cnt h cnt (Nat.le_refl _) hc) (codN_wf k b m cnt h cnt (Nat.le_refl _) hc).1).stuffed
    have hF := fut_run k b m cnt h hc (cnt - (i + 1)) (by omega)
    rw [show cnt - (cnt - (i + 1)) = i + 1 by omega] at hF
    exact (sync_put hE (codN_wf k b m cnt h i (by omega) (by omega)).1 (decN_wfD k m hlt i (by omega)).1 (back_run h hc hlt i (by omega)) (h i (by omega)) hF).1
theorem back_bit (h : ∀ i, i < cnt → b i ≤ 1) (hc : cnt ≤ 16777216) (hlt : ∀ x ∈ bytesM (flushM (codN k b m cnt)), x < 256) {i : Nat} (hi : i < cnt) :
    (getD (decN k (bytesM (flushM (codN k b m cnt))) m i) (k i)).2 = b i := by
  have hE := (stf_flush (codN_stf k b m cnt h cnt (Nat.le_refl _) hc) (codN_wf k b m cnt h cnt (Nat.le_refl _) hc).1).stuffed
  have hF := fut_run k b m cnt h hc (cnt - (i + 1)) (by omega)
  rw [show cnt - (cnt - (i + 1)) = i + 1 by omega] at hF
  exact (sync_put hE (codN_wf k b m cnt h i (by omega) (by omega)).1 (decN_wfD k m hlt i (by omega)).1 (back_run k b m cnt h hc hlt i (by omega)) (h i hi) hF).2.1
end

end Go.Ar

/- RfL: refinement, plain law: what is coded is decoded as the same bitmap. -/
set_option linter.unusedVariables false
set_option linter.unusedSimpArgs false
namespace Go.Bm
open Go Go.Den Go.Den.YtfaclehehhgpcaaGreat
-- (nothing of Go.Ar opened)

section
variable (G R : Int → Int → Bool) (W m : Nat) (dx dy base : Int)
def bf (i : Nat) : Nat := (G ((i % W : Nat) : Int) ((i / W : Nat) : Int)).toNat
/-- What is decoded of it so far. -/
def partG (i : Nat) : Int → Int → Bool := fun x y => decide (0 ≤ x ∧ x < W ∧ 0 ≤ y ∧ y.toNat * W + x.toNat < i) && G x y
variable (hG : ∀ x y : Int, ¬ (0 ≤ x ∧ x < W ∧ 0 ≤ y) → G x y = false)
include hG
theorem partG_eq {i : Nat} {x y : Int} (h : 0 ≤ x → x < W → 0 ≤ y → y.toNat * W + x.toNat < i) : partG G W i x y = G x y := by
  unfold partG
  by_cases h1 : 0 ≤ x ∧ x < W ∧ 0 ≤ y
  · rw [decide_eq_true ⟨h1.1, h1.2.1, h1.2.2, h h1.1 h1.2.1 h1.2.2⟩, Bool.true_and]
  · rw [hG _ _ h1, Bool.and_false]
theorem partG_next {x y : Nat} (hx : x < W) : upd (partG G W (y * W + x)) (x : Int) (y : Int) (G (x : Int) (y : Int)) = partG G W (y * W + x + 1) := by
  have _ := hG
  funext a b
  unfold upd
  by_cases h1 : a = x ∧ b = y
  · obtain ⟨rfl, rfl⟩ := h1
    rw [if_pos ⟨rfl, rfl⟩]
    unfold partG
    rw [decide_eq_true ⟨by omega, by omega, by omega, by simp⟩, Bool.true_and]
  · rw [if_neg h1]
    unfold partG
    congr 1
    rw [decide_eq_decide]
    constructor
    · rintro ⟨h2, h3, h4, h5⟩; exact ⟨h2, h3, h4, by omega⟩
    · rintro ⟨h2, h3, h4, h5⟩
      refine ⟨h2, h3, h4, ?_⟩
      rcases Nat.lt_or_ge (b.toNat * W + a.toNat) (y * W + x) with h6 | h6
      · exact h6
      · exfalso
        have h7 : b.toNat * W + a.toNat = y * W + x := by omega
        have := idx_inj (wd := W) (c := a.toNat) (c' := x) (y := b.toNat) (y' := y) (by omega) hx h7
        exact h1 ⟨by omega, by omega⟩
end
end Go.Bm

/- BkE: the law ArithBack, said of memory. -/
set_option linter.unusedVariables false
set_option linter.unusedSimpArgs false
namespace Go.Ar
open Go Go.Den Go.Den.YtfaclehehhgpcaaGreat

end Go.Ar

/- RfM: what refine.Encode answers, refine.Decode answers with the same bitmap. -/
set_option linter.unusedVariables false
set_option linter.unusedSimpArgs false
namespace Go.Bm
open Go Go.Den Go.Den.YtfaclehehhgpcaaGreat
-- (nothing of Go.Ar opened)

theorem getP_out (ws : List Nat) (W X : Nat) (x y : Int) (h : ¬ (0 ≤ x ∧ x < W ∧ 0 ≤ y)) : getP ws W X x y = false := by
  unfold getP
  rw [decide_eq_false (by omega), Bool.false_and]
theorem getP_ext {W X : Nat} {a b : List Nat} (ha : a.length = X * wds W) (hb : b.length = X * wds W) (wa : W64 a) (wb : W64 b) (za : PadZ W X a) (zb : PadZ W X b) (h : getP a W X = getP b W X) : a = b := by
  refine pix_ext ha hb wa wb fun y hy x hx => ?_
  rcases Nat.lt_or_ge x W with h1 | h1
  · have := congrFun (congrFun h (x : Int)) (y : Int)
    unfold getP at this
    rw [decide_eq_true (by omega), Bool.true_and, Bool.true_and, Int.toNat_natCast, Int.toNat_natCast] at this
    exact this
  · rw [za y hy x h1 hx, zb y hy x h1 hx]
end Go.Bm

/- Written by gen.py: the conditions of the functions of context. -/
set_option linter.unusedVariables false
set_option linter.unusedSimpArgs false
namespace Go.Den.YtfaclehehhgpcaaGreat
open Go Go.Den

/- burin/context.Size -/
set_option maxRecDepth 100000 in
def context_Size (C : CallP) (template : Int) (h : Heap) (K : Value → Heap → Prop) (Kp : List PanicEntry → Heap → Prop) : Prop :=
C F_context_spans #[.int .i64 template] h (fun v_1 h_2 =>
∃ (r_3 : Option Addr) (r_3n : Nat) (r_3c : Nat), v_1 = .slice r_3 r_3n r_3c ∧ (
bcase (Option.isNone r_3) (
K (.tuple #[.int .i64 0, .int .i64 60]) h_2) <|
∃ J_4 : Nat → List Value → Heap → Prop, (∃ n_6, J_4 n_6 [.int .i64 0, .int .i64 0] h_2) ∧ ∀ (n_6 : Nat) (h_7 : Heap) (u_8 : Nat → Value) (n_9 : Int) (x_10 : Int), J_4 n_6 [.int .i64 n_9, .int .i64 x_10] h_7 → (
bcase (decide (x_10 < (r_3n : Int))) (
needs (0 ≤ x_10 ∧ x_10 < (r_3n : Int)) <|
ptr r_3 fun a_11 =>
ldI h_7 ((a_11.add (x_10.toNat * 3)).add 0) .i64 fun x_12 =>
ldI h_7 ((a_11.add (x_10.toNat * 3)).add 1) .i64 fun x_13 =>
ldI h_7 ((a_11.add (x_10.toNat * 3)).add 2) .i64 fun x_14 =>
newC h_7 [.int .i64 0, .int .i64 0, .int .i64 0] T_context_span fun r_15 h_16 =>
stV h_16 ((⟨r_15, 0, none⟩ : Addr).add 0) (.int .i64 x_12) fun h_17 =>
stV h_17 ((⟨r_15, 0, none⟩ : Addr).add 1) (.int .i64 x_13) fun h_18 =>
stV h_18 ((⟨r_15, 0, none⟩ : Addr).add 2) (.int .i64 x_14) fun h_19 =>
ldI h_19 ((⟨r_15, 0, none⟩ : Addr).add 2) .i64 fun x_20 =>
ldI h_19 ((⟨r_15, 0, none⟩ : Addr).add 1) .i64 fun x_21 =>
bindI (IntKind.i64.wrap (x_20 - x_21)) fun z_22 =>
bindI (IntKind.i64.wrap (z_22 + (1 : Int))) fun z_23 =>
bindI (IntKind.i64.wrap (n_9 + z_23)) fun z_24 =>
bindI (IntKind.i64.wrap (x_10 + (1 : Int))) fun z_25 =>
∃ m_5, m_5 < n_6 ∧ J_4 m_5 [.int .i64 z_24, .int .i64 z_25] h_19) <|
needs (0 ≤ n_9) <|
bindI (shlI .i64 (1 : Int) n_9) fun z_26 =>
K (.tuple #[.int .i64 z_26, .int .i64 0]) h_7))) (Kp)

/- burin/context.spans -/
set_option maxRecDepth 100000 in
def context_spans (C : CallP) (template : Int) (h : Heap) (K : Value → Heap → Prop) (Kp : List PanicEntry → Heap → Prop) : Prop :=
bcase (template == (0 : Int)) (
newC h [.int .i64 (-2), .int .i64 (-2), .int .i64 2, .int .i64 (-1), .int .i64 (-3), .int .i64 3, .int .i64 0, .int .i64 (-4), .int .i64 (-1)] T_context_span fun r_1 h_2 =>
K (.slice (some ⟨r_1, 0, none⟩) 3 3) h_2) <|
bcase (template == (1 : Int)) (
newC h [.int .i64 (-2), .int .i64 (-1), .int .i64 2, .int .i64 (-1), .int .i64 (-2), .int .i64 3, .int .i64 0, .int .i64 (-3), .int .i64 (-1)] T_context_span fun r_3 h_4 =>
K (.slice (some ⟨r_3, 0, none⟩) 3 3) h_4) <|
bcase (template == (2 : Int)) (
newC h [.int .i64 (-2), .int .i64 (-1), .int .i64 1, .int .i64 (-1), .int .i64 (-2), .int .i64 2, .int .i64 0, .int .i64 (-2), .int .i64 (-1)] T_context_span fun r_5 h_6 =>
K (.slice (some ⟨r_5, 0, none⟩) 3 3) h_6) <|
bcase (template == (3 : Int)) (
newC h [.int .i64 (-1), .int .i64 (-3), .int .i64 2, .int .i64 0, .int .i64 (-4), .int .i64 (-1)] T_context_span fun r_7 h_8 =>
K (.slice (some ⟨r_7, 0, none⟩) 2 2) h_8) <|
K (.slice none 0 0) h

end Go.Den.YtfaclehehhgpcaaGreat

/- Written by gen.py: each condition of the functions of context is the one of its body; so it is enough for its call. -/
set_option linter.unusedVariables false
set_option linter.unusedSimpArgs false
namespace Go.Den.YtfaclehehhgpcaaGreat
open Go Go.Den

noncomputable def hints_context_Size : Hints := Hints.mk (fun i => none)
  (fun i => bif Nat.beq i 6 then some ([(5, .int .i64), (14, .int .i64)], 134201504) else (none))
  (fun i => none) []
set_option maxRecDepth 100000 in
theorem eq_context_Size (C : CallP) (template : Int) (h : Heap) (K : Value → Heap → Prop) (Kp : List PanicEntry → Heap → Prop) :
    fnD Go.Proofs.Tryz.prog C hints_context_Size Go.Proofs.Tryz.f88 [.int .i64 template] h K Kp = context_Size C template h K Kp := by kernel_rfl

theorem call_context_Size {template : Int} {h : Heap} {K : Value → Heap → Prop} {Kp : List PanicEntry → Heap → Prop} (H : context_Size (CallsHP Go.Proofs.Tryz.prog) template h K Kp) : CallsHP Go.Proofs.Tryz.prog F_context_Size #[.int .i64 template] h K Kp :=
  callsHP_of hints_context_Size (by kernel_rfl) Go.Proofs.Tryz.func88 (by kernel_rfl) (by rw [eq_context_Size]; exact H)

noncomputable def hints_context_spans : Hints := Hints.mk (fun i => none)
  (fun i => none)
  (fun i => none) []
set_option maxRecDepth 100000 in
theorem eq_context_spans (C : CallP) (template : Int) (h : Heap) (K : Value → Heap → Prop) (Kp : List PanicEntry → Heap → Prop) :
    fnD Go.Proofs.Tryz.prog C hints_context_spans Go.Proofs.Tryz.f140 [.int .i64 template] h K Kp = context_spans C template h K Kp := by kernel_rfl

theorem call_context_spans {template : Int} {h : Heap} {K : Value → Heap → Prop} {Kp : List PanicEntry → Heap → Prop} (H : context_spans (CallsHP Go.Proofs.Tryz.prog) template h K Kp) : CallsHP Go.Proofs.Tryz.prog F_context_spans #[.int .i64 template] h K Kp :=
  callsHP_of hints_context_spans (by kernel_rfl) Go.Proofs.Tryz.func140 (by kernel_rfl) (by rw [eq_context_spans]; exact H)

end Go.Den.YtfaclehehhgpcaaGreat
