/- Written by gen.py: each condition of the functions of arith is the one of its body; so it is enough for its call. -/
import Derived.Test.YtlmopdohgipbeaaMarith
import Derived.Test.YtlmopdohgipbeaaProg
set_option linter.unusedVariables false
set_option linter.unusedSimpArgs false
namespace Go.Den.Ytlmopdohgipbeaa
open Go Go.Den

noncomputable def hints_arith_New : Hints := Hints.mk (fun i => none)
  (fun i => none)
  (fun i => none)
set_option maxRecDepth 100000 in
theorem eq_arith_New (C : CallP) (contexts : Int) (h : Heap) (K : Value → Heap → Prop) (Kp : List PanicEntry → Heap → Prop) :
    fnD Go.Proofs.Try.prog C hints_arith_New Go.Proofs.Try.f33 [.int .i64 contexts] h K Kp = arith_New C contexts h K Kp := by kernel_rfl

theorem call_arith_New {contexts : Int} {h : Heap} {K : Value → Heap → Prop} {Kp : List PanicEntry → Heap → Prop} (H : arith_New (CallsHP Go.Proofs.Try.prog) contexts h K Kp) : CallsHP Go.Proofs.Try.prog F_arith_New #[.int .i64 contexts] h K Kp :=
  callsHP_of hints_arith_New (by kernel_rfl) Go.Proofs.Try.func33 (by kernel_rfl) (by rw [eq_arith_New]; exact H)

noncomputable def hints_arith_Coder_Put : Hints := Hints.mk (fun i => bif Nat.beq i 9 then some ([9], .take 0 <| .take 1 <| .take 2 <| .take 4 <| .take 3 <| .take 5 <| .take 6 <| .take 7 <| .take 8 <| .bar 9 [] <| .done) else (bif Nat.beq i 12 then some ([9], .take 0 <| .take 1 <| .take 2 <| .take 4 <| .take 3 <| .take 5 <| .take 6 <| .take 7 <| .take 8 <| .bar 9 [] <| .done) else (bif Nat.beq i 14 then some ([], .take 0 <| .take 1 <| .take 2 <| .take 4 <| .take 3 <| .take 5 <| .take 6 <| .done) else (bif Nat.beq i 16 then some ([9], .take 0 <| .take 1 <| .take 2 <| .take 4 <| .take 3 <| .take 5 <| .take 6 <| .take 7 <| .take 8 <| .bar 9 [] <| .done) else (bif Nat.beq i 18 then some ([], .take 0 <| .take 1 <| .take 2 <| .take 4 <| .take 3 <| .take 5 <| .take 6 <| .done) else (bif Nat.beq i 19 then some ([9], .take 0 <| .take 1 <| .take 2 <| .take 4 <| .take 3 <| .take 5 <| .take 6 <| .take 7 <| .take 8 <| .bar 9 [] <| .done) else (none)))))))
  (fun i => none)
  (fun i => bif Nat.beq i 7 then some ([], 268435008) else (none))
set_option maxRecDepth 100000 in
theorem eq_arith_Coder_Put (C : CallP) (a0 : Option Addr) (a1 : Int) (a2 : Int) (h : Heap) (K : Value → Heap → Prop) (Kp : List PanicEntry → Heap → Prop) :
    fnD Go.Proofs.Try.prog C hints_arith_Coder_Put Go.Proofs.Try.f34 [.pointer a0, .int .i64 a1, .int .i64 a2] h K Kp = arith_Coder_Put C a0 a1 a2 h K Kp := by kernel_rfl

theorem call_arith_Coder_Put {a0 : Option Addr} {a1 : Int} {a2 : Int} {h : Heap} {K : Value → Heap → Prop} {Kp : List PanicEntry → Heap → Prop} (H : arith_Coder_Put (CallsHP Go.Proofs.Try.prog) a0 a1 a2 h K Kp) : CallsHP Go.Proofs.Try.prog F_arith_Coder_Put #[.pointer a0, .int .i64 a1, .int .i64 a2] h K Kp :=
  callsHP_of hints_arith_Coder_Put (by kernel_rfl) Go.Proofs.Try.func34 (by kernel_rfl) (by rw [eq_arith_Coder_Put]; exact H)

noncomputable def hints_arith_Coder_Flush : Hints := Hints.mk (fun i => bif Nat.beq i 4 then some ([], .take 0 <| .take 1 <| .take 2 <| .take 4 <| .take 5 <| .take 6 <| .take 3 <| .take 7 <| .take 8 <| .take 9 <| .done) else (bif Nat.beq i 10 then some ([11], .take 0 <| .take 1 <| .take 2 <| .take 4 <| .take 5 <| .take 6 <| .take 3 <| .take 7 <| .take 8 <| .take 9 <| .take 10 <| .bar 11 [] <| .done) else (none)))
  (fun i => bif Nat.beq i 9 then some ([(42, .int .i64)], 288225978105200640) else (none))
  (fun i => bif Nat.beq i 8 then some ([], 4398042316800) else (none))
set_option maxRecDepth 100000 in
theorem eq_arith_Coder_Flush (C : CallP) (a0 : Option Addr) (h : Heap) (K : Value → Heap → Prop) (Kp : List PanicEntry → Heap → Prop) :
    fnD Go.Proofs.Try.prog C hints_arith_Coder_Flush Go.Proofs.Try.f35 [.pointer a0] h K Kp = arith_Coder_Flush C a0 h K Kp := by kernel_rfl

theorem call_arith_Coder_Flush {a0 : Option Addr} {h : Heap} {K : Value → Heap → Prop} {Kp : List PanicEntry → Heap → Prop} (H : arith_Coder_Flush (CallsHP Go.Proofs.Try.prog) a0 h K Kp) : CallsHP Go.Proofs.Try.prog F_arith_Coder_Flush #[.pointer a0] h K Kp :=
  callsHP_of hints_arith_Coder_Flush (by kernel_rfl) Go.Proofs.Try.func35 (by kernel_rfl) (by rw [eq_arith_Coder_Flush]; exact H)

noncomputable def hints_arith_NewDecoder : Hints := Hints.mk (fun i => bif Nat.beq i 4 then some ([4], .take 1 <| .take 0 <| .go 2 <| .take 3 <| .bar 4 [] <| .take 5 <| .done) else (none))
  (fun i => none)
  (fun i => none)
set_option maxRecDepth 100000 in
theorem eq_arith_NewDecoder (C : CallP) (b : Option Addr) (bn : Nat) (bc : Nat) (contexts : Int) (h : Heap) (K : Value → Heap → Prop) (Kp : List PanicEntry → Heap → Prop) :
    fnD Go.Proofs.Try.prog C hints_arith_NewDecoder Go.Proofs.Try.f38 [.slice b bn bc, .int .i64 contexts] h K Kp = arith_NewDecoder C b bn bc contexts h K Kp := by kernel_rfl

theorem call_arith_NewDecoder {b : Option Addr} {bn : Nat} {bc : Nat} {contexts : Int} {h : Heap} {K : Value → Heap → Prop} {Kp : List PanicEntry → Heap → Prop} (H : arith_NewDecoder (CallsHP Go.Proofs.Try.prog) b bn bc contexts h K Kp) : CallsHP Go.Proofs.Try.prog F_arith_NewDecoder #[.slice b bn bc, .int .i64 contexts] h K Kp :=
  callsHP_of hints_arith_NewDecoder (by kernel_rfl) Go.Proofs.Try.func38 (by kernel_rfl) (by rw [eq_arith_NewDecoder]; exact H)

noncomputable def hints_arith_Decoder_Get : Hints := Hints.mk (fun i => bif Nat.beq i 6 then some ([9], .take 0 <| .take 1 <| .take 2 <| .take 4 <| .take 3 <| .take 5 <| .take 6 <| .take 7 <| .take 8 <| .bar 9 [] <| .done) else (bif Nat.beq i 7 then some ([], .take 0 <| .take 1 <| .take 2 <| .take 5 <| .take 3 <| .take 4 <| .take 6 <| .take 7 <| .take 8 <| .done) else (bif Nat.beq i 9 then some ([10], .take 0 <| .take 1 <| .take 2 <| .take 4 <| .take 3 <| .take 5 <| .take 6 <| .take 7 <| .take 8 <| .take 9 <| .bar 10 [] <| .done) else (bif Nat.beq i 12 then some ([], .take 0 <| .take 1 <| .take 2 <| .take 3 <| .take 5 <| .take 4 <| .take 6 <| .take 7 <| .take 8 <| .done) else (none)))))
  (fun i => none)
  (fun i => bif Nat.beq i 12 then some ([], 9444696936942271463472) else (bif Nat.beq i 16 then some ([(8, .int .i64)], 1237930594552414535608697088) else (none)))
set_option maxRecDepth 100000 in
theorem eq_arith_Decoder_Get (C : CallP) (a0 : Option Addr) (a1 : Int) (h : Heap) (K : Value → Heap → Prop) (Kp : List PanicEntry → Heap → Prop) :
    fnD Go.Proofs.Try.prog C hints_arith_Decoder_Get Go.Proofs.Try.f40 [.pointer a0, .int .i64 a1] h K Kp = arith_Decoder_Get C a0 a1 h K Kp := by kernel_rfl

theorem call_arith_Decoder_Get {a0 : Option Addr} {a1 : Int} {h : Heap} {K : Value → Heap → Prop} {Kp : List PanicEntry → Heap → Prop} (H : arith_Decoder_Get (CallsHP Go.Proofs.Try.prog) a0 a1 h K Kp) : CallsHP Go.Proofs.Try.prog F_arith_Decoder_Get #[.pointer a0, .int .i64 a1] h K Kp :=
  callsHP_of hints_arith_Decoder_Get (by kernel_rfl) Go.Proofs.Try.func40 (by kernel_rfl) (by rw [eq_arith_Decoder_Get]; exact H)

noncomputable def hints_arith_table_States : Hints := Hints.mk (fun i => none)
  (fun i => none)
  (fun i => none)
set_option maxRecDepth 100000 in
theorem eq_arith_table_States (C : CallP) (t : Option Addr) (h : Heap) (K : Value → Heap → Prop) (Kp : List PanicEntry → Heap → Prop) :
    fnD Go.Proofs.Try.prog C hints_arith_table_States Go.Proofs.Try.f41 [.pointer t] h K Kp = arith_table_States C t h K Kp := by kernel_rfl

theorem call_arith_table_States {t : Option Addr} {h : Heap} {K : Value → Heap → Prop} {Kp : List PanicEntry → Heap → Prop} (H : arith_table_States (CallsHP Go.Proofs.Try.prog) t h K Kp) : CallsHP Go.Proofs.Try.prog F_arith_table_States #[.pointer t] h K Kp :=
  callsHP_of hints_arith_table_States (by kernel_rfl) Go.Proofs.Try.func41 (by kernel_rfl) (by rw [eq_arith_table_States]; exact H)

noncomputable def hints_arith_table_Contexts : Hints := Hints.mk (fun i => none)
  (fun i => none)
  (fun i => none)
set_option maxRecDepth 100000 in
theorem eq_arith_table_Contexts (C : CallP) (t : Option Addr) (h : Heap) (K : Value → Heap → Prop) (Kp : List PanicEntry → Heap → Prop) :
    fnD Go.Proofs.Try.prog C hints_arith_table_Contexts Go.Proofs.Try.f42 [.pointer t] h K Kp = arith_table_Contexts C t h K Kp := by kernel_rfl

theorem call_arith_table_Contexts {t : Option Addr} {h : Heap} {K : Value → Heap → Prop} {Kp : List PanicEntry → Heap → Prop} (H : arith_table_Contexts (CallsHP Go.Proofs.Try.prog) t h K Kp) : CallsHP Go.Proofs.Try.prog F_arith_table_Contexts #[.pointer t] h K Kp :=
  callsHP_of hints_arith_table_Contexts (by kernel_rfl) Go.Proofs.Try.func42 (by kernel_rfl) (by rw [eq_arith_table_Contexts]; exact H)

noncomputable def hints_arith_made : Hints := Hints.mk (fun i => bif Nat.beq i 3 then some ([4], .take 1 <| .alt 0 (.go 2 <| .take 3 <| .bar 4 [] <| .take 5 <| .done) <| .go 2 <| .go 0 <| .take 3 <| .bar 4 [] <| .take 5 <| .done) else (none))
  (fun i => none)
  (fun i => none)
set_option maxRecDepth 100000 in
theorem eq_arith_made (C : CallP) (contexts : Int) (h : Heap) (K : Value → Heap → Prop) (Kp : List PanicEntry → Heap → Prop) :
    fnD Go.Proofs.Try.prog C hints_arith_made Go.Proofs.Try.f66 [.int .i64 contexts] h K Kp = arith_made C contexts h K Kp := by kernel_rfl

theorem call_arith_made {contexts : Int} {h : Heap} {K : Value → Heap → Prop} {Kp : List PanicEntry → Heap → Prop} (H : arith_made (CallsHP Go.Proofs.Try.prog) contexts h K Kp) : CallsHP Go.Proofs.Try.prog F_arith_made #[.int .i64 contexts] h K Kp :=
  callsHP_of hints_arith_made (by kernel_rfl) Go.Proofs.Try.func66 (by kernel_rfl) (by rw [eq_arith_made]; exact H)

noncomputable def hints_arith_table_at : Hints := Hints.mk (fun i => bif Nat.beq i 2 then some ([], .take 0 <| .take 1 <| .take 2 <| .take 4 <| .take 5 <| .take 6 <| .take 7 <| .take 8 <| .take 9 <| .take 10 <| .take 3 <| .take 11 <| .take 12 <| .done) else (bif Nat.beq i 3 then some ([11], .take 0 <| .take 1 <| .take 2 <| .take 3 <| .take 6 <| .take 7 <| .take 10 <| .take 4 <| .take 5 <| .take 8 <| .take 9 <| .bar 11 [] <| .done) else (none)))
  (fun i => none)
  (fun i => none)
set_option maxRecDepth 100000 in
theorem eq_arith_table_at (C : CallP) (t : Option Addr) (context : Int) (h : Heap) (K : Value → Heap → Prop) (Kp : List PanicEntry → Heap → Prop) :
    fnD Go.Proofs.Try.prog C hints_arith_table_at Go.Proofs.Try.f67 [.pointer t, .int .i64 context] h K Kp = arith_table_at C t context h K Kp := by kernel_rfl

theorem call_arith_table_at {t : Option Addr} {context : Int} {h : Heap} {K : Value → Heap → Prop} {Kp : List PanicEntry → Heap → Prop} (H : arith_table_at (CallsHP Go.Proofs.Try.prog) t context h K Kp) : CallsHP Go.Proofs.Try.prog F_arith_table_at #[.pointer t, .int .i64 context] h K Kp :=
  callsHP_of hints_arith_table_at (by kernel_rfl) Go.Proofs.Try.func67 (by kernel_rfl) (by rw [eq_arith_table_at]; exact H)

noncomputable def hints_arith_likely : Hints := Hints.mk (fun i => bif Nat.beq i 1 then some ([10], .take 0 <| .take 1 <| .take 4 <| .take 5 <| .take 2 <| .take 3 <| .take 6 <| .take 7 <| .take 8 <| .take 9 <| .bar 10 [] <| .done) else (none))
  (fun i => none)
  (fun i => none)
set_option maxRecDepth 100000 in
theorem eq_arith_likely (C : CallP) (s : Option Addr) (r_1 : Int) (r_2 : Int) (r_3 : Int) (r_4 : Int) (h : Heap) (K : Value → Heap → Prop) (Kp : List PanicEntry → Heap → Prop) :
    fnD Go.Proofs.Try.prog C hints_arith_likely Go.Proofs.Try.f68 [.pointer s, .agg #[.int .u32 r_1, .int .u8 r_2, .int .u8 r_3, .int .u8 r_4]] h K Kp = arith_likely C s r_1 r_2 r_3 r_4 h K Kp := by kernel_rfl

theorem call_arith_likely {s : Option Addr} {r_1 : Int} {r_2 : Int} {r_3 : Int} {r_4 : Int} {h : Heap} {K : Value → Heap → Prop} {Kp : List PanicEntry → Heap → Prop} (H : arith_likely (CallsHP Go.Proofs.Try.prog) s r_1 r_2 r_3 r_4 h K Kp) : CallsHP Go.Proofs.Try.prog F_arith_likely #[.pointer s, .agg #[.int .u32 r_1, .int .u8 r_2, .int .u8 r_3, .int .u8 r_4]] h K Kp :=
  callsHP_of hints_arith_likely (by kernel_rfl) Go.Proofs.Try.func68 (by kernel_rfl) (by rw [eq_arith_likely]; exact H)

noncomputable def hints_arith_unlikely : Hints := Hints.mk (fun i => bif Nat.beq i 1 then some ([13], .take 0 <| .take 1 <| .take 4 <| .take 5 <| .take 9 <| .take 2 <| .take 3 <| .take 6 <| .take 7 <| .take 8 <| .take 10 <| .take 11 <| .take 12 <| .bar 13 [] <| .done) else (none))
  (fun i => none)
  (fun i => none)
set_option maxRecDepth 100000 in
theorem eq_arith_unlikely (C : CallP) (s : Option Addr) (r_1 : Int) (r_2 : Int) (r_3 : Int) (r_4 : Int) (h : Heap) (K : Value → Heap → Prop) (Kp : List PanicEntry → Heap → Prop) :
    fnD Go.Proofs.Try.prog C hints_arith_unlikely Go.Proofs.Try.f69 [.pointer s, .agg #[.int .u32 r_1, .int .u8 r_2, .int .u8 r_3, .int .u8 r_4]] h K Kp = arith_unlikely C s r_1 r_2 r_3 r_4 h K Kp := by kernel_rfl

theorem call_arith_unlikely {s : Option Addr} {r_1 : Int} {r_2 : Int} {r_3 : Int} {r_4 : Int} {h : Heap} {K : Value → Heap → Prop} {Kp : List PanicEntry → Heap → Prop} (H : arith_unlikely (CallsHP Go.Proofs.Try.prog) s r_1 r_2 r_3 r_4 h K Kp) : CallsHP Go.Proofs.Try.prog F_arith_unlikely #[.pointer s, .agg #[.int .u32 r_1, .int .u8 r_2, .int .u8 r_3, .int .u8 r_4]] h K Kp :=
  callsHP_of hints_arith_unlikely (by kernel_rfl) Go.Proofs.Try.func69 (by kernel_rfl) (by rw [eq_arith_unlikely]; exact H)

noncomputable def hints_arith_Coder_renew : Hints := Hints.mk (fun i => none)
  (fun i => bif Nat.beq i 0 then some ([], 34359738364) else (none))
  (fun i => none)
set_option maxRecDepth 100000 in
theorem eq_arith_Coder_renew (C : CallP) (c : Option Addr) (h : Heap) (K : Value → Heap → Prop) (Kp : List PanicEntry → Heap → Prop) :
    fnD Go.Proofs.Try.prog C hints_arith_Coder_renew Go.Proofs.Try.f70 [.pointer c] h K Kp = arith_Coder_renew C c h K Kp := by kernel_rfl

theorem call_arith_Coder_renew {c : Option Addr} {h : Heap} {K : Value → Heap → Prop} {Kp : List PanicEntry → Heap → Prop} (H : arith_Coder_renew (CallsHP Go.Proofs.Try.prog) c h K Kp) : CallsHP Go.Proofs.Try.prog F_arith_Coder_renew #[.pointer c] h K Kp :=
  callsHP_of hints_arith_Coder_renew (by kernel_rfl) Go.Proofs.Try.func70 (by kernel_rfl) (by rw [eq_arith_Coder_renew]; exact H)

noncomputable def hints_arith_Coder_out : Hints := Hints.mk (fun i => bif Nat.beq i 0 then some ([], .take 0 <| .take 1 <| .take 2 <| .take 4 <| .take 5 <| .take 6 <| .take 3 <| .take 7 <| .take 8 <| .take 9 <| .take 10 <| .take 11 <| .done) else (bif Nat.beq i 7 then some ([13, 16], .take 0 <| .take 1 <| .take 2 <| .take 3 <| .take 5 <| .take 6 <| .take 7 <| .take 9 <| .take 4 <| .take 8 <| .take 10 <| .take 11 <| .go 12 <| .bar 13 [16] <| .take 14 <| .take 15 <| .bar 16 [] <| .done) else (bif Nat.beq i 8 then some ([10], .take 0 <| .take 1 <| .take 2 <| .take 4 <| .take 5 <| .take 6 <| .take 3 <| .take 7 <| .take 8 <| .take 9 <| .bar 10 [] <| .done) else (none))))
  (fun i => none)
  (fun i => bif Nat.beq i 2 then some ([(25, .bool)], 67076096) else (bif Nat.beq i 4 then some ([], 274877874176) else (bif Nat.beq i 7 then some ([(3, .int .i64)], 34909494181896) else (none))))
set_option maxRecDepth 100000 in
theorem eq_arith_Coder_out (C : CallP) (a0 : Option Addr) (h : Heap) (K : Value → Heap → Prop) (Kp : List PanicEntry → Heap → Prop) :
    fnD Go.Proofs.Try.prog C hints_arith_Coder_out Go.Proofs.Try.f71 [.pointer a0] h K Kp = arith_Coder_out C a0 h K Kp := by kernel_rfl

theorem call_arith_Coder_out {a0 : Option Addr} {h : Heap} {K : Value → Heap → Prop} {Kp : List PanicEntry → Heap → Prop} (H : arith_Coder_out (CallsHP Go.Proofs.Try.prog) a0 h K Kp) : CallsHP Go.Proofs.Try.prog F_arith_Coder_out #[.pointer a0] h K Kp :=
  callsHP_of hints_arith_Coder_out (by kernel_rfl) Go.Proofs.Try.func71 (by kernel_rfl) (by rw [eq_arith_Coder_out]; exact H)

noncomputable def hints_arith_Decoder_byte : Hints := Hints.mk (fun i => none)
  (fun i => none)
  (fun i => none)
set_option maxRecDepth 100000 in
theorem eq_arith_Decoder_byte (C : CallP) (d : Option Addr) (i : Int) (h : Heap) (K : Value → Heap → Prop) (Kp : List PanicEntry → Heap → Prop) :
    fnD Go.Proofs.Try.prog C hints_arith_Decoder_byte Go.Proofs.Try.f72 [.pointer d, .int .i64 i] h K Kp = arith_Decoder_byte C d i h K Kp := by kernel_rfl

theorem call_arith_Decoder_byte {d : Option Addr} {i : Int} {h : Heap} {K : Value → Heap → Prop} {Kp : List PanicEntry → Heap → Prop} (H : arith_Decoder_byte (CallsHP Go.Proofs.Try.prog) d i h K Kp) : CallsHP Go.Proofs.Try.prog F_arith_Decoder_byte #[.pointer d, .int .i64 i] h K Kp :=
  callsHP_of hints_arith_Decoder_byte (by kernel_rfl) Go.Proofs.Try.func72 (by kernel_rfl) (by rw [eq_arith_Decoder_byte]; exact H)

noncomputable def hints_arith_Decoder_in : Hints := Hints.mk (fun i => bif Nat.beq i 1 then some ([14], .take 0 <| .take 1 <| .take 2 <| .take 4 <| .take 5 <| .take 6 <| .take 7 <| .take 3 <| .take 8 <| .go 9 <| .take 10 <| .take 11 <| .take 12 <| .take 13 <| .bar 14 [] <| .done) else (bif Nat.beq i 5 then some ([14], .take 0 <| .take 1 <| .take 2 <| .take 4 <| .take 5 <| .take 6 <| .take 7 <| .take 3 <| .take 8 <| .go 9 <| .take 10 <| .take 11 <| .take 12 <| .take 13 <| .bar 14 [] <| .done) else (none)))
  (fun i => none)
  (fun i => none)
set_option maxRecDepth 100000 in
theorem eq_arith_Decoder_in (C : CallP) (a0 : Option Addr) (h : Heap) (K : Value → Heap → Prop) (Kp : List PanicEntry → Heap → Prop) :
    fnD Go.Proofs.Try.prog C hints_arith_Decoder_in Go.Proofs.Try.f73 [.pointer a0] h K Kp = arith_Decoder_in C a0 h K Kp := by kernel_rfl

theorem call_arith_Decoder_in {a0 : Option Addr} {h : Heap} {K : Value → Heap → Prop} {Kp : List PanicEntry → Heap → Prop} (H : arith_Decoder_in (CallsHP Go.Proofs.Try.prog) a0 h K Kp) : CallsHP Go.Proofs.Try.prog F_arith_Decoder_in #[.pointer a0] h K Kp :=
  callsHP_of hints_arith_Decoder_in (by kernel_rfl) Go.Proofs.Try.func73 (by kernel_rfl) (by rw [eq_arith_Decoder_in]; exact H)

noncomputable def hints_arith_Decoder_renew : Hints := Hints.mk (fun i => none)
  (fun i => bif Nat.beq i 0 then some ([], 34359738364) else (none))
  (fun i => bif Nat.beq i 2 then some ([], 508) else (none))
set_option maxRecDepth 100000 in
theorem eq_arith_Decoder_renew (C : CallP) (d : Option Addr) (h : Heap) (K : Value → Heap → Prop) (Kp : List PanicEntry → Heap → Prop) :
    fnD Go.Proofs.Try.prog C hints_arith_Decoder_renew Go.Proofs.Try.f74 [.pointer d] h K Kp = arith_Decoder_renew C d h K Kp := by kernel_rfl

theorem call_arith_Decoder_renew {d : Option Addr} {h : Heap} {K : Value → Heap → Prop} {Kp : List PanicEntry → Heap → Prop} (H : arith_Decoder_renew (CallsHP Go.Proofs.Try.prog) d h K Kp) : CallsHP Go.Proofs.Try.prog F_arith_Decoder_renew #[.pointer d] h K Kp :=
  callsHP_of hints_arith_Decoder_renew (by kernel_rfl) Go.Proofs.Try.func74 (by kernel_rfl) (by rw [eq_arith_Decoder_renew]; exact H)

noncomputable def hints_arith_rows : Hints := Hints.mk (fun i => none)
  (fun i => none)
  (fun i => none)
set_option maxRecDepth 100000 in
theorem eq_arith_rows (C : CallP)  (h : Heap) (K : Value → Heap → Prop) (Kp : List PanicEntry → Heap → Prop) :
    fnD Go.Proofs.Try.prog C hints_arith_rows Go.Proofs.Try.f94 [] h K Kp = arith_rows C  h K Kp := by kernel_rfl

theorem call_arith_rows  {h : Heap} {K : Value → Heap → Prop} {Kp : List PanicEntry → Heap → Prop} (H : arith_rows (CallsHP Go.Proofs.Try.prog)  h K Kp) : CallsHP Go.Proofs.Try.prog F_arith_rows #[] h K Kp :=
  callsHP_of hints_arith_rows (by kernel_rfl) Go.Proofs.Try.func94 (by kernel_rfl) (by rw [eq_arith_rows]; exact H)

end Go.Den.Ytlmopdohgipbeaa
