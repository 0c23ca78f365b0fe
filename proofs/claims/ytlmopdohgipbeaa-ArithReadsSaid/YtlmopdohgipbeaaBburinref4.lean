/- Written by gen.py: each condition of the functions of burinref4 is the one of its body; so it is enough for its call. -/
import Derived.Test.YtlmopdohgipbeaaMburinref4
import Derived.Test.YtlmopdohgipbeaaProg
set_option linter.unusedVariables false
set_option linter.unusedSimpArgs false
namespace Go.Den.Ytlmopdohgipbeaa
open Go Go.Den

noncomputable def hints_burinref4_New : Hints := Hints.mk (fun i => none)
  (fun i => none)
  (fun i => none)
set_option maxRecDepth 100000 in
theorem eq_burinref4_New (C : CallP) (contexts : Int) (h : Heap) (K : Value → Heap → Prop) (Kp : List PanicEntry → Heap → Prop) :
    fnD Go.Proofs.Try.prog C hints_burinref4_New Go.Proofs.Try.f43 [.int .i64 contexts] h K Kp = burinref4_New C contexts h K Kp := by kernel_rfl

theorem call_burinref4_New {contexts : Int} {h : Heap} {K : Value → Heap → Prop} {Kp : List PanicEntry → Heap → Prop} (H : burinref4_New (CallsHP Go.Proofs.Try.prog) contexts h K Kp) : CallsHP Go.Proofs.Try.prog F_burinref4_New #[.int .i64 contexts] h K Kp :=
  callsHP_of hints_burinref4_New (by kernel_rfl) Go.Proofs.Try.func43 (by kernel_rfl) (by rw [eq_burinref4_New]; exact H)

noncomputable def hints_burinref4_Coder_Put : Hints := Hints.mk (fun i => bif Nat.beq i 9 then some ([], .take 0 <| .take 1 <| .take 2 <| .take 3 <| .take 5 <| .take 6 <| .take 7 <| .take 8 <| .take 10 <| .take 4 <| .take 9 <| .take 11 <| .take 12 <| .take 13 <| .take 14 <| .take 15 <| .take 16 <| .done) else (none))
  (fun i => none)
  (fun i => bif Nat.beq i 5 then some ([], 516160) else (none))
set_option maxRecDepth 100000 in
theorem eq_burinref4_Coder_Put (C : CallP) (a0 : Option Addr) (a1 : Int) (a2 : Int) (h : Heap) (K : Value → Heap → Prop) (Kp : List PanicEntry → Heap → Prop) :
    fnD Go.Proofs.Try.prog C hints_burinref4_Coder_Put Go.Proofs.Try.f44 [.pointer a0, .int .i64 a1, .int .i64 a2] h K Kp = burinref4_Coder_Put C a0 a1 a2 h K Kp := by kernel_rfl

theorem call_burinref4_Coder_Put {a0 : Option Addr} {a1 : Int} {a2 : Int} {h : Heap} {K : Value → Heap → Prop} {Kp : List PanicEntry → Heap → Prop} (H : burinref4_Coder_Put (CallsHP Go.Proofs.Try.prog) a0 a1 a2 h K Kp) : CallsHP Go.Proofs.Try.prog F_burinref4_Coder_Put #[.pointer a0, .int .i64 a1, .int .i64 a2] h K Kp :=
  callsHP_of hints_burinref4_Coder_Put (by kernel_rfl) Go.Proofs.Try.func44 (by kernel_rfl) (by rw [eq_burinref4_Coder_Put]; exact H)

noncomputable def hints_burinref4_side_States : Hints := Hints.mk (fun i => bif Nat.beq i 5 then some ([18, 19], .take 0 <| .take 1 <| .take 2 <| .take 3 <| .take 5 <| .take 9 <| .take 10 <| .take 11 <| .take 13 <| .take 4 <| .take 6 <| .take 7 <| .take 8 <| .take 12 <| .take 14 <| .take 15 <| .take 16 <| .take 17 <| .bar 18 [19] <| .bar 19 [] <| .take 20 <| .done) else (none))
  (fun i => bif Nat.beq i 3 then some ([(3, .slc), (4, .int .i64)], 17179869176) else (none))
  (fun i => none)
set_option maxRecDepth 100000 in
theorem eq_burinref4_side_States (C : CallP) (s : Option Addr) (h : Heap) (K : Value → Heap → Prop) (Kp : List PanicEntry → Heap → Prop) :
    fnD Go.Proofs.Try.prog C hints_burinref4_side_States Go.Proofs.Try.f45 [.pointer s] h K Kp = burinref4_side_States C s h K Kp := by kernel_rfl

theorem call_burinref4_side_States {s : Option Addr} {h : Heap} {K : Value → Heap → Prop} {Kp : List PanicEntry → Heap → Prop} (H : burinref4_side_States (CallsHP Go.Proofs.Try.prog) s h K Kp) : CallsHP Go.Proofs.Try.prog F_burinref4_side_States #[.pointer s] h K Kp :=
  callsHP_of hints_burinref4_side_States (by kernel_rfl) Go.Proofs.Try.func45 (by kernel_rfl) (by rw [eq_burinref4_side_States]; exact H)

noncomputable def hints_burinref4_Coder_Flush : Hints := Hints.mk (fun i => bif Nat.beq i 4 then some ([], .take 0 <| .take 1 <| .take 2 <| .take 4 <| .take 5 <| .take 6 <| .take 3 <| .take 7 <| .take 8 <| .take 9 <| .done) else (bif Nat.beq i 8 then some ([14], .take 0 <| .take 1 <| .take 2 <| .take 3 <| .take 5 <| .take 6 <| .take 7 <| .take 4 <| .take 8 <| .take 9 <| .take 10 <| .take 11 <| .take 12 <| .take 13 <| .bar 14 [] <| .done) else (bif Nat.beq i 10 then some ([14], .take 0 <| .take 1 <| .take 2 <| .take 3 <| .take 5 <| .take 6 <| .take 7 <| .take 4 <| .take 8 <| .take 9 <| .take 10 <| .take 11 <| .take 12 <| .take 13 <| .bar 14 [] <| .done) else (none))))
  (fun i => none)
  (fun i => bif Nat.beq i 8 then some ([], 35182224605184) else (bif Nat.beq i 15 then some ([(5, .int .i64)], 9898684611004583682494169120) else (none)))
set_option maxRecDepth 100000 in
theorem eq_burinref4_Coder_Flush (C : CallP) (a0 : Option Addr) (h : Heap) (K : Value → Heap → Prop) (Kp : List PanicEntry → Heap → Prop) :
    fnD Go.Proofs.Try.prog C hints_burinref4_Coder_Flush Go.Proofs.Try.f47 [.pointer a0] h K Kp = burinref4_Coder_Flush C a0 h K Kp := by kernel_rfl

theorem call_burinref4_Coder_Flush {a0 : Option Addr} {h : Heap} {K : Value → Heap → Prop} {Kp : List PanicEntry → Heap → Prop} (H : burinref4_Coder_Flush (CallsHP Go.Proofs.Try.prog) a0 h K Kp) : CallsHP Go.Proofs.Try.prog F_burinref4_Coder_Flush #[.pointer a0] h K Kp :=
  callsHP_of hints_burinref4_Coder_Flush (by kernel_rfl) Go.Proofs.Try.func47 (by kernel_rfl) (by rw [eq_burinref4_Coder_Flush]; exact H)

noncomputable def hints_burinref4_NewDecoder : Hints := Hints.mk (fun i => none)
  (fun i => none)
  (fun i => none)
set_option maxRecDepth 100000 in
theorem eq_burinref4_NewDecoder (C : CallP) (b : Option Addr) (bn : Nat) (bc : Nat) (contexts : Int) (h : Heap) (K : Value → Heap → Prop) (Kp : List PanicEntry → Heap → Prop) :
    fnD Go.Proofs.Try.prog C hints_burinref4_NewDecoder Go.Proofs.Try.f50 [.slice b bn bc, .int .i64 contexts] h K Kp = burinref4_NewDecoder C b bn bc contexts h K Kp := by kernel_rfl

theorem call_burinref4_NewDecoder {b : Option Addr} {bn : Nat} {bc : Nat} {contexts : Int} {h : Heap} {K : Value → Heap → Prop} {Kp : List PanicEntry → Heap → Prop} (H : burinref4_NewDecoder (CallsHP Go.Proofs.Try.prog) b bn bc contexts h K Kp) : CallsHP Go.Proofs.Try.prog F_burinref4_NewDecoder #[.slice b bn bc, .int .i64 contexts] h K Kp :=
  callsHP_of hints_burinref4_NewDecoder (by kernel_rfl) Go.Proofs.Try.func50 (by kernel_rfl) (by rw [eq_burinref4_NewDecoder]; exact H)

noncomputable def hints_burinref4_Decoder_Get : Hints := Hints.mk (fun i => bif Nat.beq i 5 then some ([], .take 0 <| .take 1 <| .take 2 <| .take 3 <| .take 5 <| .take 6 <| .take 7 <| .take 8 <| .take 10 <| .take 4 <| .take 9 <| .take 11 <| .take 12 <| .take 13 <| .take 14 <| .take 15 <| .take 16 <| .done) else (none))
  (fun i => none)
  (fun i => bif Nat.beq i 13 then some ([(8, .int .i64)], 154741914614862175656739072) else (none))
set_option maxRecDepth 100000 in
theorem eq_burinref4_Decoder_Get (C : CallP) (a0 : Option Addr) (a1 : Int) (h : Heap) (K : Value → Heap → Prop) (Kp : List PanicEntry → Heap → Prop) :
    fnD Go.Proofs.Try.prog C hints_burinref4_Decoder_Get Go.Proofs.Try.f51 [.pointer a0, .int .i64 a1] h K Kp = burinref4_Decoder_Get C a0 a1 h K Kp := by kernel_rfl

theorem call_burinref4_Decoder_Get {a0 : Option Addr} {a1 : Int} {h : Heap} {K : Value → Heap → Prop} {Kp : List PanicEntry → Heap → Prop} (H : burinref4_Decoder_Get (CallsHP Go.Proofs.Try.prog) a0 a1 h K Kp) : CallsHP Go.Proofs.Try.prog F_burinref4_Decoder_Get #[.pointer a0, .int .i64 a1] h K Kp :=
  callsHP_of hints_burinref4_Decoder_Get (by kernel_rfl) Go.Proofs.Try.func51 (by kernel_rfl) (by rw [eq_burinref4_Decoder_Get]; exact H)

noncomputable def hints_burinref4_begun : Hints := Hints.mk (fun i => bif Nat.beq i 1 then some ([6], .take 1 <| .take 3 <| .alt 0 (.alt 2 (.go 4 <| .take 5 <| .bar 6 [] <| .done) <| .go 4 <| .go 2 <| .take 5 <| .bar 6 [] <| .done) <| .alt 2 (.alt 0 (.go 4 <| .take 5 <| .bar 6 [] <| .done) <| .go 4 <| .go 0 <| .take 5 <| .bar 6 [] <| .done) <| .go 4 <| .alt 0 (.go 2 <| .take 5 <| .bar 6 [] <| .done) <| .go 2 <| .go 0 <| .take 5 <| .bar 6 [] <| .done) else (none))
  (fun i => none)
  (fun i => none)
set_option maxRecDepth 100000 in
theorem eq_burinref4_begun (C : CallP) (contexts : Int) (h : Heap) (K : Value → Heap → Prop) (Kp : List PanicEntry → Heap → Prop) :
    fnD Go.Proofs.Try.prog C hints_burinref4_begun Go.Proofs.Try.f75 [.int .i64 contexts] h K Kp = burinref4_begun C contexts h K Kp := by kernel_rfl

theorem call_burinref4_begun {contexts : Int} {h : Heap} {K : Value → Heap → Prop} {Kp : List PanicEntry → Heap → Prop} (H : burinref4_begun (CallsHP Go.Proofs.Try.prog) contexts h K Kp) : CallsHP Go.Proofs.Try.prog F_burinref4_begun #[.int .i64 contexts] h K Kp :=
  callsHP_of hints_burinref4_begun (by kernel_rfl) Go.Proofs.Try.func75 (by kernel_rfl) (by rw [eq_burinref4_begun]; exact H)

noncomputable def hints_burinref4_side_Index : Hints := Hints.mk (fun i => none)
  (fun i => none)
  (fun i => none)
set_option maxRecDepth 100000 in
theorem eq_burinref4_side_Index (C : CallP) (s : Option Addr) (context : Int) (h : Heap) (K : Value → Heap → Prop) (Kp : List PanicEntry → Heap → Prop) :
    fnD Go.Proofs.Try.prog C hints_burinref4_side_Index Go.Proofs.Try.f76 [.pointer s, .int .i64 context] h K Kp = burinref4_side_Index C s context h K Kp := by kernel_rfl

theorem call_burinref4_side_Index {s : Option Addr} {context : Int} {h : Heap} {K : Value → Heap → Prop} {Kp : List PanicEntry → Heap → Prop} (H : burinref4_side_Index (CallsHP Go.Proofs.Try.prog) s context h K Kp) : CallsHP Go.Proofs.Try.prog F_burinref4_side_Index #[.pointer s, .int .i64 context] h K Kp :=
  callsHP_of hints_burinref4_side_Index (by kernel_rfl) Go.Proofs.Try.func76 (by kernel_rfl) (by rw [eq_burinref4_side_Index]; exact H)

noncomputable def hints_burinref4_side_likely : Hints := Hints.mk (fun i => bif Nat.beq i 0 then some ([20], .take 0 <| .take 1 <| .take 2 <| .take 4 <| .take 5 <| .take 6 <| .take 7 <| .take 9 <| .take 10 <| .take 11 <| .take 13 <| .take 3 <| .take 8 <| .take 12 <| .take 14 <| .take 15 <| .take 16 <| .take 17 <| .take 18 <| .take 19 <| .bar 20 [] <| .done) else (none))
  (fun i => none)
  (fun i => none)
set_option maxRecDepth 100000 in
theorem eq_burinref4_side_likely (C : CallP) (s : Option Addr) (k : Int) (h : Heap) (K : Value → Heap → Prop) (Kp : List PanicEntry → Heap → Prop) :
    fnD Go.Proofs.Try.prog C hints_burinref4_side_likely Go.Proofs.Try.f77 [.pointer s, .int .i64 k] h K Kp = burinref4_side_likely C s k h K Kp := by kernel_rfl

theorem call_burinref4_side_likely {s : Option Addr} {k : Int} {h : Heap} {K : Value → Heap → Prop} {Kp : List PanicEntry → Heap → Prop} (H : burinref4_side_likely (CallsHP Go.Proofs.Try.prog) s k h K Kp) : CallsHP Go.Proofs.Try.prog F_burinref4_side_likely #[.pointer s, .int .i64 k] h K Kp :=
  callsHP_of hints_burinref4_side_likely (by kernel_rfl) Go.Proofs.Try.func77 (by kernel_rfl) (by rw [eq_burinref4_side_likely]; exact H)

noncomputable def hints_burinref4_side_other : Hints := Hints.mk (fun i => bif Nat.beq i 0 then some ([14], .take 0 <| .take 1 <| .take 2 <| .take 4 <| .take 5 <| .take 6 <| .take 8 <| .take 3 <| .take 7 <| .take 9 <| .take 10 <| .take 11 <| .take 12 <| .go 13 <| .bar 14 [] <| .done) else (bif Nat.beq i 2 then some ([14], .take 0 <| .take 1 <| .take 2 <| .take 4 <| .take 5 <| .take 6 <| .take 7 <| .take 9 <| .take 3 <| .take 8 <| .take 10 <| .take 11 <| .take 12 <| .take 13 <| .bar 14 [] <| .done) else (bif Nat.beq i 3 then some ([8], .take 0 <| .take 1 <| .take 2 <| .take 4 <| .take 5 <| .take 3 <| .take 6 <| .take 7 <| .bar 8 [] <| .done) else (none))))
  (fun i => none)
  (fun i => none)
set_option maxRecDepth 100000 in
theorem eq_burinref4_side_other (C : CallP) (s : Option Addr) (k : Int) (h : Heap) (K : Value → Heap → Prop) (Kp : List PanicEntry → Heap → Prop) :
    fnD Go.Proofs.Try.prog C hints_burinref4_side_other Go.Proofs.Try.f78 [.pointer s, .int .i64 k] h K Kp = burinref4_side_other C s k h K Kp := by kernel_rfl

theorem call_burinref4_side_other {s : Option Addr} {k : Int} {h : Heap} {K : Value → Heap → Prop} {Kp : List PanicEntry → Heap → Prop} (H : burinref4_side_other (CallsHP Go.Proofs.Try.prog) s k h K Kp) : CallsHP Go.Proofs.Try.prog F_burinref4_side_other #[.pointer s, .int .i64 k] h K Kp :=
  callsHP_of hints_burinref4_side_other (by kernel_rfl) Go.Proofs.Try.func78 (by kernel_rfl) (by rw [eq_burinref4_side_other]; exact H)

noncomputable def hints_burinref4_Coder_renew : Hints := Hints.mk (fun i => none)
  (fun i => bif Nat.beq i 1 then some ([(2, .bool)], 4398046511100) else (none))
  (fun i => bif Nat.beq i 3 then some ([], 2040) else (none))
set_option maxRecDepth 100000 in
theorem eq_burinref4_Coder_renew (C : CallP) (c : Option Addr) (h : Heap) (K : Value → Heap → Prop) (Kp : List PanicEntry → Heap → Prop) :
    fnD Go.Proofs.Try.prog C hints_burinref4_Coder_renew Go.Proofs.Try.f79 [.pointer c] h K Kp = burinref4_Coder_renew C c h K Kp := by kernel_rfl

theorem call_burinref4_Coder_renew {c : Option Addr} {h : Heap} {K : Value → Heap → Prop} {Kp : List PanicEntry → Heap → Prop} (H : burinref4_Coder_renew (CallsHP Go.Proofs.Try.prog) c h K Kp) : CallsHP Go.Proofs.Try.prog F_burinref4_Coder_renew #[.pointer c] h K Kp :=
  callsHP_of hints_burinref4_Coder_renew (by kernel_rfl) Go.Proofs.Try.func79 (by kernel_rfl) (by rw [eq_burinref4_Coder_renew]; exact H)

noncomputable def hints_burinref4_Coder_out : Hints := Hints.mk (fun i => bif Nat.beq i 7 then some ([12, 15], .take 0 <| .take 1 <| .take 2 <| .take 3 <| .take 5 <| .take 6 <| .take 7 <| .take 4 <| .take 8 <| .take 9 <| .take 10 <| .go 11 <| .bar 12 [15] <| .take 13 <| .take 14 <| .bar 15 [] <| .done) else (bif Nat.beq i 10 then some ([12, 15], .take 0 <| .take 1 <| .take 2 <| .take 3 <| .take 5 <| .take 6 <| .take 7 <| .take 4 <| .take 8 <| .take 9 <| .take 10 <| .go 11 <| .bar 12 [15] <| .take 13 <| .take 14 <| .bar 15 [] <| .done) else (none)))
  (fun i => none)
  (fun i => bif Nat.beq i 3 then some ([(26, .bool)], 133955584) else (bif Nat.beq i 6 then some ([(3, .bool)], 4503599627108360) else (none)))
set_option maxRecDepth 100000 in
theorem eq_burinref4_Coder_out (C : CallP) (a0 : Option Addr) (h : Heap) (K : Value → Heap → Prop) (Kp : List PanicEntry → Heap → Prop) :
    fnD Go.Proofs.Try.prog C hints_burinref4_Coder_out Go.Proofs.Try.f80 [.pointer a0] h K Kp = burinref4_Coder_out C a0 h K Kp := by kernel_rfl

theorem call_burinref4_Coder_out {a0 : Option Addr} {h : Heap} {K : Value → Heap → Prop} {Kp : List PanicEntry → Heap → Prop} (H : burinref4_Coder_out (CallsHP Go.Proofs.Try.prog) a0 h K Kp) : CallsHP Go.Proofs.Try.prog F_burinref4_Coder_out #[.pointer a0] h K Kp :=
  callsHP_of hints_burinref4_Coder_out (by kernel_rfl) Go.Proofs.Try.func80 (by kernel_rfl) (by rw [eq_burinref4_Coder_out]; exact H)

noncomputable def hints_burinref4_Decoder_byte : Hints := Hints.mk (fun i => none)
  (fun i => none)
  (fun i => none)
set_option maxRecDepth 100000 in
theorem eq_burinref4_Decoder_byte (C : CallP) (d : Option Addr) (atv : Int) (h : Heap) (K : Value → Heap → Prop) (Kp : List PanicEntry → Heap → Prop) :
    fnD Go.Proofs.Try.prog C hints_burinref4_Decoder_byte Go.Proofs.Try.f81 [.pointer d, .int .i64 atv] h K Kp = burinref4_Decoder_byte C d atv h K Kp := by kernel_rfl

theorem call_burinref4_Decoder_byte {d : Option Addr} {atv : Int} {h : Heap} {K : Value → Heap → Prop} {Kp : List PanicEntry → Heap → Prop} (H : burinref4_Decoder_byte (CallsHP Go.Proofs.Try.prog) d atv h K Kp) : CallsHP Go.Proofs.Try.prog F_burinref4_Decoder_byte #[.pointer d, .int .i64 atv] h K Kp :=
  callsHP_of hints_burinref4_Decoder_byte (by kernel_rfl) Go.Proofs.Try.func81 (by kernel_rfl) (by rw [eq_burinref4_Decoder_byte]; exact H)

noncomputable def hints_burinref4_Decoder_in : Hints := Hints.mk (fun i => bif Nat.beq i 9 then some ([15], .take 0 <| .take 1 <| .take 2 <| .take 3 <| .take 5 <| .take 6 <| .take 7 <| .take 8 <| .take 4 <| .take 9 <| .go 10 <| .take 11 <| .take 12 <| .take 13 <| .take 14 <| .bar 15 [] <| .done) else (none))
  (fun i => none)
  (fun i => none)
set_option maxRecDepth 100000 in
theorem eq_burinref4_Decoder_in (C : CallP) (a0 : Option Addr) (h : Heap) (K : Value → Heap → Prop) (Kp : List PanicEntry → Heap → Prop) :
    fnD Go.Proofs.Try.prog C hints_burinref4_Decoder_in Go.Proofs.Try.f82 [.pointer a0] h K Kp = burinref4_Decoder_in C a0 h K Kp := by kernel_rfl

theorem call_burinref4_Decoder_in {a0 : Option Addr} {h : Heap} {K : Value → Heap → Prop} {Kp : List PanicEntry → Heap → Prop} (H : burinref4_Decoder_in (CallsHP Go.Proofs.Try.prog) a0 h K Kp) : CallsHP Go.Proofs.Try.prog F_burinref4_Decoder_in #[.pointer a0] h K Kp :=
  callsHP_of hints_burinref4_Decoder_in (by kernel_rfl) Go.Proofs.Try.func82 (by kernel_rfl) (by rw [eq_burinref4_Decoder_in]; exact H)

noncomputable def hints_burinref4_Decoder_renew : Hints := Hints.mk (fun i => none)
  (fun i => bif Nat.beq i 1 then some ([(2, .bool)], 4398046511100) else (none))
  (fun i => bif Nat.beq i 3 then some ([], 2040) else (bif Nat.beq i 5 then some ([], 260096) else (none)))
set_option maxRecDepth 100000 in
theorem eq_burinref4_Decoder_renew (C : CallP) (d : Option Addr) (h : Heap) (K : Value → Heap → Prop) (Kp : List PanicEntry → Heap → Prop) :
    fnD Go.Proofs.Try.prog C hints_burinref4_Decoder_renew Go.Proofs.Try.f83 [.pointer d] h K Kp = burinref4_Decoder_renew C d h K Kp := by kernel_rfl

theorem call_burinref4_Decoder_renew {d : Option Addr} {h : Heap} {K : Value → Heap → Prop} {Kp : List PanicEntry → Heap → Prop} (H : burinref4_Decoder_renew (CallsHP Go.Proofs.Try.prog) d h K Kp) : CallsHP Go.Proofs.Try.prog F_burinref4_Decoder_renew #[.pointer d] h K Kp :=
  callsHP_of hints_burinref4_Decoder_renew (by kernel_rfl) Go.Proofs.Try.func83 (by kernel_rfl) (by rw [eq_burinref4_Decoder_renew]; exact H)

noncomputable def hints_burinref4_table : Hints := Hints.mk (fun i => none)
  (fun i => bif Nat.beq i 3 then some ([(1, .slc), (2, .int .i64)], 4094) else (none))
  (fun i => none)
set_option maxRecDepth 100000 in
theorem eq_burinref4_table (C : CallP)  (h : Heap) (K : Value → Heap → Prop) (Kp : List PanicEntry → Heap → Prop) :
    fnD Go.Proofs.Try.prog C hints_burinref4_table Go.Proofs.Try.f95 [] h K Kp = burinref4_table C  h K Kp := by kernel_rfl

theorem call_burinref4_table  {h : Heap} {K : Value → Heap → Prop} {Kp : List PanicEntry → Heap → Prop} (H : burinref4_table (CallsHP Go.Proofs.Try.prog)  h K Kp) : CallsHP Go.Proofs.Try.prog F_burinref4_table #[] h K Kp :=
  callsHP_of hints_burinref4_table (by kernel_rfl) Go.Proofs.Try.func95 (by kernel_rfl) (by rw [eq_burinref4_table]; exact H)

noncomputable def hints_burinref4_row : Hints := Hints.mk (fun i => bif Nat.beq i 4 then some ([23], .take 0 <| .take 1 <| .take 2 <| .take 4 <| .take 5 <| .take 6 <| .take 8 <| .take 9 <| .take 10 <| .take 12 <| .take 13 <| .take 14 <| .take 15 <| .take 16 <| .take 17 <| .take 18 <| .take 19 <| .take 20 <| .take 21 <| .take 3 <| .take 7 <| .take 11 <| .take 22 <| .bar 23 [] <| .done) else (none))
  (fun i => none)
  (fun i => none)
set_option maxRecDepth 100000 in
theorem eq_burinref4_row (C : CallP) (n : Int) (h : Heap) (K : Value → Heap → Prop) (Kp : List PanicEntry → Heap → Prop) :
    fnD Go.Proofs.Try.prog C hints_burinref4_row Go.Proofs.Try.f102 [.int .i64 n] h K Kp = burinref4_row C n h K Kp := by kernel_rfl

theorem call_burinref4_row {n : Int} {h : Heap} {K : Value → Heap → Prop} {Kp : List PanicEntry → Heap → Prop} (H : burinref4_row (CallsHP Go.Proofs.Try.prog) n h K Kp) : CallsHP Go.Proofs.Try.prog F_burinref4_row #[.int .i64 n] h K Kp :=
  callsHP_of hints_burinref4_row (by kernel_rfl) Go.Proofs.Try.func102 (by kernel_rfl) (by rw [eq_burinref4_row]; exact H)

end Go.Den.Ytlmopdohgipbeaa
