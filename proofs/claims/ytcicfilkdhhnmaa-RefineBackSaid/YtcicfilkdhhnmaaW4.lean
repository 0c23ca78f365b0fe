/- W4: put together by wip/tools/bundle.py: Bburinref4 ArR ArS ArT ArU ArV ArW ArX ArH ArY PgA PgB PgC PgD PgF RfE Mburinref8 Bburinref8 RfF RfG RfH RfI RfJ RfK BkA BkB. -/
import Derived.Test.YtcicfilkdhhnmaaW1
import Derived.Test.YtcicfilkdhhnmaaW2
import Derived.Test.YtcicfilkdhhnmaaW3
import Derived.Test.YtcicfilkdhhnmaaProg

/- Written by gen.py: each condition of the functions of burinref4 is the one of its body; so it is enough for its call. -/
set_option linter.unusedVariables false
set_option linter.unusedSimpArgs false
namespace Go.Den.Ytcicfilkdhhnmaa
open Go Go.Den

noncomputable def hints_burinref4_New : Hints := Hints.mk (fun i => none)
  (fun i => none)
  (fun i => none) []
set_option maxRecDepth 100000 in
theorem eq_burinref4_New (C : CallP) (contexts : Int) (h : Heap) (K : Value → Heap → Prop) (Kp : List PanicEntry → Heap → Prop) :
    fnD Go.Proofs.Try.prog C hints_burinref4_New Go.Proofs.Try.f44 [.int .i64 contexts] h K Kp = burinref4_New C contexts h K Kp := by kernel_rfl

theorem call_burinref4_New {contexts : Int} {h : Heap} {K : Value → Heap → Prop} {Kp : List PanicEntry → Heap → Prop} (H : burinref4_New (CallsHP Go.Proofs.Try.prog) contexts h K Kp) : CallsHP Go.Proofs.Try.prog F_burinref4_New #[.int .i64 contexts] h K Kp :=
  callsHP_of hints_burinref4_New (by kernel_rfl) Go.Proofs.Try.func44 (by kernel_rfl) (by rw [eq_burinref4_New]; exact H)

noncomputable def hints_burinref4_Coder_Flush : Hints := Hints.mk (fun i => bif Nat.beq i 4 then some ([], .take 0 <| .take 1 <| .take 2 <| .take 4 <| .take 5 <| .take 6 <| .take 3 <| .take 7 <| .take 8 <| .take 9 <| .done) else (bif Nat.beq i 8 then some ([14], .take 0 <| .take 1 <| .take 2 <| .take 3 <| .take 5 <| .take 6 <| .take 7 <| .take 4 <| .take 8 <| .take 9 <| .take 10 <| .take 11 <| .take 12 <| .take 13 <| .bar 14 [] <| .done) else (bif Nat.beq i 10 then some ([14], .take 0 <| .take 1 <| .take 2 <| .take 3 <| .take 5 <| .take 6 <| .take 7 <| .take 4 <| .take 8 <| .take 9 <| .take 10 <| .take 11 <| .take 12 <| .take 13 <| .bar 14 [] <| .done) else (none))))
  (fun i => none)
  (fun i => bif Nat.beq i 8 then some ([], 35182224605184) else (bif Nat.beq i 15 then some ([(5, .int .i64)], 9898684611004583682494169120) else (none))) []
set_option maxRecDepth 100000 in
theorem eq_burinref4_Coder_Flush (C : CallP) (a0 : Option Addr) (h : Heap) (K : Value → Heap → Prop) (Kp : List PanicEntry → Heap → Prop) :
    fnD Go.Proofs.Try.prog C hints_burinref4_Coder_Flush Go.Proofs.Try.f47 [.pointer a0] h K Kp = burinref4_Coder_Flush C a0 h K Kp := by kernel_rfl

theorem call_burinref4_Coder_Flush {a0 : Option Addr} {h : Heap} {K : Value → Heap → Prop} {Kp : List PanicEntry → Heap → Prop} (H : burinref4_Coder_Flush (CallsHP Go.Proofs.Try.prog) a0 h K Kp) : CallsHP Go.Proofs.Try.prog F_burinref4_Coder_Flush #[.pointer a0] h K Kp :=
  callsHP_of hints_burinref4_Coder_Flush (by kernel_rfl) Go.Proofs.Try.func47 (by kernel_rfl) (by rw [eq_burinref4_Coder_Flush]; exact H)

noncomputable def hints_burinref4_side_States : Hints := Hints.mk (fun i => bif Nat.beq i 5 then some ([18, 19], .take 0 <| .take 1 <| .take 2 <| .take 3 <| .take 5 <| .take 9 <| .take 10 <| .take 11 <| .take 13 <| .take 4 <| .take 6 <| .take 7 <| .take 8 <| .take 12 <| .take 14 <| .take 15 <| .take 16 <| .take 17 <| .bar 18 [19] <| .bar 19 [] <| .take 20 <| .done) else (none))
  (fun i => bif Nat.beq i 3 then some ([(3, .slc), (4, .int .i64)], 17179869176) else (none))
  (fun i => none) []
set_option maxRecDepth 100000 in
theorem eq_burinref4_side_States (C : CallP) (s : Option Addr) (h : Heap) (K : Value → Heap → Prop) (Kp : List PanicEntry → Heap → Prop) :
    fnD Go.Proofs.Try.prog C hints_burinref4_side_States Go.Proofs.Try.f49 [.pointer s] h K Kp = burinref4_side_States C s h K Kp := by kernel_rfl

theorem call_burinref4_side_States {s : Option Addr} {h : Heap} {K : Value → Heap → Prop} {Kp : List PanicEntry → Heap → Prop} (H : burinref4_side_States (CallsHP Go.Proofs.Try.prog) s h K Kp) : CallsHP Go.Proofs.Try.prog F_burinref4_side_States #[.pointer s] h K Kp :=
  callsHP_of hints_burinref4_side_States (by kernel_rfl) Go.Proofs.Try.func49 (by kernel_rfl) (by rw [eq_burinref4_side_States]; exact H)

noncomputable def hints_burinref4_NewDecoder : Hints := Hints.mk (fun i => none)
  (fun i => none)
  (fun i => none) []
set_option maxRecDepth 100000 in
theorem eq_burinref4_NewDecoder (C : CallP) (b : Option Addr) (bn : Nat) (bc : Nat) (contexts : Int) (h : Heap) (K : Value → Heap → Prop) (Kp : List PanicEntry → Heap → Prop) :
    fnD Go.Proofs.Try.prog C hints_burinref4_NewDecoder Go.Proofs.Try.f60 [.slice b bn bc, .int .i64 contexts] h K Kp = burinref4_NewDecoder C b bn bc contexts h K Kp := by kernel_rfl

theorem call_burinref4_NewDecoder {b : Option Addr} {bn : Nat} {bc : Nat} {contexts : Int} {h : Heap} {K : Value → Heap → Prop} {Kp : List PanicEntry → Heap → Prop} (H : burinref4_NewDecoder (CallsHP Go.Proofs.Try.prog) b bn bc contexts h K Kp) : CallsHP Go.Proofs.Try.prog F_burinref4_NewDecoder #[.slice b bn bc, .int .i64 contexts] h K Kp :=
  callsHP_of hints_burinref4_NewDecoder (by kernel_rfl) Go.Proofs.Try.func60 (by kernel_rfl) (by rw [eq_burinref4_NewDecoder]; exact H)

noncomputable def hints_burinref4_begun : Hints := Hints.mk (fun i => bif Nat.beq i 1 then some ([6], .take 1 <| .take 3 <| .alt 0 (.alt 2 (.go 4 <| .take 5 <| .bar 6 [] <| .done) <| .go 4 <| .go 2 <| .take 5 <| .bar 6 [] <| .done) <| .alt 2 (.alt 0 (.go 4 <| .take 5 <| .bar 6 [] <| .done) <| .go 4 <| .go 0 <| .take 5 <| .bar 6 [] <| .done) <| .go 4 <| .alt 0 (.go 2 <| .take 5 <| .bar 6 [] <| .done) <| .go 2 <| .go 0 <| .take 5 <| .bar 6 [] <| .done) else (none))
  (fun i => none)
  (fun i => none) []
set_option maxRecDepth 100000 in
theorem eq_burinref4_begun (C : CallP) (contexts : Int) (h : Heap) (K : Value → Heap → Prop) (Kp : List PanicEntry → Heap → Prop) :
    fnD Go.Proofs.Try.prog C hints_burinref4_begun Go.Proofs.Try.f82 [.int .i64 contexts] h K Kp = burinref4_begun C contexts h K Kp := by kernel_rfl

theorem call_burinref4_begun {contexts : Int} {h : Heap} {K : Value → Heap → Prop} {Kp : List PanicEntry → Heap → Prop} (H : burinref4_begun (CallsHP Go.Proofs.Try.prog) contexts h K Kp) : CallsHP Go.Proofs.Try.prog F_burinref4_begun #[.int .i64 contexts] h K Kp :=
  callsHP_of hints_burinref4_begun (by kernel_rfl) Go.Proofs.Try.func82 (by kernel_rfl) (by rw [eq_burinref4_begun]; exact H)

noncomputable def hints_burinref4_Coder_Put : Hints := Hints.mk (fun i => bif Nat.beq i 9 then some ([], .take 0 <| .take 1 <| .take 2 <| .take 3 <| .take 5 <| .take 6 <| .take 7 <| .take 8 <| .take 10 <| .take 4 <| .take 9 <| .take 11 <| .take 12 <| .take 13 <| .take 14 <| .take 15 <| .take 16 <| .done) else (none))
  (fun i => none)
  (fun i => bif Nat.beq i 5 then some ([], 516160) else (none)) []
set_option maxRecDepth 100000 in
theorem eq_burinref4_Coder_Put (C : CallP) (a0 : Option Addr) (a1 : Int) (a2 : Int) (h : Heap) (K : Value → Heap → Prop) (Kp : List PanicEntry → Heap → Prop) :
    fnD Go.Proofs.Try.prog C hints_burinref4_Coder_Put Go.Proofs.Try.f83 [.pointer a0, .int .i64 a1, .int .i64 a2] h K Kp = burinref4_Coder_Put C a0 a1 a2 h K Kp := by kernel_rfl

theorem call_burinref4_Coder_Put {a0 : Option Addr} {a1 : Int} {a2 : Int} {h : Heap} {K : Value → Heap → Prop} {Kp : List PanicEntry → Heap → Prop} (H : burinref4_Coder_Put (CallsHP Go.Proofs.Try.prog) a0 a1 a2 h K Kp) : CallsHP Go.Proofs.Try.prog F_burinref4_Coder_Put #[.pointer a0, .int .i64 a1, .int .i64 a2] h K Kp :=
  callsHP_of hints_burinref4_Coder_Put (by kernel_rfl) Go.Proofs.Try.func83 (by kernel_rfl) (by rw [eq_burinref4_Coder_Put]; exact H)

noncomputable def hints_burinref4_Coder_out : Hints := Hints.mk (fun i => bif Nat.beq i 7 then some ([12, 15], .take 0 <| .take 1 <| .take 2 <| .take 3 <| .take 5 <| .take 6 <| .take 7 <| .take 4 <| .take 8 <| .take 9 <| .take 10 <| .go 11 <| .bar 12 [15] <| .take 13 <| .take 14 <| .bar 15 [] <| .done) else (bif Nat.beq i 10 then some ([12, 15], .take 0 <| .take 1 <| .take 2 <| .take 3 <| .take 5 <| .take 6 <| .take 7 <| .take 4 <| .take 8 <| .take 9 <| .take 10 <| .go 11 <| .bar 12 [15] <| .take 13 <| .take 14 <| .bar 15 [] <| .done) else (none)))
  (fun i => none)
  (fun i => bif Nat.beq i 3 then some ([(26, .bool)], 133955584) else (bif Nat.beq i 6 then some ([(3, .bool)], 4503599627108360) else (none))) []
set_option maxRecDepth 100000 in
theorem eq_burinref4_Coder_out (C : CallP) (a0 : Option Addr) (h : Heap) (K : Value → Heap → Prop) (Kp : List PanicEntry → Heap → Prop) :
    fnD Go.Proofs.Try.prog C hints_burinref4_Coder_out Go.Proofs.Try.f86 [.pointer a0] h K Kp = burinref4_Coder_out C a0 h K Kp := by kernel_rfl

theorem call_burinref4_Coder_out {a0 : Option Addr} {h : Heap} {K : Value → Heap → Prop} {Kp : List PanicEntry → Heap → Prop} (H : burinref4_Coder_out (CallsHP Go.Proofs.Try.prog) a0 h K Kp) : CallsHP Go.Proofs.Try.prog F_burinref4_Coder_out #[.pointer a0] h K Kp :=
  callsHP_of hints_burinref4_Coder_out (by kernel_rfl) Go.Proofs.Try.func86 (by kernel_rfl) (by rw [eq_burinref4_Coder_out]; exact H)

noncomputable def hints_burinref4_Decoder_byte : Hints := Hints.mk (fun i => none)
  (fun i => none)
  (fun i => none) []
set_option maxRecDepth 100000 in
theorem eq_burinref4_Decoder_byte (C : CallP) (d : Option Addr) (atv : Int) (h : Heap) (K : Value → Heap → Prop) (Kp : List PanicEntry → Heap → Prop) :
    fnD Go.Proofs.Try.prog C hints_burinref4_Decoder_byte Go.Proofs.Try.f95 [.pointer d, .int .i64 atv] h K Kp = burinref4_Decoder_byte C d atv h K Kp := by kernel_rfl

theorem call_burinref4_Decoder_byte {d : Option Addr} {atv : Int} {h : Heap} {K : Value → Heap → Prop} {Kp : List PanicEntry → Heap → Prop} (H : burinref4_Decoder_byte (CallsHP Go.Proofs.Try.prog) d atv h K Kp) : CallsHP Go.Proofs.Try.prog F_burinref4_Decoder_byte #[.pointer d, .int .i64 atv] h K Kp :=
  callsHP_of hints_burinref4_Decoder_byte (by kernel_rfl) Go.Proofs.Try.func95 (by kernel_rfl) (by rw [eq_burinref4_Decoder_byte]; exact H)

noncomputable def hints_burinref4_Decoder_in : Hints := Hints.mk (fun i => bif Nat.beq i 9 then some ([15], .take 0 <| .take 1 <| .take 2 <| .take 3 <| .take 5 <| .take 6 <| .take 7 <| .take 8 <| .take 4 <| .take 9 <| .go 10 <| .take 11 <| .take 12 <| .take 13 <| .take 14 <| .bar 15 [] <| .done) else (none))
  (fun i => none)
  (fun i => none) []
set_option maxRecDepth 100000 in
theorem eq_burinref4_Decoder_in (C : CallP) (a0 : Option Addr) (h : Heap) (K : Value → Heap → Prop) (Kp : List PanicEntry → Heap → Prop) :
    fnD Go.Proofs.Try.prog C hints_burinref4_Decoder_in Go.Proofs.Try.f96 [.pointer a0] h K Kp = burinref4_Decoder_in C a0 h K Kp := by kernel_rfl

theorem call_burinref4_Decoder_in {a0 : Option Addr} {h : Heap} {K : Value → Heap → Prop} {Kp : List PanicEntry → Heap → Prop} (H : burinref4_Decoder_in (CallsHP Go.Proofs.Try.prog) a0 h K Kp) : CallsHP Go.Proofs.Try.prog F_burinref4_Decoder_in #[.pointer a0] h K Kp :=
  callsHP_of hints_burinref4_Decoder_in (by kernel_rfl) Go.Proofs.Try.func96 (by kernel_rfl) (by rw [eq_burinref4_Decoder_in]; exact H)

noncomputable def hints_burinref4_Decoder_Get : Hints := Hints.mk (fun i => bif Nat.beq i 5 then some ([], .take 0 <| .take 1 <| .take 2 <| .take 3 <| .take 5 <| .take 6 <| .take 7 <| .take 8 <| .take 10 <| .take 4 <| .take 9 <| .take 11 <| .take 12 <| .take 13 <| .take 14 <| .take 15 <| .take 16 <| .done) else (none))
  (fun i => none)
  (fun i => bif Nat.beq i 13 then some ([(8, .int .i64)], 154741914614862175656739072) else (none)) []
set_option maxRecDepth 100000 in
theorem eq_burinref4_Decoder_Get (C : CallP) (a0 : Option Addr) (a1 : Int) (h : Heap) (K : Value → Heap → Prop) (Kp : List PanicEntry → Heap → Prop) :
    fnD Go.Proofs.Try.prog C hints_burinref4_Decoder_Get Go.Proofs.Try.f98 [.pointer a0, .int .i64 a1] h K Kp = burinref4_Decoder_Get C a0 a1 h K Kp := by kernel_rfl

theorem call_burinref4_Decoder_Get {a0 : Option Addr} {a1 : Int} {h : Heap} {K : Value → Heap → Prop} {Kp : List PanicEntry → Heap → Prop} (H : burinref4_Decoder_Get (CallsHP Go.Proofs.Try.prog) a0 a1 h K Kp) : CallsHP Go.Proofs.Try.prog F_burinref4_Decoder_Get #[.pointer a0, .int .i64 a1] h K Kp :=
  callsHP_of hints_burinref4_Decoder_Get (by kernel_rfl) Go.Proofs.Try.func98 (by kernel_rfl) (by rw [eq_burinref4_Decoder_Get]; exact H)

noncomputable def hints_burinref4_table : Hints := Hints.mk (fun i => none)
  (fun i => bif Nat.beq i 3 then some ([(1, .slc), (2, .int .i64)], 4094) else (none))
  (fun i => none) []
set_option maxRecDepth 100000 in
theorem eq_burinref4_table (C : CallP)  (h : Heap) (K : Value → Heap → Prop) (Kp : List PanicEntry → Heap → Prop) :
    fnD Go.Proofs.Try.prog C hints_burinref4_table Go.Proofs.Try.f114 [] h K Kp = burinref4_table C  h K Kp := by kernel_rfl

theorem call_burinref4_table  {h : Heap} {K : Value → Heap → Prop} {Kp : List PanicEntry → Heap → Prop} (H : burinref4_table (CallsHP Go.Proofs.Try.prog)  h K Kp) : CallsHP Go.Proofs.Try.prog F_burinref4_table #[] h K Kp :=
  callsHP_of hints_burinref4_table (by kernel_rfl) Go.Proofs.Try.func114 (by kernel_rfl) (by rw [eq_burinref4_table]; exact H)

noncomputable def hints_burinref4_side_Index : Hints := Hints.mk (fun i => none)
  (fun i => none)
  (fun i => none) []
set_option maxRecDepth 100000 in
theorem eq_burinref4_side_Index (C : CallP) (s : Option Addr) (context : Int) (h : Heap) (K : Value → Heap → Prop) (Kp : List PanicEntry → Heap → Prop) :
    fnD Go.Proofs.Try.prog C hints_burinref4_side_Index Go.Proofs.Try.f115 [.pointer s, .int .i64 context] h K Kp = burinref4_side_Index C s context h K Kp := by kernel_rfl

theorem call_burinref4_side_Index {s : Option Addr} {context : Int} {h : Heap} {K : Value → Heap → Prop} {Kp : List PanicEntry → Heap → Prop} (H : burinref4_side_Index (CallsHP Go.Proofs.Try.prog) s context h K Kp) : CallsHP Go.Proofs.Try.prog F_burinref4_side_Index #[.pointer s, .int .i64 context] h K Kp :=
  callsHP_of hints_burinref4_side_Index (by kernel_rfl) Go.Proofs.Try.func115 (by kernel_rfl) (by rw [eq_burinref4_side_Index]; exact H)

noncomputable def hints_burinref4_side_likely : Hints := Hints.mk (fun i => bif Nat.beq i 0 then some ([20], .take 0 <| .take 1 <| .take 2 <| .take 4 <| .take 5 <| .take 6 <| .take 7 <| .take 9 <| .take 10 <| .take 11 <| .take 13 <| .take 3 <| .take 8 <| .take 12 <| .take 14 <| .take 15 <| .take 16 <| .take 17 <| .take 18 <| .take 19 <| .bar 20 [] <| .done) else (none))
  (fun i => none)
  (fun i => none) []
set_option maxRecDepth 100000 in
theorem eq_burinref4_side_likely (C : CallP) (s : Option Addr) (k : Int) (h : Heap) (K : Value → Heap → Prop) (Kp : List PanicEntry → Heap → Prop) :
    fnD Go.Proofs.Try.prog C hints_burinref4_side_likely Go.Proofs.Try.f116 [.pointer s, .int .i64 k] h K Kp = burinref4_side_likely C s k h K Kp := by kernel_rfl

theorem call_burinref4_side_likely {s : Option Addr} {k : Int} {h : Heap} {K : Value → Heap → Prop} {Kp : List PanicEntry → Heap → Prop} (H : burinref4_side_likely (CallsHP Go.Proofs.Try.prog) s k h K Kp) : CallsHP Go.Proofs.Try.prog F_burinref4_side_likely #[.pointer s, .int .i64 k] h K Kp :=
  callsHP_of hints_burinref4_side_likely (by kernel_rfl) Go.Proofs.Try.func116 (by kernel_rfl) (by rw [eq_burinref4_side_likely]; exact H)

noncomputable def hints_burinref4_side_other : Hints := Hints.mk (fun i => bif Nat.beq i 0 then some ([14], .take 0 <| .take 1 <| .take 2 <| .take 4 <| .take 5 <| .take 6 <| .take 8 <| .take 3 <| .take 7 <| .take 9 <| .take 10 <| .take 11 <| .take 12 <| .go 13 <| .bar 14 [] <| .done) else (bif Nat.beq i 2 then some ([14], .take 0 <| .take 1 <| .take 2 <| .take 4 <| .take 5 <| .take 6 <| .take 7 <| .take 9 <| .take 3 <| .take 8 <| .take 10 <| .take 11 <| .take 12 <| .take 13 <| .bar 14 [] <| .done) else (bif Nat.beq i 3 then some ([8], .take 0 <| .take 1 <| .take 2 <| .take 4 <| .take 5 <| .take 3 <| .take 6 <| .take 7 <| .bar 8 [] <| .done) else (none))))
  (fun i => none)
  (fun i => none) []
set_option maxRecDepth 100000 in
theorem eq_burinref4_side_other (C : CallP) (s : Option Addr) (k : Int) (h : Heap) (K : Value → Heap → Prop) (Kp : List PanicEntry → Heap → Prop) :
    fnD Go.Proofs.Try.prog C hints_burinref4_side_other Go.Proofs.Try.f117 [.pointer s, .int .i64 k] h K Kp = burinref4_side_other C s k h K Kp := by kernel_rfl

theorem call_burinref4_side_other {s : Option Addr} {k : Int} {h : Heap} {K : Value → Heap → Prop} {Kp : List PanicEntry → Heap → Prop} (H : burinref4_side_other (CallsHP Go.Proofs.Try.prog) s k h K Kp) : CallsHP Go.Proofs.Try.prog F_burinref4_side_other #[.pointer s, .int .i64 k] h K Kp :=
  callsHP_of hints_burinref4_side_other (by kernel_rfl) Go.Proofs.Try.func117 (by kernel_rfl) (by rw [eq_burinref4_side_other]; exact H)

noncomputable def hints_burinref4_Coder_renew : Hints := Hints.mk (fun i => none)
  (fun i => bif Nat.beq i 1 then some ([(2, .bool)], 4398046511100) else (none))
  (fun i => bif Nat.beq i 3 then some ([], 2040) else (none)) []
set_option maxRecDepth 100000 in
theorem eq_burinref4_Coder_renew (C : CallP) (c : Option Addr) (h : Heap) (K : Value → Heap → Prop) (Kp : List PanicEntry → Heap → Prop) :
    fnD Go.Proofs.Try.prog C hints_burinref4_Coder_renew Go.Proofs.Try.f118 [.pointer c] h K Kp = burinref4_Coder_renew C c h K Kp := by kernel_rfl

theorem call_burinref4_Coder_renew {c : Option Addr} {h : Heap} {K : Value → Heap → Prop} {Kp : List PanicEntry → Heap → Prop} (H : burinref4_Coder_renew (CallsHP Go.Proofs.Try.prog) c h K Kp) : CallsHP Go.Proofs.Try.prog F_burinref4_Coder_renew #[.pointer c] h K Kp :=
  callsHP_of hints_burinref4_Coder_renew (by kernel_rfl) Go.Proofs.Try.func118 (by kernel_rfl) (by rw [eq_burinref4_Coder_renew]; exact H)

noncomputable def hints_burinref4_Decoder_renew : Hints := Hints.mk (fun i => none)
  (fun i => bif Nat.beq i 1 then some ([(2, .bool)], 4398046511100) else (none))
  (fun i => bif Nat.beq i 3 then some ([], 2040) else (bif Nat.beq i 5 then some ([], 260096) else (none))) []
set_option maxRecDepth 100000 in
theorem eq_burinref4_Decoder_renew (C : CallP) (d : Option Addr) (h : Heap) (K : Value → Heap → Prop) (Kp : List PanicEntry → Heap → Prop) :
    fnD Go.Proofs.Try.prog C hints_burinref4_Decoder_renew Go.Proofs.Try.f120 [.pointer d] h K Kp = burinref4_Decoder_renew C d h K Kp := by kernel_rfl

theorem call_burinref4_Decoder_renew {d : Option Addr} {h : Heap} {K : Value → Heap → Prop} {Kp : List PanicEntry → Heap → Prop} (H : burinref4_Decoder_renew (CallsHP Go.Proofs.Try.prog) d h K Kp) : CallsHP Go.Proofs.Try.prog F_burinref4_Decoder_renew #[.pointer d] h K Kp :=
  callsHP_of hints_burinref4_Decoder_renew (by kernel_rfl) Go.Proofs.Try.func120 (by kernel_rfl) (by rw [eq_burinref4_Decoder_renew]; exact H)

noncomputable def hints_burinref4_row : Hints := Hints.mk (fun i => bif Nat.beq i 4 then some ([23], .take 0 <| .take 1 <| .take 2 <| .take 4 <| .take 5 <| .take 6 <| .take 8 <| .take 9 <| .take 10 <| .take 12 <| .take 13 <| .take 14 <| .take 15 <| .take 16 <| .take 17 <| .take 18 <| .take 19 <| .take 20 <| .take 21 <| .take 3 <| .take 7 <| .take 11 <| .take 22 <| .bar 23 [] <| .done) else (none))
  (fun i => none)
  (fun i => none) []
set_option maxRecDepth 100000 in
theorem eq_burinref4_row (C : CallP) (n : Int) (h : Heap) (K : Value → Heap → Prop) (Kp : List PanicEntry → Heap → Prop) :
    fnD Go.Proofs.Try.prog C hints_burinref4_row Go.Proofs.Try.f124 [.int .i64 n] h K Kp = burinref4_row C n h K Kp := by kernel_rfl

theorem call_burinref4_row {n : Int} {h : Heap} {K : Value → Heap → Prop} {Kp : List PanicEntry → Heap → Prop} (H : burinref4_row (CallsHP Go.Proofs.Try.prog) n h K Kp) : CallsHP Go.Proofs.Try.prog F_burinref4_row #[.int .i64 n] h K Kp :=
  callsHP_of hints_burinref4_row (by kernel_rfl) Go.Proofs.Try.func124 (by kernel_rfl) (by rw [eq_burinref4_row]; exact H)

end Go.Den.Ytcicfilkdhhnmaa

/- ArR: the document's own coder (burinref4) in memory: its table, its side, what its functions do. The same plain coder as ArA's. -/
set_option linter.unusedVariables false
set_option linter.unusedSimpArgs false
namespace Go.Ar
open Go Go.Den Go.Den.Ytcicfilkdhhnmaa

def i64s (l : List Nat) : List Value := l.map fun x : Nat => .int .i64 (x : Int)
theorem i64s_length (l : List Nat) : (i64s l).length = l.length := by simp [i64s]
theorem i64s_get {l : List Nat} {i x : Nat} (h : l[i]? = some x) : (i64s l)[i]? = some (.int .i64 (x : Int)) := by
  unfold i64s; rw [List.getElem?_map, h]; rfl
theorem i64s_set (l : List Nat) (i x : Nat) : i64s (l.set i x) = (i64s l).set i (.int .i64 (x : Int)) := by simp [i64s, List.map_set]
theorem tab_get {l : List Nat} (hl : l.length = 47) {k : Nat} (hk : k < 47) : (i64s l)[k]? = some (.int .i64 ((l.getD k 0 : Nat) : Int)) := by
  refine i64s_get ?_
  rw [List.getD_eq_getElem?_getD, List.getElem?_eq_getElem (by omega)]; rfl

def grow (k : Nat) : List Value := [.int .i64 (qOf k : Nat), .int .i64 (mOf k : Nat), .int .i64 (lOf k : Nat), .bool (cOf k == 1)]
def growsN : Nat → List Value
  | 0 => []
  | n + 1 => growsN n ++ grow n
theorem growsN_length : ∀ n, (growsN n).length = 4 * n
  | 0 => rfl
  | n + 1 => by rw [growsN, List.length_append, growsN_length n]; show 4 * n + 4 = _; omega
theorem growsN_get : ∀ {n r j : Nat} {v : Value}, r < n → (grow r)[j]? = some v → (growsN n)[r * 4 + j]? = some v
  | 0, r, j, v, h, _ => by omega
  | n + 1, r, j, v, h, hv => by
    rw [growsN]
    have hj : j < 4 := (List.getElem?_eq_some_iff.1 hv).1
    rcases Nat.lt_or_ge r n with h1 | h1
    · exact get_app (growsN_get h1 hv)
    · have : r = n := by omega
      subst this
      have := app_get (growsN_length r) (R := growsN r) j hv
      rw [Nat.mul_comm] at this
      exact this

theorem c_row {k : Nat} (hk : k < 47) : (cOf k == 1) = (k == 0 || k == 6 || k == 14) := forall_lt_47 (p := fun k => (cOf k == 1) = (k == 0 || k == 6 || k == 14)) (by decide) hk

set_option maxRecDepth 100000 in
theorem row_ok {h : Heap} {k : Nat} (hk : k < 47) {K : Value → Heap → Prop} {Kp : List PanicEntry → Heap → Prop} (hK : ∀ h', hext h h' → K (.agg #[.int .i64 (qOf k : Nat), .int .i64 (mOf k : Nat), .int .i64 (lOf k : Nat), .bool (cOf k == 1)]) h') :
    CP F_burinref4_row #[.int .i64 (k : Nat)] h K Kp := by
  refine call_burinref4_row ?_
  unfold burinref4_row
  have H := Hp.nil h []
  have hc := c_row hk
  have hq : ∀ X, X = i64s qTab → X[k]? = some (.int .i64 ((qOf k : Nat) : Int)) := fun X e => e ▸ tab_get (by decide) hk
  have hm : ∀ X, X = i64s mTab → X[k]? = some (.int .i64 ((mOf k : Nat) : Int)) := fun X e => e ▸ tab_get (by decide) hk
  have hl : ∀ X, X = i64s lTab → X[k]? = some (.int .i64 ((lOf k : Nat) : Int)) := fun X e => e ▸ tab_get (by decide) hk
  refine newC_hp H fun r h H => ?_
  refine newC_hp H fun a h H => ?_
  refine newC_hp H fun b h H => ?_
  refine newC_hp H fun c h H => ?_
  refine needs_of (by omega) ?_
  refine needs_of (by omega) ?_
  refine needs_of (by omega) ?_
  simp only [Int.toNat_natCast, Nat.mul_one]
  refine bcase_of (fun h1 => ?_) fun h1 => ?_
  · have h1 : k = 0 := by simp at h1; omega
    try simp only [ptr_some_eq, add_mk, Nat.zero_add, Nat.add_zero]
    refine ldI_of (H.cell 1 rfl (hq _ (by kernel_rfl))) ?_
    refine ldI_of (H.cell 2 rfl (hm _ (by kernel_rfl))) ?_
    refine ldI_of (H.cell 3 rfl (hl _ (by kernel_rfl))) ?_
    refine stV_hp H 0 rfl (by first | exact Nat.le_of_ble_eq_true rfl | simp) rfl fun h hsz H => ?_
    refine stV_hp H 0 rfl (by first | exact Nat.le_of_ble_eq_true rfl | simp) rfl fun h hsz H => ?_
    refine stV_hp H 0 rfl (by first | exact Nat.le_of_ble_eq_true rfl | simp) rfl fun h hsz H => ?_
    refine stV_hp H 0 rfl (by first | exact Nat.le_of_ble_eq_true rfl | simp) rfl fun h hsz H => ?_
    refine ldI_of (H.cell 0 rfl rfl) ?_
    refine ldI_of (H.cell 0 rfl rfl) ?_
    refine ldI_of (H.cell 0 rfl rfl) ?_
    refine ldB_of (H.cell 0 rfl rfl) ?_
    have := hK _ H.hext
    have e : (cOf k == 1) = true := by rw [hc, h1]; rfl
    rw [e] at this
    exact this
  · have h1 : k ≠ 0 := by simp at h1; omega
    refine bcase_of (fun h2 => ?_) fun h2 => ?_
    · have h2 : k = 6 := by simp at h2; omega
      try simp only [ptr_some_eq, add_mk, Nat.zero_add, Nat.add_zero]
      refine ldI_of (H.cell 1 rfl (hq _ (by kernel_rfl))) ?_
      refine ldI_of (H.cell 2 rfl (hm _ (by kernel_rfl))) ?_
      refine ldI_of (H.cell 3 rfl (hl _ (by kernel_rfl))) ?_
      refine stV_hp H 0 rfl (by first | exact Nat.le_of_ble_eq_true rfl | simp) rfl fun h hsz H => ?_
      refine stV_hp H 0 rfl (by first | exact Nat.le_of_ble_eq_true rfl | simp) rfl fun h hsz H => ?_
      refine stV_hp H 0 rfl (by first | exact Nat.le_of_ble_eq_true rfl | simp) rfl fun h hsz H => ?_
      refine stV_hp H 0 rfl (by first | exact Nat.le_of_ble_eq_true rfl | simp) rfl fun h hsz H => ?_
      refine ldI_of (H.cell 0 rfl rfl) ?_
      refine ldI_of (H.cell 0 rfl rfl) ?_
      refine ldI_of (H.cell 0 rfl rfl) ?_
      refine ldB_of (H.cell 0 rfl rfl) ?_
      have := hK _ H.hext
      have e : (cOf k == 1) = true := by rw [hc, h2]; rfl
      rw [e] at this
      exact this
    · have h2 : k ≠ 6 := by simp at h2; omega
      try simp only [ptr_some_eq, add_mk, Nat.zero_add, Nat.add_zero]
      refine ldI_of (H.cell 1 rfl (hq _ (by kernel_rfl))) ?_
      refine ldI_of (H.cell 2 rfl (hm _ (by kernel_rfl))) ?_
      refine ldI_of (H.cell 3 rfl (hl _ (by kernel_rfl))) ?_
      refine stV_hp H 0 rfl (by first | exact Nat.le_of_ble_eq_true rfl | simp) rfl fun h hsz H => ?_
      refine stV_hp H 0 rfl (by first | exact Nat.le_of_ble_eq_true rfl | simp) rfl fun h hsz H => ?_
      refine stV_hp H 0 rfl (by first | exact Nat.le_of_ble_eq_true rfl | simp) rfl fun h hsz H => ?_
      refine stV_hp H 0 rfl (by first | exact Nat.le_of_ble_eq_true rfl | simp) rfl fun h hsz H => ?_
      refine ldI_of (H.cell 0 rfl rfl) ?_
      refine ldI_of (H.cell 0 rfl rfl) ?_
      refine ldI_of (H.cell 0 rfl rfl) ?_
      refine ldB_of (H.cell 0 rfl rfl) ?_
      have := hK _ H.hext
      have e : (((k : Nat) : Int) == 14) = (cOf k == 1) := by
        rw [hc]
        by_cases h3 : k = 14
        · subst h3; rfl
        · have e1 : (((k : Nat) : Int) == 14) = false := by simp; omega
          have e2 : (k == 0 || k == 6 || k == 14) = false := by simp [h1, h2, h3]
          rw [e1, e2]
      rw [e]
      exact this

/-! ### the table -/
theorem table_ok {h : Heap} {K : Value → Heap → Prop} {Kp : List PanicEntry → Heap → Prop} (hK : ∀ g rest c h', Hp h [] h' [⟨g, true, T_burinref4_Row, growsN 47 ++ rest⟩] → K (.slice (at0 g) 47 c) h') :
    CP F_burinref4_table #[] h K Kp := by
  refine call_burinref4_table ?_
  unfold burinref4_table
  refine ⟨fun n vs h' => ∃ i : Nat, i + n = 47 ∧ ((i = 0 ∧ vs = [.slice none 0 0, .int .i64 0] ∧ h' = h) ∨ ∃ g rest c, 1 ≤ i ∧ vs = [.slice (at0 g) i c, .int .i64 (i : Int)] ∧ (growsN i ++ rest).length = c * 4 ∧ Hp h [] h' [⟨g, true, T_burinref4_Row, growsN i ++ rest⟩]),
    ⟨47, 0, rfl, .inl ⟨rfl, rfl, rfl⟩⟩, ?_⟩
  rintro n h' u t tn tc x ⟨i, hin, ⟨rfl, hx, rfl⟩ | ⟨g, rest, c, hi1, hx, hlen, H⟩⟩
  · injection hx with hx1 hx
    injection hx1 with e1 e2 e3
    injection hx with hx
    injection hx with _ hx
    subst e1 e2 e3 hx
    refine bcase_true (by rfl) ?_
    refine row_ok (k := 0) (by decide) fun h2 e => ?_
    refine ⟨_, _, _, _, rfl, ?_⟩
    have H := (Hp.nil h' []).ext e
    refine newC_hp H fun r h H => ?_
    refine appC_newZ (sz := 4) (by_ := 32) (m := 1) (z := [.int .i64 0, .int .i64 0, .int .i64 0, .bool false]) H rfl (rdO_hp (o := 0) (n := 1 * 4) H 0 rfl (Nat.le_refl _)) rfl (Nat.le_refl _) (by decide) fun g rest c h3 hl hc e3 H => ?_
    refine bindI_of (((1 : Nat) : Int)) (by decide) ?_
    exact ⟨n - 1, by omega, 1, by omega, .inr ⟨g, rest, c, Nat.le_refl _, rfl, hl, H.pick [1] (by decide) rfl⟩⟩
  · injection hx with hx1 hx
    injection hx1 with e1 e2 e3
    injection hx with hx
    injection hx with _ hx
    subst e1 e2 e3 hx
    refine bcase_of (fun h1 => ?_) fun h1 => ?_
    · have h1 : tn < 47 := by simp at h1; omega
      refine row_ok h1 fun h2 e => ?_
      refine ⟨_, _, _, _, rfl, ?_⟩
      have H := H.ext e
      refine newC_hp H fun r h H => ?_
      refine appC_ownZ (sz := 4) (by_ := 32) (m := 1) (z := [.int .i64 0, .int .i64 0, .int .i64 0, .bool false]) H 0 rfl rfl (by rw [growsN_length]; omega) hlen (rdO_hp (o := 0) (n := 1 * 4) H 1 rfl (Nat.le_refl _)) rfl ?_ (by omega) fun g' rest' c' h3 hl hc H => ?_
      · intro v hv
        have hv : v ∈ grow tn := hv
        simp only [grow, List.mem_cons, List.not_mem_nil, or_false] at hv
        rcases hv with rfl | rfl | rfl | rfl <;> rfl
      · refine bindI_of (((tn + 1 : Nat) : Int)) (by exact i64_at _ _ (by omega) (by omega) (by omega)) ?_
        exact ⟨n - 1, by omega, tn + 1, by omega, .inr ⟨g', rest', c', by omega, rfl, hl, H.take 1⟩⟩
    · have h1 : tn = 47 := by simp at h1; omega
      subst h1
      exact hK g rest _ _ H

end Go.Ar

/- ArS: the document's own coder in memory: begun, Index, likely, other, New, out, renew, Put. -/
set_option linter.unusedVariables false
set_option linter.unusedSimpArgs false
namespace Go.Ar
open Go Go.Den Go.Den.Ytcicfilkdhhnmaa

theorem i64s_cells (l : List Nat) : ∀ v ∈ i64s l, v.oneCell' = true := fun v hv => by
  obtain ⟨x, _, rfl⟩ := List.mem_map.1 hv; rfl
theorem i64s_zero (n : Nat) : repZ [.int .i64 0] n = i64s (List.replicate n 0) := by rw [repZ_one]; simp [i64s]
theorem set_same {α : Type} {l : List α} {k : Nat} {v : α} (h : l[k]? = some v) : l.set k v = l := by
  apply List.ext_getElem?
  intro j
  by_cases hj : k = j
  · subst hj
    rw [List.getElem?_set_self (List.getElem?_eq_some_iff.1 h).1, h]
  · rw [List.getElem?_set_ne hj]

set_option maxRecDepth 100000 in
theorem begun_ok {h : Heap} {n : Nat} (hn : n ≤ 131072) {K : Value → Heap → Prop} {Kp : List PanicEntry → Heap → Prop}
    (hK : ∀ g grest gc sq bq (sp : Ent) h', sp.w = true → Hp h [] h' [⟨g, true, T_burinref4_Row, growsN 47 ++ grest⟩, ⟨sq, true, T_int, i64s (List.replicate n 0)⟩, ⟨bq, true, T_int, i64s (List.replicate n 0)⟩, sp] →
      K (.agg #[.slice (at0 g) 47 gc, .slice (at0 sq) n n, .slice (at0 bq) n n, .int .i64 0]) h') :
    CP F_burinref4_begun #[.int .i64 (n : Nat)] h K Kp := by
  refine call_burinref4_begun ?_
  unfold burinref4_begun
  have H := Hp.nil h []
  refine newC_hp H fun r1 h H => ?_
  simp only [Int.toNat_natCast, i64s_zero]
  refine ⟨table_ok fun g grest gc h' H' => ⟨_, _, _, rfl, H'.hext, ?_⟩, ?_⟩
  · replace H := H.join H' rfl
    refine ⟨?_, ?_⟩
    · refine needs_of (by omega) ?_
      refine newC_hp H fun sq h H => ?_
      refine needs_of (by omega) ?_
      refine newC_hp H fun bq h H => ?_
      try simp only [ptr_some_eq, add_mk, Nat.zero_add, Nat.add_zero]
      refine stV_hp H 0 rfl (by first | exact Nat.le_of_ble_eq_true rfl | simp) rfl fun h hsz H => ?_
      refine stV_hp H 0 rfl (by first | exact Nat.le_of_ble_eq_true rfl | simp) rfl fun h hsz H => ?_
      refine stV_hp H 0 rfl (by first | exact Nat.le_of_ble_eq_true rfl | simp) rfl fun h hsz H => ?_
      refine stV_hp H 0 rfl (by first | exact Nat.le_of_ble_eq_true rfl | simp) rfl fun h hsz H => ?_
      refine ldS_of (H.cell 0 rfl rfl) ?_
      refine ldS_of (H.cell 0 rfl rfl) ?_
      refine ldS_of (H.cell 0 rfl rfl) ?_
      refine ldI_of (H.cell 0 rfl rfl) ?_
      exact hK g grest gc sq bq _ _ rfl (H.pick [1, 2, 3, 0] (by decide) rfl)
    · refine needs_of (by omega) ?_
      refine newC_hp H fun bq h H => ?_
      refine needs_of (by omega) ?_
      refine newC_hp H fun sq h H => ?_
      try simp only [ptr_some_eq, add_mk, Nat.zero_add, Nat.add_zero]
      refine stV_hp H 0 rfl (by first | exact Nat.le_of_ble_eq_true rfl | simp) rfl fun h hsz H => ?_
      refine stV_hp H 0 rfl (by first | exact Nat.le_of_ble_eq_true rfl | simp) rfl fun h hsz H => ?_
      refine stV_hp H 0 rfl (by first | exact Nat.le_of_ble_eq_true rfl | simp) rfl fun h hsz H => ?_
      refine stV_hp H 0 rfl (by first | exact Nat.le_of_ble_eq_true rfl | simp) rfl fun h hsz H => ?_
      refine ldS_of (H.cell 0 rfl rfl) ?_
      refine ldS_of (H.cell 0 rfl rfl) ?_
      refine ldS_of (H.cell 0 rfl rfl) ?_
      refine ldI_of (H.cell 0 rfl rfl) ?_
      exact hK g grest gc sq bq _ _ rfl (H.pick [1, 3, 2, 0] (by decide) rfl)
  · refine ⟨?_, ?_⟩
    · refine needs_of (by omega) ?_
      refine newC_hp H fun sq h H => ?_
      refine ⟨table_ok fun g grest gc h' H' => ⟨_, _, _, rfl, H'.hext, ?_⟩, ?_⟩
      · replace H := H.join H' rfl
        refine needs_of (by omega) ?_
        refine newC_hp H fun bq h H => ?_
        try simp only [ptr_some_eq, add_mk, Nat.zero_add, Nat.add_zero]
        refine stV_hp H 0 rfl (by first | exact Nat.le_of_ble_eq_true rfl | simp) rfl fun h hsz H => ?_
        refine stV_hp H 0 rfl (by first | exact Nat.le_of_ble_eq_true rfl | simp) rfl fun h hsz H => ?_
        refine stV_hp H 0 rfl (by first | exact Nat.le_of_ble_eq_true rfl | simp) rfl fun h hsz H => ?_
        refine stV_hp H 0 rfl (by first | exact Nat.le_of_ble_eq_true rfl | simp) rfl fun h hsz H => ?_
        refine ldS_of (H.cell 0 rfl rfl) ?_
        refine ldS_of (H.cell 0 rfl rfl) ?_
        refine ldS_of (H.cell 0 rfl rfl) ?_
        refine ldI_of (H.cell 0 rfl rfl) ?_
        exact hK g grest gc sq bq _ _ rfl (H.pick [2, 1, 3, 0] (by decide) rfl)
      · refine needs_of (by omega) ?_
        refine newC_hp H fun bq h H => ?_
        refine table_ok fun g grest gc h' H' => ⟨_, _, _, rfl, H'.hext, ?_⟩
        replace H := H.join H' rfl
        try simp only [ptr_some_eq, add_mk, Nat.zero_add, Nat.add_zero]
        refine stV_hp H 0 rfl (by first | exact Nat.le_of_ble_eq_true rfl | simp) rfl fun h hsz H => ?_
        refine stV_hp H 0 rfl (by first | exact Nat.le_of_ble_eq_true rfl | simp) rfl fun h hsz H => ?_
        refine stV_hp H 0 rfl (by first | exact Nat.le_of_ble_eq_true rfl | simp) rfl fun h hsz H => ?_
        refine stV_hp H 0 rfl (by first | exact Nat.le_of_ble_eq_true rfl | simp) rfl fun h hsz H => ?_
        refine ldS_of (H.cell 0 rfl rfl) ?_
        refine ldS_of (H.cell 0 rfl rfl) ?_
        refine ldS_of (H.cell 0 rfl rfl) ?_
        refine ldI_of (H.cell 0 rfl rfl) ?_
        exact hK g grest gc sq bq _ _ rfl (H.pick [3, 1, 2, 0] (by decide) rfl)
    · refine needs_of (by omega) ?_
      refine newC_hp H fun bq h H => ?_
      refine ⟨table_ok fun g grest gc h' H' => ⟨_, _, _, rfl, H'.hext, ?_⟩, ?_⟩
      · replace H := H.join H' rfl
        refine needs_of (by omega) ?_
        refine newC_hp H fun sq h H => ?_
        try simp only [ptr_some_eq, add_mk, Nat.zero_add, Nat.add_zero]
        refine stV_hp H 0 rfl (by first | exact Nat.le_of_ble_eq_true rfl | simp) rfl fun h hsz H => ?_
        refine stV_hp H 0 rfl (by first | exact Nat.le_of_ble_eq_true rfl | simp) rfl fun h hsz H => ?_
        refine stV_hp H 0 rfl (by first | exact Nat.le_of_ble_eq_true rfl | simp) rfl fun h hsz H => ?_
        refine stV_hp H 0 rfl (by first | exact Nat.le_of_ble_eq_true rfl | simp) rfl fun h hsz H => ?_
        refine ldS_of (H.cell 0 rfl rfl) ?_
        refine ldS_of (H.cell 0 rfl rfl) ?_
        refine ldS_of (H.cell 0 rfl rfl) ?_
        refine ldI_of (H.cell 0 rfl rfl) ?_
        exact hK g grest gc sq bq _ _ rfl (H.pick [2, 3, 1, 0] (by decide) rfl)
      · refine needs_of (by omega) ?_
        refine newC_hp H fun sq h H => ?_
        refine table_ok fun g grest gc h' H' => ⟨_, _, _, rfl, H'.hext, ?_⟩
        replace H := H.join H' rfl
        try simp only [ptr_some_eq, add_mk, Nat.zero_add, Nat.add_zero]
        refine stV_hp H 0 rfl (by first | exact Nat.le_of_ble_eq_true rfl | simp) rfl fun h hsz H => ?_
        refine stV_hp H 0 rfl (by first | exact Nat.le_of_ble_eq_true rfl | simp) rfl fun h hsz H => ?_
        refine stV_hp H 0 rfl (by first | exact Nat.le_of_ble_eq_true rfl | simp) rfl fun h hsz H => ?_
        refine stV_hp H 0 rfl (by first | exact Nat.le_of_ble_eq_true rfl | simp) rfl fun h hsz H => ?_
        refine ldS_of (H.cell 0 rfl rfl) ?_
        refine ldS_of (H.cell 0 rfl rfl) ?_
        refine ldS_of (H.cell 0 rfl rfl) ?_
        refine ldI_of (H.cell 0 rfl rfl) ?_
        exact hK g grest gc sq bq _ _ rfl (H.pick [3, 2, 1, 0] (by decide) rfl)

/-! ### the side: where a coder's or a decoder's row begins -/
def sideV (g gc sq bq m : Nat) (n : Nat) : List Value := [.slice (at0 g) 47 gc, .slice (at0 sq) m m, .slice (at0 bq) m m, .int .i64 (n : Nat)]
def half (st : List Nat) : List Nat := st.map (· / 2)
def low (st : List Nat) : List Nat := st.map (· % 2)
theorem half_get {st : List Nat} {k x : Nat} (h : st[k]? = some x) : (half st)[k]? = some (x / 2) := by unfold half; rw [List.getElem?_map, h]; rfl
theorem low_get {st : List Nat} {k x : Nat} (h : st[k]? = some x) : (low st)[k]? = some (x % 2) := by unfold low; rw [List.getElem?_map, h]; rfl
theorem half_set (st : List Nat) (k v : Nat) : half (st.set k v) = (half st).set k (v / 2) := List.map_set
theorem low_set (st : List Nat) (k v : Nat) : low (st.set k v) = (low st).set k (v % 2) := List.map_set

theorem index_ok {h : Heap} {p g gc sq bq m n : Nat} {F : List Nat} {h0 : Heap} {L : List Ent} (H : Hp h0 F h L) (kp : Nat) {w : Bool} {t : TypeId} {T : List Value} (hp : L[kp]? = some ⟨p, w, t, sideV g gc sq bq m n ++ T⟩) (hm : 1 ≤ m) (hm2 : m ≤ 131072)
    {ctx : Int} {K : Value → Heap → Prop} {Kp : List PanicEntry → Heap → Prop} (hk : K (.int .i64 (idx ctx m : Nat)) h) : CP F_burinref4_side_Index #[.pointer (at0 p), .int .i64 ctx] h K Kp := by
  refine call_burinref4_side_Index ?_
  unfold burinref4_side_Index
  have habs := tmod_abs ctx hm
  have e2 := Int.tmod_eq_emod (a := ctx) (b := (m : Int))
  have h1 := Int.emod_nonneg ctx (b := (m : Int)) (by omega)
  have hlt := Int.emod_lt_of_pos ctx (b := (m : Int)) (by omega)
  have e1 : ((idx ctx m : Nat) : Int) = ctx % m := by unfold idx; omega
  try simp only [ptr_some_eq, add_mk, Nat.zero_add, Nat.add_zero]
  refine ldS_of (H.cell kp hp rfl) ?_
  refine needs_of (by exact ⟨trivial, by omega⟩) ?_
  refine bindI_gen fun z ez => ?_
  subst ez
  refine bcase_of (fun h2 => ?_) fun h2 => ?_
  · have h2 : ctx.tmod m < 0 := of_decide_eq_true h2
    refine ldS_of (H.cell kp hp rfl) ?_
    refine bindI_of ((idx ctx m : Nat)) (by exact i64_at _ _ (by split at e2 <;> omega) (by omega) (by omega)) ?_
    exact hk
  · have h2 : ¬ ctx.tmod m < 0 := of_decide_eq_false h2
    have e3 : ctx.tmod m = ((idx ctx m : Nat) : Int) := by split at e2 <;> omega
    rw [e3]
    exact hk

theorem g_get {k j : Nat} {v : Value} {rest : List Value} (hk : k < 47) (h : (grow k)[j]? = some v) : (growsN 47 ++ rest)[k * 4 + j]? = some v := get_app (growsN_get hk h)

theorem slikely_ok {h : Heap} {p g gc sq bq n k x : Nat} {st : List Nat} {grest : List Value} {F : List Nat} {h0 : Heap} {L : List Ent} (H : Hp h0 F h L) (kp kg ks : Nat) {w wg : Bool} {t : TypeId} {T : List Value} (hp : L[kp]? = some ⟨p, w, t, sideV g gc sq bq st.length n ++ T⟩)
    (hg : L[kg]? = some ⟨g, wg, T_burinref4_Row, growsN 47 ++ grest⟩) (hs : L[ks]? = some ⟨sq, true, T_int, i64s (half st)⟩) (hx : st[k]? = some x) (hx94 : x < 94)
    {K : Value → Heap → Prop} {Kp : List PanicEntry → Heap → Prop} (hk : ∀ h', Hp h0 F h' (L.set ks ⟨sq, true, T_int, i64s (half (st.set k (upM x)))⟩) → K (.tuple #[]) h') :
    CP F_burinref4_side_likely #[.pointer (at0 p), .int .i64 (k : Nat)] h K Kp := by
  refine call_burinref4_side_likely ?_
  unfold burinref4_side_likely
  have hkl : k < st.length := (List.getElem?_eq_some_iff.1 hx).1
  have hr : x / 2 < 47 := by omega
  try simp only [ptr_some_eq, add_mk, Nat.zero_add, Nat.add_zero]
  refine ldS_of (H.cell kp hp rfl) (ldS_of (H.cell kp hp rfl) (ldS_of (H.cell kp hp rfl) ?_))
  refine needs_of (by omega) ?_
  try simp only [ptr_some_eq, add_mk, Nat.zero_add, Int.toNat_natCast, Nat.mul_one]
  refine ldI_of (H.cell ks hs (i64s_get (half_get hx))) ?_
  refine needs_of (by omega) ?_
  try simp only [ptr_some_eq, add_mk, Nat.zero_add, Int.toNat_natCast, Nat.mul_one]
  refine ldI_of (H.cell kg hg (g_get hr (j := 1) rfl)) ?_
  refine needs_of (by omega) ?_
  try simp only [ptr_some_eq, add_mk, Nat.zero_add]
  refine stV_hp H ks hs (by rw [i64s_length]; simpa [half] using hkl) rfl fun h' hsz H => hk _ ?_
  rw [half_set, i64s_set]
  have e : upM x / 2 = mOf (x / 2) := by unfold upM; omega
  rw [e]
  exact H

end Go.Ar

/- ArT: the document's own coder in memory: other, New, out, renew, Put, States. -/
set_option linter.unusedVariables false
set_option linter.unusedSimpArgs false
namespace Go.Ar
open Go Go.Den Go.Den.Ytcicfilkdhhnmaa

def sideL (p : Nat) (t : TypeId) (T : List Value) (g gc sq bq n : Nat) (st : List Nat) (grest : List Value) (e5 : Ent) : List Ent :=
  [⟨p, true, t, sideV g gc sq bq st.length n ++ T⟩, ⟨g, true, T_burinref4_Row, growsN 47 ++ grest⟩, ⟨sq, true, T_int, i64s (half st)⟩, ⟨bq, true, T_int, i64s (low st)⟩, e5]

theorem slk_ok {h : Heap} {p g gc sq bq n k x : Nat} {st : List Nat} {grest : List Value} {F : List Nat} {h0 : Heap} {t : TypeId} {T : List Value} {e5 : Ent} (H : Hp h0 F h (sideL p t T g gc sq bq n st grest e5)) (hx : st[k]? = some x) (hx94 : x < 94)
    {K : Value → Heap → Prop} {Kp : List PanicEntry → Heap → Prop} (hk : ∀ h', Hp h0 F h' (sideL p t T g gc sq bq n (st.set k (upM x)) grest e5) → K (.tuple #[]) h') :
    CP F_burinref4_side_likely #[.pointer (at0 p), .int .i64 (k : Nat)] h K Kp :=
  slikely_ok H 0 1 2 rfl rfl rfl hx hx94 fun h' H' => hk _ (H'.as (by
    have e : low (st.set k (upM x)) = low st := by
      rw [low_set]
      have e2 : upM x % 2 = x % 2 := by unfold upM; omega
      rw [e2]
      exact set_same (low_get hx)
    simp [sideL, e]))

set_option maxRecDepth 100000 in
theorem sother_ok {h : Heap} {p g gc sq bq n k x : Nat} {st : List Nat} {grest : List Value} {F : List Nat} {h0 : Heap} {t : TypeId} {T : List Value} {e5 : Ent} (H : Hp h0 F h (sideL p t T g gc sq bq n st grest e5)) (hx : st[k]? = some x) (hx94 : x < 94)
    {K : Value → Heap → Prop} {Kp : List PanicEntry → Heap → Prop} (hk : ∀ h', Hp h0 F h' (sideL p t T g gc sq bq n (st.set k (upL x)) grest e5) → K (.tuple #[]) h') :
    CP F_burinref4_side_other #[.pointer (at0 p), .int .i64 (k : Nat)] h K Kp := by
  refine call_burinref4_side_other ?_
  unfold burinref4_side_other
  have hkl : k < st.length := (List.getElem?_eq_some_iff.1 hx).1
  have hr : x / 2 < 47 := by omega
  have hc1 := cOf_le hr
  have eh : half (st.set k (upL x)) = (half st).set k (lOf (x / 2)) := by
    rw [half_set]; congr 1; unfold upL; omega
  have el : low (st.set k (upL x)) = (low st).set k ((x % 2 + cOf (x / 2)) % 2) := by
    rw [low_set]; congr 1; unfold upL; omega
  try simp only [ptr_some_eq, add_mk, Nat.zero_add, Nat.add_zero]
  refine ldS_of (H.cell 0 rfl rfl) ?_
  refine ldS_of (H.cell 0 rfl rfl) ?_
  refine needs_of (by omega) ?_
  try simp only [ptr_some_eq, add_mk, Nat.zero_add, Int.toNat_natCast, Nat.mul_one]
  refine ldI_of (H.cell 2 rfl (i64s_get (half_get hx))) ?_
  refine needs_of (by omega) ?_
  try simp only [ptr_some_eq, add_mk, Nat.zero_add, Int.toNat_natCast, Nat.mul_one]
  refine ldI_of (H.cell 1 rfl (g_get hr (j := 0) rfl)) ?_
  refine ldI_of (H.cell 1 rfl (g_get hr (j := 1) rfl)) ?_
  refine ldI_of (H.cell 1 rfl (g_get hr (j := 2) rfl)) ?_
  refine ldB_of (H.cell 1 rfl (g_get hr (j := 3) rfl)) ?_
  refine newC_hp H fun w h H => ?_
  try simp only [ptr_some_eq, add_mk, Nat.zero_add, Nat.add_zero]
  refine stV_hp H 5 rfl (by first | exact Nat.le_of_ble_eq_true rfl | simp) rfl fun h hsz H => ?_
  refine stV_hp H 5 rfl (by first | exact Nat.le_of_ble_eq_true rfl | simp) rfl fun h hsz H => ?_
  refine stV_hp H 5 rfl (by first | exact Nat.le_of_ble_eq_true rfl | simp) rfl fun h hsz H => ?_
  refine stV_hp H 5 rfl (by first | exact Nat.le_of_ble_eq_true rfl | simp) rfl fun h hsz H => ?_
  refine ldB_of (H.cell 5 rfl rfl) ?_
  refine bcase_of (fun h1 => ?_) fun h1 => ?_
  · have h1 : cOf (x / 2) = 1 := by simpa using h1
    refine ldS_of (H.cell 0 rfl rfl) ?_
    refine ldS_of (H.cell 0 rfl rfl) ?_
    refine needs_of (by omega) ?_
    try simp only [ptr_some_eq, add_mk, Nat.zero_add, Int.toNat_natCast, Nat.mul_one]
    refine ldI_of (H.cell 3 rfl (i64s_get (low_get hx))) ?_
    refine bindI_of (((1 - x % 2 : Nat) : Int)) (by exact i64_at _ _ (by omega) (by omega) (by omega)) ?_
    refine needs_of (by omega) ?_
    try simp only [ptr_some_eq, add_mk, Nat.zero_add, Int.toNat_natCast, Nat.mul_one]
    refine stV_hp H 3 rfl (by rw [i64s_length]; simpa [low] using hkl) rfl fun h hsz H => ?_
    refine ldS_of (H.cell 0 rfl rfl) ?_
    refine ldI_of (H.cell 5 rfl rfl) ?_
    refine needs_of (by omega) ?_
    try simp only [ptr_some_eq, add_mk, Nat.zero_add, Int.toNat_natCast, Nat.mul_one]
    refine stV_hp H 2 rfl (by rw [i64s_length]; simpa [half] using hkl) rfl fun h hsz H => ?_
    refine hk _ ((H.take 5).as ?_)
    have e3 : (x % 2 + cOf (x / 2)) % 2 = 1 - x % 2 := by rw [h1]; omega
    rw [e3] at el
    simp [sideL, eh, el, i64s_set]
  · have h1 : cOf (x / 2) = 0 := by
      have : cOf (x / 2) ≠ 1 := by simpa using h1
      omega
    refine ldS_of (H.cell 0 rfl rfl) ?_
    refine ldI_of (H.cell 5 rfl rfl) ?_
    refine needs_of (by omega) ?_
    try simp only [ptr_some_eq, add_mk, Nat.zero_add, Int.toNat_natCast, Nat.mul_one]
    refine stV_hp H 2 rfl (by rw [i64s_length]; simpa [half] using hkl) rfl fun h hsz H => ?_
    refine hk _ ((H.take 5).as ?_)
    have e3 : (x % 2 + cOf (x / 2)) % 2 = x % 2 := by rw [h1]; omega
    rw [e3] at el
    have el2 : low (st.set k (upL x)) = low st := el.trans (set_same (low_get hx))
    simp [sideL, eh, el2, i64s_set]

/-! ### the coder -/
def rrest (s : Cod) (r : Nat) (rest : List Value) : List Value :=
  [.int .i64 (s.a : Nat), .int .i64 (s.c : Nat), .int .i64 (s.t : Nat), .slice (at0 r) (s.bs.length + 1) (s.bs.length + 1 + rest.length), .bool s.done]
structure RP where
  p : Nat
  g : Nat
  gc : Nat
  sq : Nat
  bq : Nat
  grest : List Value
def refL (A : RP) (r : Nat) (s : Cod) (rest : List Value) : List Ent :=
  sideL A.p T_burinref4_Coder (rrest s r rest) A.g A.gc A.sq A.bq s.n s.st A.grest ⟨r, true, T_uint8, u8s (s.bs ++ [s.l]) ++ rest⟩

theorem rnew_ok {h : Heap} {n : Nat} (hn : n ≤ 131072) {K : Value → Heap → Prop} {Kp : List PanicEntry → Heap → Prop} (hk : ∀ A r h', Hp h [] h' (refL A r (newC n) []) → K (.pointer (at0 A.p)) h') : CP F_burinref4_New #[.int .i64 (n : Nat)] h K Kp := by
  refine call_burinref4_New ?_
  unfold burinref4_New
  refine begun_ok hn fun g grest gc sq bq sp h' hsp H => ?_
  refine ⟨_, _, _, _, _, _, _, _, _, _, rfl, ?_⟩
  refine newC_hp H fun r h H => ?_
  refine newC_hp H fun p h H => ?_
  refine hk ⟨p, g, gc, sq, bq, grest⟩ r _ ?_
  exact H.pick [5, 0, 1, 2, 4] (by decide) (by simp [refL, sideL, sideV, rrest, newC, half, low, u8s])

set_option maxRecDepth 100000 in
theorem rout_ok {h : Heap} {A : RP} {r : Nat} {s : Cod} {rest : List Value} {F : List Nat} {h0 : Heap} (H : Hp h0 F h (refL A r s rest)) (hl : s.l < 256) (hc : s.c < 4294967296) (hb : s.bs.length < 1000000000)
    {K : Value → Heap → Prop} {Kp : List PanicEntry → Heap → Prop} (hk : ∀ r' rest' h', Hp h0 F h' (refL A r' (outM s) rest') → K (.tuple #[]) h') :
    CP F_burinref4_Coder_out #[.pointer (at0 A.p)] h K Kp := by
  refine call_burinref4_Coder_out ?_
  unfold burinref4_Coder_out
  try simp only [ptr_some_eq, add_mk, Nat.zero_add, Nat.add_zero]
  refine ldS_of (H.cell 0 rfl rfl) ?_
  refine bindI_of (((s.bs.length : Nat) : Int)) (by exact i64_at _ _ (by omega) (by omega) (by omega)) ?_
  refine ldS_of (H.cell 0 rfl rfl) ?_
  refine needs_of (by constructor <;> omega) ?_
  try simp only [ptr_some_eq, add_mk, Nat.zero_add, Nat.add_zero]
  simp only [Int.toNat_natCast, Nat.mul_one]
  refine ldI_of (H.cell 4 rfl (last_get _ _ _)) ?_
  refine ⟨fun vs h' => vs = [.bool ((if s.l ≠ 255 ∧ 134217728 ≤ s.c then s.l + 1 else s.l) == 255)] ∧ Hp h0 F h' (refL A r (if s.l ≠ 255 ∧ 134217728 ≤ s.c then { s with l := s.l + 1, c := s.c % 134217728 } else s) rest), ?_, ?_⟩
  · refine ⟨fun vs h' => vs = [.bool (decide (s.l ≠ 255 ∧ 134217728 ≤ s.c))] ∧ h' = h, ?_, ?_⟩
    · refine bcase_of (fun h1 => ?_) fun h1 => ?_
      · refine ldI_of (H.cell 0 rfl rfl) ?_
        refine ⟨?_, rfl⟩
        have h1 : s.l ≠ 255 := by simp at h1; omega
        congr 2
        simp [h1]
        omega
      · refine ⟨?_, rfl⟩
        have h1 : s.l = 255 := by simp at h1; omega
        simp [h1]
    · rintro h' u x ⟨hx, rfl⟩
      injection hx with hx
      injection hx with hx
      subst hx
      refine bcase_of (fun h1 => ?_) fun h1 => ?_
      · have h1 : s.l ≠ 255 ∧ 134217728 ≤ s.c := of_decide_eq_true h1
        refine ldS_of (H.cell 0 rfl rfl) ?_
        refine needs_of (by constructor <;> omega) ?_
        try simp only [ptr_some_eq, add_mk, Nat.zero_add, Int.toNat_natCast, Nat.mul_one]
        refine ldI_of (H.cell 4 rfl (last_get _ _ _)) ?_
        refine bindI_of (((s.l + 1 : Nat) : Int)) (by rw [← u8_in (s.l + 1) (by omega)]; rfl) ?_
        refine needs_of (by constructor <;> omega) ?_
        try simp only [ptr_some_eq, add_mk, Nat.zero_add, Int.toNat_natCast, Nat.mul_one]
        refine stV_hp H 4 rfl (by simp [u8s_length]; omega) rfl fun h hsz H => ?_
        rw [last_set] at H
        refine ldI_of (H.cell 0 rfl rfl) ?_
        refine bindI_of (((s.c % 134217728 : Nat) : Int)) (by exact (and63 _ 134217727 (by omega) (by omega)).trans (by congr 1; exact Nat.and_two_pow_sub_one_eq_mod s.c 27)) ?_
        refine stV_hp H 0 rfl (by first | exact Nat.le_of_ble_eq_true rfl | simp) rfl fun h hsz H => ?_
        refine ldS_of (H.cell 0 rfl rfl) ?_
        refine needs_of (by constructor <;> omega) ?_
        try simp only [ptr_some_eq, add_mk, Nat.zero_add, Int.toNat_natCast, Nat.mul_one]
        refine ldI_of (H.cell 4 rfl (last_get _ _ _)) ?_
        rw [if_pos h1, if_pos h1]
        refine ⟨?_, H⟩
        congr 2
        rw [Bool.eq_iff_iff]
        simp
        omega
      · have h1 : ¬ (s.l ≠ 255 ∧ 134217728 ≤ s.c) := of_decide_eq_false h1
        rw [if_neg h1, if_neg h1]
        refine ⟨?_, H⟩
        congr 2
        rw [Bool.eq_iff_iff]
        simp
        omega
  · rintro h' u y ⟨hy, H'⟩
    injection hy with hy
    injection hy with hy
    have e : outM s = outTail (if s.l ≠ 255 ∧ 134217728 ≤ s.c then { s with l := s.l + 1, c := s.c % 134217728 } else s) (if s.l ≠ 255 ∧ 134217728 ≤ s.c then { s with l := s.l + 1, c := s.c % 134217728 } else s).l (if s.l ≠ 255 ∧ 134217728 ≤ s.c then { s with l := s.l + 1, c := s.c % 134217728 } else s).c := by
      unfold outM; split <;> rfl
    have hs' : (if s.l ≠ 255 ∧ 134217728 ≤ s.c then { s with l := s.l + 1, c := s.c % 134217728 } else s).l < 256 ∧ (if s.l ≠ 255 ∧ 134217728 ≤ s.c then { s with l := s.l + 1, c := s.c % 134217728 } else s).c < 4294967296 ∧ (if s.l ≠ 255 ∧ 134217728 ≤ s.c then { s with l := s.l + 1, c := s.c % 134217728 } else s).bs = s.bs ∧
        (if s.l ≠ 255 ∧ 134217728 ≤ s.c then { s with l := s.l + 1, c := s.c % 134217728 } else s).l = (if s.l ≠ 255 ∧ 134217728 ≤ s.c then s.l + 1 else s.l) := by
      split
      · exact ⟨by show s.l + 1 < 256; omega, by show s.c % 134217728 < _; omega, rfl, rfl⟩
      · exact ⟨hl, hc, rfl, rfl⟩
    generalize (if s.l ≠ 255 ∧ 134217728 ≤ s.c then { s with l := s.l + 1, c := s.c % 134217728 } else s) = s' at e hs' H'
    clear H
    obtain ⟨hl', hc', hb', hll⟩ := hs'
    rw [← hll] at hy
    subst hy
    rw [e] at hk
    rw [← hb'] at hb
    have H := H'
    clear H'
    refine bcase_of (fun h1 => ?_) fun h1 => ?_
    · have h1 : s'.l = 255 := by simpa using h1
      refine ldS_of (H.cell 0 rfl rfl) ?_
      refine ldI_of (H.cell 0 rfl rfl) ?_
      refine bindI_of (((s'.c / 1048576 : Nat) : Int)) (by exact shr_of (i := 20) (by decide)) ?_
      refine bindI_of (((s'.c / 1048576 % 256 : Nat) : Int)) (by rw [IntKind.wrap_u8]; omega) ?_
      refine newC_hp H fun b h H => ?_
      refine appC_own H 4 rfl (xs := u8s (s'.bs ++ [s'.l])) (by rw [u8s_length]; simp) (by rw [List.length_append, u8s_length]; simp) (rdO_hp (o := 0) (n := 1 * 1) H 5 rfl (Nat.le_refl _)) rfl (fun v hv => by rw [List.mem_singleton.1 hv]; rfl) (by omega) fun r' rest' h H => ?_
      refine stV_hp H 0 rfl (by first | exact Nat.le_of_ble_eq_true rfl | simp) rfl fun h hsz H => ?_
      refine ldI_of (H.cell 0 rfl rfl) ?_
      refine bindI_of (((s'.c % 1048576 : Nat) : Int)) (by exact (and63 _ 1048575 (by omega) (by omega)).trans (by congr 1; exact Nat.and_two_pow_sub_one_eq_mod s'.c 20)) ?_
      refine stV_hp H 0 rfl (by first | exact Nat.le_of_ble_eq_true rfl | simp) rfl fun h hsz H => ?_
      refine stV_hp H 0 rfl (by first | exact Nat.le_of_ble_eq_true rfl | simp) rfl fun h hsz H => ?_
      refine hk r' rest' _ ((H.take 5).as ?_)
      unfold outTail
      rw [if_pos h1]
      simp [refL, sideL, sideV, rrest, u8s]
      omega
    · have h1 : s'.l ≠ 255 := by simpa using h1
      refine ldS_of (H.cell 0 rfl rfl) ?_
      refine ldI_of (H.cell 0 rfl rfl) ?_
      refine bindI_of (((s'.c / 524288 : Nat) : Int)) (by exact shr_of (i := 19) (by decide)) ?_
      refine bindI_of (((s'.c / 524288 % 256 : Nat) : Int)) (by rw [IntKind.wrap_u8]; omega) ?_
      refine newC_hp H fun b h H => ?_
      refine appC_own H 4 rfl (xs := u8s (s'.bs ++ [s'.l])) (by rw [u8s_length]; simp) (by rw [List.length_append, u8s_length]; simp) (rdO_hp (o := 0) (n := 1 * 1) H 5 rfl (Nat.le_refl _)) rfl (fun v hv => by rw [List.mem_singleton.1 hv]; rfl) (by omega) fun r' rest' h H => ?_
      refine stV_hp H 0 rfl (by first | exact Nat.le_of_ble_eq_true rfl | simp) rfl fun h hsz H => ?_
      refine ldI_of (H.cell 0 rfl rfl) ?_
      refine bindI_of (((s'.c % 524288 : Nat) : Int)) (by exact (and63 _ 524287 (by omega) (by omega)).trans (by congr 1; exact Nat.and_two_pow_sub_one_eq_mod s'.c 19)) ?_
      refine stV_hp H 0 rfl (by first | exact Nat.le_of_ble_eq_true rfl | simp) rfl fun h hsz H => ?_
      refine stV_hp H 0 rfl (by first | exact Nat.le_of_ble_eq_true rfl | simp) rfl fun h hsz H => ?_
      refine hk r' rest' _ ((H.take 5).as ?_)
      unfold outTail
      rw [if_neg h1]
      simp [refL, sideL, sideV, rrest, u8s]
      omega

end Go.Ar

/- ArU: the document's own coder in memory: renew, Put, Flush, States. -/
set_option linter.unusedVariables false
set_option linter.unusedSimpArgs false
namespace Go.Ar
open Go Go.Den Go.Den.Ytcicfilkdhhnmaa

theorem mask32 {x : Nat} (hx : x < 4294967296) : bitI .and .i64 (x : Int) 4294967295 = ((x : Nat) : Int) :=
  (and63 x 4294967295 (by omega) (by omega)).trans (by congr 1; exact (Nat.and_two_pow_sub_one_eq_mod x 32).trans (Nat.mod_eq_of_lt hx))

set_option maxRecDepth 100000 in
theorem rrenew_ok {h : Heap} {A : RP} {r : Nat} {s : Cod} {rest : List Value} {F : List Nat} {h0 : Heap} (H : Hp h0 F h (refL A r s rest)) (hs : Mid s) (ha : 1 ≤ s.a) (ha' : s.a < 0x8000) (hb : s.bs.length < 999999983)
    {K : Value → Heap → Prop} {Kp : List PanicEntry → Heap → Prop} (hk : ∀ r' rest' h', Hp h0 F h' (refL A r' (renewM 17 s) rest') → K (.tuple #[]) h') :
    CP F_burinref4_Coder_renew #[.pointer (at0 A.p)] h K Kp := by
  generalize hR : renewM 17 s = R at hk
  refine call_burinref4_Coder_renew ?_
  unfold burinref4_Coder_renew
  refine ⟨fun n vs h' => ∃ (first : Bool) (s' : Cod) (r' : Nat) (rest' : List Value), vs = [.bool first] ∧ Hp h0 F h' (refL A r' s' rest') ∧ Mid s' ∧ s'.bs.length + n < 1000000000 ∧
      ((first = false ∧ 0x8000 ≤ s'.a ∧ s' = R) ∨ (s'.a < 0x8000 ∧ 0x8000 ≤ s'.a * 2 ^ n ∧ renewM n s' = R)),
    ⟨17, true, s, r, rest, rfl, H, hs, by omega, .inr ⟨ha', by have : (2 : Nat) ^ 17 = 131072 := rfl; omega, hR⟩⟩, ?_⟩
  clear H
  rintro n h u x ⟨first, s', r', rest', hx, H, hm, hbn, hc⟩
  injection hx with hx
  injection hx with hx
  subst hx
  refine ⟨fun vs h' => h' = h ∧ s'.a < 0x8000 ∧ 0x8000 ≤ s'.a * 2 ^ n ∧ renewM n s' = R, ?_, ?_⟩
  · refine bcase_of (fun h1 => ?_) fun h1 => ?_
    · rcases hc with ⟨h2, _⟩ | h2
      · rw [h1] at h2; cases h2
      · exact ⟨rfl, h2⟩
    · have hcell0 := H.cell 0 rfl (i := 4) (v := .int .i64 (s'.a : Nat)) rfl
      rcases hc with ⟨_, h2, h5⟩ | h2
      · have h4 : ¬ ((s'.a : Nat) : Int) < 32768 := by
          have : (32768 : Int) ≤ ((s'.a : Nat) : Int) := by exact_mod_cast h2
          exact Int.not_lt.2 this
        refine ldI_of (x := ((s'.a : Nat) : Int)) hcell0 ?_
        simp only [decide_eq_false h4]
        exact hk r' rest' _ (h5 ▸ H)
      · have h4 : ((s'.a : Nat) : Int) < 32768 := by exact_mod_cast h2.1
        refine ldI_of (x := ((s'.a : Nat) : Int)) hcell0 ?_
        simp only [decide_eq_true h4]
        exact ⟨by first | rfl | trivial, h2⟩
  · rintro h2 u ⟨rfl, hlt, hge, he⟩
    obtain ⟨n, rfl⟩ : ∃ m, n = m + 1 := by
      cases n with
      | zero => simp at hge; omega
      | succ m => exact ⟨m, rfl⟩
    have ht1 := hm.t1
    have ht2 := hm.t12
    have hca := hm.ca
    have hcp := pow_le ht1
    obtain ⟨g1, g2, g3, g4, g5, g6⟩ := shiftM_mid hm hlt
    have hnext : 0x8000 ≤ (shiftM s').a * 2 ^ n := by
      rw [g2]
      rw [Nat.pow_succ] at hge
      have : s'.a * (2 ^ n * 2) = 2 * s'.a * 2 ^ n := by rw [Nat.mul_comm (2 ^ n) 2, ← Nat.mul_assoc, Nat.mul_comm s'.a 2]
      omega
    rw [renewM_succ] at he
    have fin : ∀ (r2 : Nat) (rest2 : List Value) (h : Heap), Hp h0 F h (refL A r2 (shiftM s') rest2) → ∃ m, m < n + 1 ∧ ∃ (first : Bool) (s' : Cod) (r' : Nat) (rest' : List Value), [Value.bool false] = [.bool first] ∧ Hp h0 F h (refL A r' s' rest') ∧ Mid s' ∧ s'.bs.length + m < 1000000000 ∧
      ((first = false ∧ 0x8000 ≤ s'.a ∧ s' = R) ∨ (s'.a < 0x8000 ∧ 0x8000 ≤ s'.a * 2 ^ m ∧ renewM m s' = R)) := fun r2 rest2 h H => by
      refine ⟨n, Nat.lt_succ_self n, false, shiftM s', r2, rest2, rfl, H, g1, by omega, ?_⟩
      by_cases h3 : 0x8000 ≤ (shiftM s').a
      · rw [if_pos h3] at he; exact .inl ⟨rfl, h3, he⟩
      · rw [if_neg h3] at he; exact .inr ⟨by omega, hnext, he⟩
    try simp only [ptr_some_eq, add_mk, Nat.zero_add, Nat.add_zero]
    refine ldI_of (H.cell 0 rfl rfl) ?_
    refine bindI_of (((2 * s'.a : Nat) : Int)) (by exact i64_at _ _ (by omega) (by omega) (by omega)) ?_
    refine stV_hp H 0 rfl (by first | exact Nat.le_of_ble_eq_true rfl | simp) rfl fun h hsz H => ?_
    refine ldI_of (H.cell 0 rfl rfl) ?_
    refine bindI_of (((2 * s'.c : Nat) : Int)) (by exact i64_at _ _ (by omega) (by omega) (by omega)) ?_
    refine bindI_of _ (mask32 (by omega)) ?_
    refine stV_hp H 0 rfl (by first | exact Nat.le_of_ble_eq_true rfl | simp) rfl fun h hsz H => ?_
    refine ldI_of (H.cell 0 rfl rfl) ?_
    refine bindI_of (((s'.t - 1 : Nat) : Int)) (by exact i64_at _ _ (by omega) (by omega) (by omega)) ?_
    refine stV_hp H 0 rfl (by first | exact Nat.le_of_ble_eq_true rfl | simp) rfl fun h hsz H => ?_
    refine ldI_of (H.cell 0 rfl rfl) ?_
    have H2 : Hp h0 F h (refL A r' { s' with a := 2 * s'.a, c := 2 * s'.c, t := s'.t - 1 } rest') := H
    refine bcase_of (fun h1 => ?_) fun h1 => ?_
    · have h1 : s'.t - 1 = 0 := by simp at h1; omega
      rw [shiftM_eq, if_pos h1] at fin
      refine rout_ok H2 hm.l (by show 2 * s'.c < _; omega) (by show s'.bs.length < _; omega) fun r2 rest2 h2 H => ?_
      exact fin r2 rest2 _ H
    · have h1 : ¬ s'.t - 1 = 0 := by simp at h1; omega
      rw [shiftM_eq, if_neg h1] at fin
      exact fin r' rest' _ H2

set_option maxRecDepth 100000 in
theorem rput_ok {h : Heap} {A : RP} {r : Nat} {s : Cod} {rest : List Value} {F : List Nat} {h0 : Heap} (H : Hp h0 F h (refL A r s rest)) (hs : Wf s) (hd : s.done = false) (hn : s.n < 16777216) (hl : 1 ≤ s.st.length) (hl2 : s.st.length ≤ 131072)
    {ctx : Int} {bit : Nat} (hbit : bit ≤ 1) {K : Value → Heap → Prop} {Kp : List PanicEntry → Heap → Prop} (hk : ∀ r' rest' h', Hp h0 F h' (refL A r' (putM s (idx ctx s.st.length) bit) rest') → K (.int .i64 0) h') :
    CP F_burinref4_Coder_Put #[.pointer (at0 A.p), .int .i64 ctx, .int .i64 (bit : Nat)] h K Kp := by
  refine call_burinref4_Coder_Put ?_
  unfold burinref4_Coder_Put
  try simp only [ptr_some_eq, add_mk, Nat.zero_add, Nat.add_zero]
  refine ldB_of (H.cell 0 rfl (i := 8) (congrArg (fun b => some (Value.bool b)) hd)) ?_
  refine bcase_false (by rfl) ?_
  refine ⟨fun vs h' => h' = h, ?_, ?_⟩
  · refine bcase_of (fun h1 => ?_) fun h1 => rfl
    refine bcase_of (fun h2 => ?_) fun h2 => rfl
    simp at h1 h2; omega
  · rintro h' u rfl
    refine ldI_of (H.cell 0 rfl rfl) ?_
    refine bcase_false (by simp; omega) ?_
    refine ldI_of (H.cell 0 rfl rfl) ?_
    refine bindI_of (((s.n + 1 : Nat) : Int)) (by exact i64_at _ _ (by omega) (by omega) (by omega)) ?_
    refine stV_hp H 0 rfl (by first | exact Nat.le_of_ble_eq_true rfl | simp) rfl fun h hsz H => ?_
    have H2 : Hp h0 F h (refL A r { s with n := s.n + 1 } rest) := H
    refine index_ok (m := s.st.length) (n := s.n + 1) H2 0 rfl hl hl2 ?_
    refine ⟨_, rfl, ?_⟩
    have hil := idx_lt ctx hl
    obtain ⟨x, hx⟩ : ∃ x, s.st[idx ctx s.st.length]? = some x := ⟨_, List.getElem?_eq_getElem hil⟩
    have hx94 : x < 94 := hs.st x (List.mem_of_getElem? hx)
    rw [putM_at s _ bit x hx] at hk
    have hM := set_lt hs.st (k := idx ctx s.st.length) (upM_lt hx94)
    have hL := set_lt hs.st (k := idx ctx s.st.length) (upL_lt hx94)
    generalize idx ctx s.st.length = k at hk hM hL hx hil ⊢
    have hr : x / 2 < 47 := by omega
    have hq1 := qOf_pos hr
    have hq2 := qOf_le hr
    have hlo := hs.lo
    have hhi := hs.hi
    have hca := hs.ca
    have hcp := pow_le hs.t1
    have hlen := hs.len
    have H := H2
    clear H2
    refine ldS_of (H.cell 0 rfl rfl) ?_
    refine ldS_of (H.cell 0 rfl rfl) ?_
    refine needs_of (by first | omega | (refine ⟨by omega, ?_⟩; show ((k : Nat) : Int) < ((s.st.length : Nat) : Int); omega)) ?_
    try simp only [ptr_some_eq, add_mk, Nat.zero_add, Int.toNat_natCast, Nat.mul_one]
    refine ldI_of (H.cell 2 rfl (i64s_get (half_get hx))) ?_
    refine needs_of (by first | omega | (refine ⟨by omega, ?_⟩; show ((k : Nat) : Int) < ((s.st.length : Nat) : Int); omega)) ?_
    try simp only [ptr_some_eq, add_mk, Nat.zero_add, Int.toNat_natCast, Nat.mul_one]
    refine ldI_of (H.cell 1 rfl (g_get hr (j := 0) rfl)) ?_
    refine ldI_of (H.cell 0 rfl rfl) ?_
    refine bindI_of (((s.a - qOf (x / 2) : Nat) : Int)) (by exact i64_at _ _ (by show (s.a : Int) - ((qOf (x / 2) : Nat) : Int) = _; omega) (by omega) (by omega)) ?_
    refine stV_hp H 0 rfl (by first | exact Nat.le_of_ble_eq_true rfl | simp) rfl fun h hsz H => ?_
    refine ldS_of (H.cell 0 rfl rfl) ?_
    refine needs_of (by first | omega | (refine ⟨by omega, ?_⟩; show ((k : Nat) : Int) < ((s.st.length : Nat) : Int); omega)) ?_
    try simp only [ptr_some_eq, add_mk, Nat.zero_add, Int.toNat_natCast, Nat.mul_one]
    refine ldI_of (H.cell 3 rfl (i64s_get (low_get hx))) ?_
    have H2 : Hp h0 F h (refL A r { s with n := s.n + 1, a := s.a - qOf (x / 2) } rest) := H
    have H := H2
    clear H2
    refine bcase_of (fun h1 => ?_) fun h1 => ?_
    · have h1 : bit = x % 2 := by simp at h1; omega
      rw [if_pos h1] at hk
      refine ldI_of (H.cell 0 rfl rfl) ?_
      refine bcase_of (fun h2 => ?_) fun h2 => ?_
      · have h2 : 0x8000 ≤ s.a - qOf (x / 2) := by simp at h2; omega
        rw [if_pos h2] at hk
        refine ldI_of (H.cell 0 rfl rfl) ?_
        refine bindI_of (((s.c + qOf (x / 2) : Nat) : Int)) (by exact i64_at _ _ (by show (s.c : Int) + ((qOf (x / 2) : Nat) : Int) = _; omega) (by omega) (by omega)) ?_
        refine stV_hp H 0 rfl (by first | exact Nat.le_of_ble_eq_true rfl | simp) rfl fun h hsz H => ?_
        exact hk r rest _ H
      · have h2 : ¬ 0x8000 ≤ s.a - qOf (x / 2) := by simp at h2; omega
        rw [if_neg h2] at hk
        refine ldI_of (H.cell 0 rfl rfl) ?_
        refine bcase_of (fun h3 => ?_) fun h3 => ?_
        · have h3 : s.a - qOf (x / 2) < qOf (x / 2) := by simp at h3; omega
          rw [if_pos h3] at hk
          refine stV_hp H 0 rfl (by first | exact Nat.le_of_ble_eq_true rfl | simp) rfl fun h hsz H => ?_
          have H2 : Hp h0 F h (refL A r { s with n := s.n + 1, a := qOf (x / 2) } rest) := H
          refine slk_ok H2 hx hx94 fun h H => ?_
          exact rrenew_ok (r := r) (rest := rest) (s := { s with a := qOf (x / 2), n := s.n + 1, st := s.st.set k (upM x) }) (H.as (by simp [refL, sideL, sideV, rrest])) ⟨hs.t1, hs.t12, by show s.c + qOf _ < 2 ^ (28 - s.t); omega, hs.l, hs.bs, hM⟩ hq1 (by show qOf _ < _; omega) (by show s.bs.length < _; omega) hk
        · have h3 : ¬ s.a - qOf (x / 2) < qOf (x / 2) := by simp at h3; omega
          rw [if_neg h3] at hk
          refine ldI_of (H.cell 0 rfl rfl) ?_
          refine bindI_of (((s.c + qOf (x / 2) : Nat) : Int)) (by exact i64_at _ _ (by show (s.c : Int) + ((qOf (x / 2) : Nat) : Int) = _; omega) (by omega) (by omega)) ?_
          refine stV_hp H 0 rfl (by first | exact Nat.le_of_ble_eq_true rfl | simp) rfl fun h hsz H => ?_
          have H2 : Hp h0 F h (refL A r { s with n := s.n + 1, a := s.a - qOf (x / 2), c := s.c + qOf (x / 2) } rest) := H
          refine slk_ok H2 hx hx94 fun h H => ?_
          exact rrenew_ok (r := r) (rest := rest) (s := { s with a := s.a - qOf (x / 2), c := s.c + qOf (x / 2), n := s.n + 1, st := s.st.set k (upM x) }) (H.as (by simp [refL, sideL, sideV, rrest])) ⟨hs.t1, hs.t12, by show s.c + qOf _ + (s.a - qOf _) < 2 ^ (28 - s.t); omega, hs.l, hs.bs, hM⟩ (by show 1 ≤ s.a - qOf _; omega) (by show s.a - qOf _ < _; omega) (by show s.bs.length < _; omega) hk
    · have h1 : ¬ bit = x % 2 := by simp at h1; omega
      rw [if_neg h1] at hk
      refine ldI_of (H.cell 0 rfl rfl) ?_
      refine bcase_of (fun h3 => ?_) fun h3 => ?_
      · have h3 : s.a - qOf (x / 2) < qOf (x / 2) := by simp at h3; omega
        rw [if_pos h3] at hk
        refine ldI_of (H.cell 0 rfl rfl) ?_
        refine bindI_of (((s.c + qOf (x / 2) : Nat) : Int)) (by exact i64_at _ _ (by show (s.c : Int) + ((qOf (x / 2) : Nat) : Int) = _; omega) (by omega) (by omega)) ?_
        refine stV_hp H 0 rfl (by first | exact Nat.le_of_ble_eq_true rfl | simp) rfl fun h hsz H => ?_
        have H2 : Hp h0 F h (refL A r { s with n := s.n + 1, a := s.a - qOf (x / 2), c := s.c + qOf (x / 2) } rest) := H
        refine sother_ok H2 hx hx94 fun h H => ?_
        exact rrenew_ok (r := r) (rest := rest) (s := { s with a := s.a - qOf (x / 2), c := s.c + qOf (x / 2), n := s.n + 1, st := s.st.set k (upL x) }) (H.as (by simp [refL, sideL, sideV, rrest])) ⟨hs.t1, hs.t12, by show s.c + qOf _ + (s.a - qOf _) < 2 ^ (28 - s.t); omega, hs.l, hs.bs, hL⟩ (by show 1 ≤ s.a - qOf _; omega) (by show s.a - qOf _ < _; omega) (by show s.bs.length < _; omega) hk
      · have h3 : ¬ s.a - qOf (x / 2) < qOf (x / 2) := by simp at h3; omega
        rw [if_neg h3] at hk
        refine stV_hp H 0 rfl (by first | exact Nat.le_of_ble_eq_true rfl | simp) rfl fun h hsz H => ?_
        have H2 : Hp h0 F h (refL A r { s with n := s.n + 1, a := qOf (x / 2) } rest) := H
        refine sother_ok H2 hx hx94 fun h H => ?_
        exact rrenew_ok (r := r) (rest := rest) (s := { s with a := qOf (x / 2), n := s.n + 1, st := s.st.set k (upL x) }) (H.as (by simp [refL, sideL, sideV, rrest])) ⟨hs.t1, hs.t12, by show s.c + qOf _ < 2 ^ (28 - s.t); omega, hs.l, hs.bs, hL⟩ hq1 (by show qOf _ < _; omega) (by show s.bs.length < _; omega) hk

end Go.Ar

/- ArV: the document's own coder in memory: States, Flush. -/
set_option linter.unusedVariables false
set_option linter.unusedSimpArgs false
namespace Go.Ar
open Go Go.Den Go.Den.Ytcicfilkdhhnmaa

set_option maxRecDepth 100000 in
theorem rstates_ok {h : Heap} {p g gc sq bq n : Nat} {st : List Nat} {grest : List Value} {F : List Nat} {h0 : Heap} {t : TypeId} {T : List Value} {e5 : Ent} (H : Hp h0 F h (sideL p t T g gc sq bq n st grest e5)) (hst : ∀ x ∈ st, x < 94) (hl : 1 ≤ st.length) (hl2 : st.length ≤ 131072)
    {K : Value → Heap → Prop} {Kp : List PanicEntry → Heap → Prop} (hk : ∀ o orest h', Hp h0 F h' (sideL p t T g gc sq bq n st grest e5 ++ [⟨o, true, T_uint8, u8s st ++ orest⟩]) → K (.slice (at0 o) st.length (st.length + orest.length)) h') :
    CP F_burinref4_side_States #[.pointer (at0 p)] h K Kp := by
  refine call_burinref4_side_States ?_
  unfold burinref4_side_States
  refine ⟨fun m vs h' => ∃ i : Nat, i + m = st.length ∧ ((i = 0 ∧ vs = [.slice none 0 0, .int .i64 0] ∧ h' = h) ∨ ∃ o orest, 1 ≤ i ∧ vs = [.slice (at0 o) i (i + orest.length), .int .i64 (i : Int)] ∧ Hp h0 F h' (sideL p t T g gc sq bq n st grest e5 ++ [⟨o, true, T_uint8, u8s (st.take i) ++ orest⟩])),
    ⟨st.length, 0, by omega, .inl ⟨rfl, rfl, rfl⟩⟩, ?_⟩
  rintro m h' u b bn bc x ⟨i, hin, ⟨rfl, hx, rfl⟩ | ⟨o, orest, hi1, hx, H⟩⟩
  · injection hx with hx1 hx
    injection hx1 with e1 e2 e3
    injection hx with hx
    injection hx with _ hx
    subst e1 e2 e3 hx
    obtain ⟨y, hy⟩ : ∃ y, st[0]? = some y := ⟨_, List.getElem?_eq_getElem (by omega)⟩
    have hy94 := hst y (List.mem_of_getElem? hy)
    try simp only [ptr_some_eq, add_mk, Nat.zero_add, Nat.add_zero]
    refine ldS_of (H.cell 0 rfl rfl) ?_
    refine bcase_true (by exact decide_eq_true (by omega)) ?_
    refine ldS_of (H.cell 0 rfl rfl) ?_
    refine needs_of (by omega) ?_
    try simp only [ptr_some_eq, add_mk, Nat.zero_add]
    refine ldI_of (H.cell 2 rfl (i64s_get (half_get hy))) ?_
    refine bindI_of (((2 * (y / 2) : Nat) : Int)) (by exact i64_at _ _ (by omega) (by omega) (by omega)) ?_
    refine ldS_of (H.cell 0 rfl rfl) ?_
    refine needs_of (by omega) ?_
    try simp only [ptr_some_eq, add_mk, Nat.zero_add]
    refine ldI_of (H.cell 3 rfl (i64s_get (low_get hy))) ?_
    refine bindI_of (((y : Nat) : Int)) (by exact i64_at _ _ (by omega) (by omega) (by omega)) ?_
    refine bindI_of (((y : Nat) : Int)) (by exact u8_in y (by omega)) ?_
    refine newC_hp H fun w h H => ?_
    refine appC_new H (new := u8s [y]) (rdO_hp (o := 0) (n := 1 * 1) H 5 rfl (Nat.le_refl _)) rfl (Nat.le_refl _) (by decide) fun o orest h2 _ H => ?_
    refine bindI_of (((1 : Nat) : Int)) (by decide) ?_
    have ht : st.take 1 = [y] := by
      cases st with
      | nil => simp at hy
      | cons z zs => simp at hy; subst hy; rfl
    exact ⟨m - 1, by omega, 1, by omega, .inr ⟨o, orest, Nat.le_refl _, rfl, (H.pick [0, 1, 2, 3, 4, 6] (by decide) (by rw [ht]; rfl))⟩⟩
  · injection hx with hx1 hx
    injection hx1 with e1 e2 e3
    injection hx with hx
    injection hx with _ hx
    subst e1 e2 e3 hx
    try simp only [ptr_some_eq, add_mk, Nat.zero_add, Nat.add_zero]
    refine ldS_of (H.cell 0 rfl rfl) ?_
    rcases Nat.lt_or_ge bn st.length with h1 | h1
    · refine bcase_true (by exact decide_eq_true (by omega)) ?_
      obtain ⟨y, hy⟩ : ∃ y, st[bn]? = some y := ⟨_, List.getElem?_eq_getElem h1⟩
      have hy94 := hst y (List.mem_of_getElem? hy)
      refine ldS_of (H.cell 0 rfl rfl) ?_
      refine needs_of (by omega) ?_
      try simp only [ptr_some_eq, add_mk, Nat.zero_add, Int.toNat_natCast, Nat.mul_one]
      refine ldI_of (H.cell 2 rfl (i64s_get (half_get hy))) ?_
      refine bindI_of (((2 * (y / 2) : Nat) : Int)) (by exact i64_at _ _ (by omega) (by omega) (by omega)) ?_
      refine ldS_of (H.cell 0 rfl rfl) ?_
      refine needs_of (by omega) ?_
      try simp only [ptr_some_eq, add_mk, Nat.zero_add, Int.toNat_natCast, Nat.mul_one]
      refine ldI_of (H.cell 3 rfl (i64s_get (low_get hy))) ?_
      refine bindI_of (((y : Nat) : Int)) (by exact i64_at _ _ (by omega) (by omega) (by omega)) ?_
      refine bindI_of (((y : Nat) : Int)) (by exact u8_in y (by omega)) ?_
      refine newC_hp H fun w h H => ?_
      refine appC_own H 5 rfl (xs := u8s (st.take bn)) (new := u8s [y]) (by rw [u8s_length, List.length_take]; omega) (by rw [List.length_append, u8s_length, List.length_take]; omega) (rdO_hp (o := 0) (n := 1 * 1) H 6 rfl (Nat.le_refl _)) rfl (u8s_cells _) (by omega) fun o' orest' h2 H => ?_
      refine bindI_of (((bn + 1 : Nat) : Int)) (by exact i64_at _ _ (by omega) (by omega) (by omega)) ?_
      have ht : st.take (bn + 1) = st.take bn ++ [y] := by
        rw [List.take_add_one, hy]; rfl
      refine ⟨m - 1, by omega, bn + 1, by omega, .inr ⟨o', orest', by omega, ?_, ?_⟩⟩
      · simp only [List.length_append, u8s_length, List.length_take, List.length_cons, List.length_nil]
        rw [Nat.min_eq_left (by omega)]
      · rw [ht, u8s_app]
        exact H.take 6
    · refine bcase_false (by exact decide_eq_false (by omega)) ?_
      have e : bn = st.length := by omega
      subst e
      rw [List.take_of_length_le (Nat.le_refl _)] at H
      exact hk o orest _ H

theorem or63 (a b : Nat) (ha : a < 9223372036854775808) (hb : b < 9223372036854775808) : bitI .or .i64 a b = ((a ||| b : Nat) : Int) := (bits_nat .i64 63 (by decide) wr63 a b ha hb).2

set_option maxRecDepth 100000 in
theorem rflush_ok {h : Heap} {A : RP} {r : Nat} {s : Cod} {rest : List Value} {F : List Nat} {h0 : Heap} (H : Hp h0 F h (refL A r s rest)) (hs : Wf s) (hd : s.done = false)
    {K : Value → Heap → Prop} {Kp : List PanicEntry → Heap → Prop} (hk : ∀ r' rest' o orest h', Hp h0 F h' (refL A r' (flushM s) rest' ++ [⟨o, true, T_uint8, u8s (bytesM (flushM s)) ++ orest⟩]) →
      K (.tuple #[.slice (at0 o) (bytesM (flushM s)).length ((bytesM (flushM s)).length + orest.length), .int .i64 0]) h') :
    CP F_burinref4_Coder_Flush #[.pointer (at0 A.p)] h K Kp := by
  refine call_burinref4_Coder_Flush ?_
  unfold burinref4_Coder_Flush
  have hca := hs.ca
  have hcp := pow_le hs.t1
  have hlen := hs.len
  have hn := hs.n
  have hcl : flushC s < 2 ^ (28 - s.t) + 65536 := by
    unfold flushC
    simp only []
    split <;> omega
  have hfl : Fl { s with c := flushC s, done := true } 0 := by
    refine ⟨?_, hs.t12, hs.l, by show s.bs.length ≤ _; omega⟩
    show flushC s * 2 ^ s.t < 4294967296
    have h2 : flushC s * 2 ^ s.t < (2 ^ (28 - s.t) + 65536) * 2 ^ s.t := Nat.mul_lt_mul_of_pos_right hcl (Nat.two_pow_pos _)
    have h1 : (2 : Nat) ^ s.t ≤ 2 ^ 12 := Nat.pow_le_pow_right (by omega) hs.t12
    have h3 : 2 ^ (28 - s.t) * 2 ^ s.t = 2 ^ 28 := by rw [← Nat.pow_add]; congr 1; have := hs.t12; omega
    rw [Nat.add_mul, h3] at h2
    omega
  try simp only [ptr_some_eq, add_mk, Nat.zero_add, Nat.add_zero]
  refine ldB_of (H.cell 0 rfl (i := 8) (congrArg (fun b => some (Value.bool b)) hd)) ?_
  refine bcase_false (by rfl) ?_
  refine stV_hp H 0 rfl (by first | exact Nat.le_of_ble_eq_true rfl | simp) rfl fun h hsz H => ?_
  refine ldI_of (H.cell 0 rfl rfl) ?_
  refine ldI_of (H.cell 0 rfl rfl) ?_
  refine bindI_of (((s.c + s.a : Nat) : Int)) (by exact i64_at _ _ (by omega) (by omega) (by omega)) ?_
  refine ldI_of (H.cell 0 rfl rfl) ?_
  refine bindI_of (((s.c / 65536 * 65536 + 65535 : Nat) : Int)) (by exact (or63 _ 65535 (by omega) (by omega)).trans (by rw [flushC_or])) ?_
  refine stV_hp H 0 rfl (by first | exact Nat.le_of_ble_eq_true rfl | simp) rfl fun h hsz H => ?_
  refine ⟨fun vs h' => Hp h0 F h' (refL A r { s with c := flushC s, done := true } rest), ?_, ?_⟩
  · refine ldI_of (H.cell 0 rfl rfl) ?_
    rcases Nat.lt_or_ge (s.c / 65536 * 65536 + 65535) (s.c + s.a) with h1 | h1
    · simp only [decide_eq_false (show ¬ (((s.c / 65536 * 65536 + 65535 : Nat) : Int) ≥ ((s.c + s.a : Nat) : Int)) by omega)]
      have e : flushC s = s.c / 65536 * 65536 + 65535 := by unfold flushC; simp only []; rw [if_neg (by omega)]
      rw [e]
      exact H
    · simp only [decide_eq_true (show (((s.c / 65536 * 65536 + 65535 : Nat) : Int) ≥ ((s.c + s.a : Nat) : Int)) by omega)]
      refine bcase_true rfl ?_
      refine ldI_of (H.cell 0 rfl rfl) ?_
      refine bindI_of (((s.c / 65536 * 65536 + 65535 - 0x8000 : Nat) : Int)) (by exact i64_at _ _ (by omega) (by omega) (by omega)) ?_
      refine stV_hp H 0 rfl (by first | exact Nat.le_of_ble_eq_true rfl | simp) rfl fun h hsz H => ?_
      have e : flushC s = s.c / 65536 * 65536 + 65535 - 0x8000 := by unfold flushC; simp only []; rw [if_pos h1]
      rw [e]
      exact H
  · clear H
    intro h u H
    generalize hS : ({ s with c := flushC s, done := true } : Cod) = S at H hfl
    have hfm : flushM s = flushS (flushS S) := by rw [← hS]; rfl
    rw [hfm] at hk
    have step : ∀ {E : Cod} {k : Nat}, Fl E k → bitI .and .i64 (((E.c * 2 ^ E.t : Nat) : Int)) 4294967295 = ((E.c * 2 ^ E.t : Nat) : Int) := fun hf => mask32 hf.c
    have hsh : ∀ {E : Cod} {k : Nat}, Fl E k → shlI .i64 (E.c : Int) (E.t : Int) = ((E.c * 2 ^ E.t : Nat) : Int) := fun {E k} hf => shl_of (by show E.t ≤ 64; have := hf.t; omega) (i64_in _ (by omega) (by have := hf.c; omega))
    obtain ⟨hf1, hb1⟩ := flushS_fl hfl
    obtain ⟨hf2, hb2⟩ := flushS_fl hf1
    have hn0 := hfl.n
    refine ldI_of (H.cell 0 rfl rfl) ?_
    refine ldI_of (H.cell 0 rfl rfl) ?_
    refine bindI_of (((S.t : Nat) : Int)) (by exact u64_in _ (by omega) (by have := hfl.t; omega)) ?_
    refine needs_of (by omega) ?_
    refine bindI_of _ (hsh hfl) ?_
    refine bindI_of _ (step hfl) ?_
    refine stV_hp H 0 rfl (by first | exact Nat.le_of_ble_eq_true rfl | simp) rfl fun h hsz H => ?_
    have H2 : Hp h0 F h (refL A r { S with c := S.c * 2 ^ S.t } rest) := H
    refine rout_ok H2 hfl.l hfl.c (by show S.bs.length < _; omega) fun r2 rest2 h H => ?_
    have H2 : Hp h0 F h (refL A r2 (flushS S) rest2) := H
    have H := H2
    clear H2
    try simp only [ptr_some_eq, add_mk, Nat.zero_add]
    generalize hE1 : flushS S = E1 at hf1 hf2 hb1 hb2 H hk
    refine ldI_of (H.cell 0 rfl rfl) ?_
    refine ldI_of (H.cell 0 rfl rfl) ?_
    refine bindI_of (((E1.t : Nat) : Int)) (by exact u64_in _ (by omega) (by have := hf1.t; omega)) ?_
    refine needs_of (by omega) ?_
    refine bindI_of _ (hsh hf1) ?_
    refine bindI_of _ (step hf1) ?_
    refine stV_hp H 0 rfl (by first | exact Nat.le_of_ble_eq_true rfl | simp) rfl fun h hsz H => ?_
    have H2 : Hp h0 F h (refL A r2 { E1 with c := E1.c * 2 ^ E1.t } rest2) := H
    refine rout_ok H2 hf1.l hf1.c (by show E1.bs.length < _; omega) fun r' rest' h H => ?_
    have H2 : Hp h0 F h (refL A r' (flushS E1) rest') := H
    have H := H2
    clear H2
    try simp only [ptr_some_eq, add_mk, Nat.zero_add]
    have hEl := hf2.l
    generalize hE : flushS E1 = E at hb2 H hk hEl
    have hb : bytesM E = if E.l = 255 then ((E.bs ++ [E.l]).drop 1).dropLast else (E.bs ++ [E.l]).drop 1 := rfl
    refine ldS_of (H.cell 0 rfl rfl) ?_
    refine ⟨fun vs h' => vs = [.int .i64 ((if E.l = 255 then E.bs.length else E.bs.length + 1 : Nat) : Int)] ∧ h' = h, ?_, ?_⟩
    · refine ldS_of (H.cell 0 rfl rfl) ?_
      refine bindI_of (((E.bs.length : Nat) : Int)) (by exact i64_at _ _ (by omega) (by omega) (by omega)) ?_
      refine needs_of (by constructor <;> omega) ?_
      try simp only [ptr_some_eq, add_mk, Nat.zero_add, Int.toNat_natCast, Nat.mul_one]
      refine ldI_of (H.cell 4 rfl (last_get _ _ _)) ?_
      refine bcase_of (fun h1 => ?_) fun h1 => ?_
      · have h1 : E.l = 255 := by simp at h1; omega
        refine bindI_of (((E.bs.length : Nat) : Int)) (by exact i64_at _ _ (by omega) (by omega) (by omega)) ?_
        exact ⟨by rw [if_pos h1], by first | rfl | trivial⟩
      · have h1 : E.l ≠ 255 := by simp at h1; omega
        exact ⟨by rw [if_neg h1], by first | rfl | trivial⟩
    · rintro h' u y ⟨hy, rfl⟩
      injection hy with hy
      injection hy with _ hy
      have hlm : ∃ m : Nat, y = ((m : Nat) : Int) ∧ 1 ≤ m ∧ m ≤ E.bs.length + 1 ∧ (bytesM E).length = m - 1 ∧ 1 ≤ m - 1 ∧ ((u8s (E.bs ++ [E.l]) ++ rest').drop 1).take ((m - 1) * 1) = u8s (bytesM E) := by
        by_cases h1 : E.l = 255
        · rw [if_pos h1] at hy hb
          refine ⟨E.bs.length, hy, by omega, by omega, by rw [hb]; simp, by omega, ?_⟩
          rw [hb, Nat.mul_one, List.drop_append_of_le_length (by rw [u8s_length]; simp), List.take_append_of_le_length (by rw [List.length_drop, u8s_length]; simp)]
          unfold u8s
          rw [← List.map_drop, ← List.map_take, List.dropLast_eq_take]
          congr 2
          simp
        · rw [if_neg h1] at hy hb
          refine ⟨E.bs.length + 1, hy, by omega, by omega, by rw [hb]; simp, by omega, ?_⟩
          rw [hb, Nat.mul_one, List.drop_append_of_le_length (by rw [u8s_length]; simp), List.take_append_of_le_length (by rw [List.length_drop, u8s_length]; simp)]
          unfold u8s
          rw [← List.map_drop, ← List.map_take, List.take_of_length_le (by simp)]
      obtain ⟨m, rfl, hm1, hm2, hbl, hm3, hlist⟩ := hlm
      refine ldS_of (H.cell 0 rfl rfl) ?_
      refine needs_of (by omega) ?_
      refine needs_of (by simp; omega) ?_
      have e1 : subA (some ⟨r', 0, none⟩) (E.bs.length + 1 + rest'.length) (1 : Int).toNat 1 = some ⟨r', 1, none⟩ := by
        unfold subA
        rw [if_neg (by simp; omega)]
        rfl
      rw [e1]
      have e2 : ((m : Nat) : Int).toNat - (1 : Int).toNat = m - 1 := by simp
      rw [e2]
      have hr := rdO_hp H 4 (o := 1) (n := (m - 1) * 1) rfl (by simp [u8s_length]; omega)
      rw [hlist] at hr
      refine appC_new H hr (by rw [u8s_length, hbl]) (by omega) (by omega) fun o orest h' _ H => ?_
      have := hk r' rest' o orest _ H
      rw [hbl] at this
      exact this

end Go.Ar

/- ArW: what the coders answer where they do not code: contexts out of range, a bit that is none, a coder that is done; Over. -/
set_option linter.unusedVariables false
set_option linter.unusedSimpArgs false
namespace Go.Ar
open Go Go.Den Go.Den.Ytcicfilkdhhnmaa

set_option maxRecDepth 100000 in
theorem made_bad {h : Heap} {n : Int} (hn : n < 1 ∨ 131072 < n) {K : Value → Heap → Prop} {Kp : List PanicEntry → Heap → Prop}
    (hk : ∀ (cs : List Value) (h' : Heap), cs.length = 190 → (∀ v ∈ cs, v.oneCell' = true) → hext h h' → K (.tuple #[.agg cs.toArray, .bool false]) h') : CP F_arith_made #[.int .i64 n] h K Kp := by
  refine call_arith_made ?_
  unfold arith_made
  have H := Hp.nil h []
  refine newC_hp H fun r h H => ?_
  rcases Int.lt_or_le n 1 with h1 | h1
  · refine bcase_true (by exact decide_eq_true h1) ?_
    refine stVs_all H 0 rfl (by kernel_rfl) (List.all_eq_true.1 (by kernel_rfl)) fun h' hsz H' => ?_
    refine ldAll_hp H' 0 rfl (by kernel_rfl) ?_
    exact hk _ _ (by kernel_rfl) (List.all_eq_true.1 (by kernel_rfl)) H'.hext
  · have h2 : 131072 < n := by omega
    refine bcase_false (by exact decide_eq_false (by omega)) ?_
    refine bcase_true (by exact decide_eq_true h2) ?_
    refine stVs_all H 0 rfl (by kernel_rfl) (List.all_eq_true.1 (by kernel_rfl)) fun h' hsz H' => ?_
    refine ldAll_hp H' 0 rfl (by kernel_rfl) ?_
    exact hk _ _ (by kernel_rfl) (List.all_eq_true.1 (by kernel_rfl)) H'.hext

set_option maxRecDepth 100000 in
theorem new_bad {h : Heap} {n : Int} (hn : n < 1 ∨ 131072 < n) {K : Value → Heap → Prop} {Kp : List PanicEntry → Heap → Prop}
    (hk : ∀ h', hext h h' → K (.tuple #[.pointer none, .int .i64 40]) h') : CP F_arith_New #[.int .i64 n] h K Kp := by
  refine call_arith_New ?_
  unfold arith_New
  refine made_bad hn fun cs h2 hcs hone e => ?_
  refine ⟨cs, hcs, false, rfl, ?_⟩
  have H := (Hp.nil h []).ext e
  refine newC_hp H fun t h H => ?_
  refine needs_of hcs ?_
  refine stVs_all H 0 rfl (hcs.trans (by kernel_rfl)) hone fun h' hsz H => ?_
  refine bcase_true (by rfl) ?_
  exact hk _ H.hext

theorem put_bad {h : Heap} {p q r : Nat} {s : Cod} {rest : List Value} {F : List Nat} {h0 : Heap} (H : Hp h0 F h (codL p q r s rest)) (hd : s.done = false) {ctx b : Int} (hb0 : b ≠ 0) (hb1 : b ≠ 1)
    {K : Value → Heap → Prop} {Kp : List PanicEntry → Heap → Prop} (hk : K (.int .i64 42) h) : CP F_arith_Coder_Put #[.pointer (at0 p), .int .i64 ctx, .int .i64 b] h K Kp := by
  refine call_arith_Coder_Put ?_
  unfold arith_Coder_Put
  refine ⟨fun vs h' => False, ?_, fun h u hf => hf.elim⟩
  try simp only [ptr_some_eq, add_mk, Nat.zero_add, Nat.add_zero]
  refine ldB_of (H.cell 0 rfl (app_get hR 6 (congrArg (fun b => some (Value.bool b)) hd))) ?_
  refine bcase_false (by rfl) ?_
  refine bcase_true (by simpa using hb0) ?_
  refine bcase_true (by simpa using hb1) ?_
  exact hk
theorem put_done {h : Heap} {p q r : Nat} {s : Cod} {rest : List Value} {F : List Nat} {h0 : Heap} (H : Hp h0 F h (codL p q r s rest)) (hd : s.done = true) {ctx b : Int}
    {K : Value → Heap → Prop} {Kp : List PanicEntry → Heap → Prop} (hk : K (.int .i64 43) h) : CP F_arith_Coder_Put #[.pointer (at0 p), .int .i64 ctx, .int .i64 b] h K Kp := by
  refine call_arith_Coder_Put ?_
  unfold arith_Coder_Put
  refine ⟨fun vs h' => False, ?_, fun h u hf => hf.elim⟩
  try simp only [ptr_some_eq, add_mk, Nat.zero_add, Nat.add_zero]
  refine ldB_of (H.cell 0 rfl (app_get hR 6 (congrArg (fun b => some (Value.bool b)) hd))) ?_
  refine bcase_true (by rfl) ?_
  exact hk
theorem flush_done {h : Heap} {p q r : Nat} {s : Cod} {rest : List Value} {F : List Nat} {h0 : Heap} (H : Hp h0 F h (codL p q r s rest)) (hd : s.done = true)
    {K : Value → Heap → Prop} {Kp : List PanicEntry → Heap → Prop} (hk : K (.tuple #[.slice none 0 0, .int .i64 43]) h) : CP F_arith_Coder_Flush #[.pointer (at0 p)] h K Kp := by
  refine call_arith_Coder_Flush ?_
  unfold arith_Coder_Flush
  try simp only [ptr_some_eq, add_mk, Nat.zero_add, Nat.add_zero]
  refine ldB_of (H.cell 0 rfl (app_get hR 6 (congrArg (fun b => some (Value.bool b)) hd))) ?_
  refine bcase_true (by rfl) ?_
  exact hk
theorem rput_bad {h : Heap} {A : RP} {r : Nat} {s : Cod} {rest : List Value} {F : List Nat} {h0 : Heap} (H : Hp h0 F h (refL A r s rest)) (hd : s.done = false) {ctx b : Int} (hb0 : b ≠ 0) (hb1 : b ≠ 1)
    {K : Value → Heap → Prop} {Kp : List PanicEntry → Heap → Prop} (hk : K (.int .i64 42) h) : CP F_burinref4_Coder_Put #[.pointer (at0 A.p), .int .i64 ctx, .int .i64 b] h K Kp := by
  refine call_burinref4_Coder_Put ?_
  unfold burinref4_Coder_Put
  try simp only [ptr_some_eq, add_mk, Nat.zero_add, Nat.add_zero]
  refine ldB_of (H.cell 0 rfl (i := 8) (congrArg (fun b => some (Value.bool b)) hd)) ?_
  refine bcase_false (by rfl) ?_
  refine ⟨fun vs h' => False, ?_, fun h u hf => hf.elim⟩
  refine bcase_true (by simpa using hb0) ?_
  refine bcase_true (by simpa using hb1) ?_
  exact hk

end Go.Ar

/- ArX: what a call on rows of one's own leaves: the rows that came in, and another known row. -/
set_option linter.unusedVariables false
set_option linter.unusedSimpArgs false
namespace Go.Ar
open Go Go.Den Go.Den.Ytcicfilkdhhnmaa

theorem keeps_of {h0 h h' : Heap} {L A B : List Ent} (H : Hp h0 [] h L) (ix : List Nat) (hA : ix.map (fun k => L[k]?) = A.map some) (hw : A.all Ent.w = true) (k : Nat) {en : Ent} (he : L[k]? = some en) (hk : k ∉ ix) (H' : Hp h (A.map Ent.b) h' B) :
    hkeep (fun b => b < h0.size ∨ b = en.b) h h' := by
  refine ⟨H'.fr.1, fun b hb hR => H'.fr.2 b hb fun hm => ?_⟩
  obtain ⟨e, heA, rfl⟩ := List.mem_map.1 hm
  obtain ⟨j, hj⟩ := List.getElem?_of_mem heA
  obtain ⟨i, hi1, hi2⟩ := ix_get hA hj
  rcases hR with h1 | h1
  · rcases H.wr i e hi2 (List.all_eq_true.1 hw e heA) with h2 | h2
    · simp at h2
    · omega
  · have := H.nd i e k en hi2 he h1
    subst this
    exact hk (List.mem_of_getElem? hi1)
theorem cell_lt {h : Heap} {a : Addr} {v : Value} (hc : hcell h a = some v) : a.block < h.size := by
  rcases Nat.lt_or_ge a.block h.size with h1 | h1
  · exact h1
  · simp [hcell, Array.getElem?_eq_none h1] at hc

end Go.Ar

/- ArH: the law ArithApart, said of memory. -/
set_option linter.unusedVariables false
set_option linter.unusedSimpArgs false
namespace Go.Ar
open Go Go.Den Go.Den.Ytcicfilkdhhnmaa

theorem SV.fn {h : Heap} {q : Option Addr} {len : Nat} (hv : SV h q len) : ∃ C B : Nat → Int, ∀ i, i < len → ∃ a, q = some a ∧ hcell h (a.add (i * 2)) = some (.int .i64 (C i)) ∧ hcell h (a.add (i * 2 + 1)) = some (.int .i64 (B i)) := by
  have h1 : ∀ i, ∃ cb : Int × Int, i < len → ∃ a, q = some a ∧ hcell h (a.add (i * 2)) = some (.int .i64 cb.1) ∧ hcell h (a.add (i * 2 + 1)) = some (.int .i64 cb.2) := fun i => by
    by_cases hi : i < len
    · obtain ⟨a, c, b, e1, e2, e3⟩ := hv i hi
      exact ⟨(c, b), fun _ => ⟨a, e1, e2, e3⟩⟩
    · exact ⟨(0, 0), fun h => absurd h hi⟩
  exact ⟨fun i => (Classical.choose (h1 i)).1, fun i => (Classical.choose (h1 i)).2, fun i hi => Classical.choose_spec (h1 i) hi⟩

theorem contexts_ok {h : Heap} {p q n : Nat} {F : List Nat} {h0 : Heap} {L : List Ent} (H : Hp h0 F h L) (kp : Nat) {w : Bool} {t : TypeId} {T : List Value} (hp : L[kp]? = some ⟨p, w, t, rowsV ++ (.slice (some ⟨q, 0, none⟩) n n :: T)⟩)
    {K : Value → Heap → Prop} {Kp : List PanicEntry → Heap → Prop} (hk : K (.int .i64 (n : Nat)) h) : CP F_arith_table_Contexts #[.pointer (at0 p)] h K Kp := by
  refine call_arith_table_Contexts ?_
  unfold arith_table_Contexts
  try simp only [ptr_some_eq, add_mk, Nat.zero_add, Nat.add_zero]
  refine ldS_of (H.cell kp hp (app_get hR 0 rfl)) ?_
  exact hk

end Go.Ar

/- ArY: the law ArithCodes, said of memory. -/
set_option linter.unusedVariables false
set_option linter.unusedSimpArgs false
namespace Go.Ar
open Go Go.Den Go.Den.Ytcicfilkdhhnmaa

/-- One decision, whatever its bit: what both coders become. -/
def putB (s : Cod) (k : Nat) (b : Int) : Cod := if b = 0 then putM s k 0 else if b = 1 then putM s k 1 else s
def ansB (b : Int) : Int := if b = 0 then 0 else if b = 1 then 0 else 42
theorem putB_ok {m n : Nat} {s : Cod} (h : CodOk m n s) (k : Nat) (b : Int) (hn : n < 16777216) : ∃ n', n' ≤ n + 1 ∧ CodOk m n' (putB s k b) := by
  unfold putB
  split
  · exact ⟨n + 1, Nat.le_refl _, putM_ok h k 0 hn⟩
  · split
    · exact ⟨n + 1, Nat.le_refl _, putM_ok h k 1 hn⟩
    · exact ⟨n, Nat.le_succ n, h⟩
theorem putI_ok {h : Heap} {p q r : Nat} {s : Cod} {rest : List Value} {F : List Nat} {h0 : Heap} (H : Hp h0 F h (codL p q r s rest)) {m n : Nat} (hs : CodOk m n s) (hn : n < 16777216) (hm1 : 1 ≤ m) (hm2 : m ≤ 131072) {ctx b : Int}
    {K : Value → Heap → Prop} {Kp : List PanicEntry → Heap → Prop} (hk : ∀ r' rest' h', Hp h0 F h' (codL p q r' (putB s (idx ctx m) b) rest') → K (.int .i64 (ansB b)) h') :
    CP F_arith_Coder_Put #[.pointer (at0 p), .int .i64 ctx, .int .i64 b] h K Kp := by
  unfold putB ansB at hk
  by_cases h0' : b = 0
  · subst h0'
    exact put_ok (bit := 0) H hs.wf hs.done (by rw [hs.n]; exact hn) (by rw [hs.len]; exact hm1) (by rw [hs.len]; exact hm2) (by decide) fun r' rest' h' H' => hk r' rest' h' (by rw [hs.len] at H'; exact H')
  · by_cases h1 : b = 1
    · subst h1
      exact put_ok (bit := 1) H hs.wf hs.done (by rw [hs.n]; exact hn) (by rw [hs.len]; exact hm1) (by rw [hs.len]; exact hm2) (by decide) fun r' rest' h' H' => hk r' rest' h' (by rw [hs.len] at H'; exact H')
    · rw [if_neg h0', if_neg h1, if_neg h0', if_neg h1] at hk
      exact put_bad H hs.done h0' h1 (hk r rest h H)
theorem rputI_ok {h : Heap} {A : RP} {r : Nat} {s : Cod} {rest : List Value} {F : List Nat} {h0 : Heap} (H : Hp h0 F h (refL A r s rest)) {m n : Nat} (hs : CodOk m n s) (hn : n < 16777216) (hm1 : 1 ≤ m) (hm2 : m ≤ 131072) {ctx b : Int}
    {K : Value → Heap → Prop} {Kp : List PanicEntry → Heap → Prop} (hk : ∀ r' rest' h', Hp h0 F h' (refL A r' (putB s (idx ctx m) b) rest') → K (.int .i64 (ansB b)) h') :
    CP F_burinref4_Coder_Put #[.pointer (at0 A.p), .int .i64 ctx, .int .i64 b] h K Kp := by
  unfold putB ansB at hk
  by_cases h0' : b = 0
  · subst h0'
    exact rput_ok (bit := 0) H hs.wf hs.done (by rw [hs.n]; exact hn) (by rw [hs.len]; exact hm1) (by rw [hs.len]; exact hm2) (by decide) fun r' rest' h' H' => hk r' rest' h' (by rw [hs.len] at H'; exact H')
  · by_cases h1 : b = 1
    · subst h1
      exact rput_ok (bit := 1) H hs.wf hs.done (by rw [hs.n]; exact hn) (by rw [hs.len]; exact hm1) (by rw [hs.len]; exact hm2) (by decide) fun r' rest' h' H' => hk r' rest' h' (by rw [hs.len] at H'; exact H')
    · rw [if_neg h0', if_neg h1, if_neg h0', if_neg h1] at hk
      exact rput_bad H hs.done h0' h1 (hk r rest h H)

end Go.Ar

/- PgA: pages, the program's and the document's; bitmaps that are lent. -/
set_option linter.unusedVariables false
set_option linter.unusedSimpArgs false
namespace Go.Bm
open Go Go.Den Go.Den.Ytcicfilkdhhnmaa

theorem newC_hpx {h0 h : Heap} {F : List Nat} {L : List Ent} (H : Hp h0 F h L) {t : TypeId} {cs : List Value} {K : Nat → Heap → Prop} (hk : ∀ r h', hext h h' → Hp h0 F h' (L ++ [⟨r, true, t, cs⟩]) → K r h') : newC h cs t K := hk _ _ (hext.push h _) (H.new t cs)
theorem rdO_ext {h h' : Heap} (e : hext h h') {a : Option Addr} {n : Nat} {vs : List Value} (hr : rdO h a n vs) : rdO h' a n vs :=
  Fr.rdO (F := []) ⟨e.1, fun b hb _ => e.2 b hb⟩ (fun _ _ => by simp) hr

theorem setAll_app : ∀ (B0 : List Ent) (ix : List Nat) (L D : List Ent), B0.length = ix.length → setAll L ix (B0 ++ D) = setL L ix B0 ++ D
  | [], [], L, D, _ => by rw [List.nil_append, setAll_nil]; unfold setL; rfl
  | b :: B0, i :: ix, L, D, h => by
    show setAll L (i :: ix) (b :: (B0 ++ D)) = setL L (i :: ix) (b :: B0) ++ D
    unfold setAll setL
    exact setAll_app B0 ix _ D (by simpa using h)
  | [], _ :: _, _, _, h => by cases h
  | _ :: _, [], _, _, h => by cases h
theorem Hp.backD {h0 h h' : Heap} {F : List Nat} {L A B0 D : List Ent} (H : Hp h0 F h L) (ix : List Nat) (hnd : ix.Nodup) (hA : ix.map (fun k => L[k]?) = A.map some) (hw : A.all Ent.w = true) (H' : Hp h (A.map Ent.b) h' (B0 ++ D)) (hB : B0.all Ent.w = true) (hD : D.all Ent.w = true) (hl : B0.length = ix.length) :
    Hp h0 F h' (setL L ix B0 ++ D) := (H.back ix hnd hA hw H' (by rw [List.all_append, hB, hD]; rfl) (by rw [List.length_append]; omega)).as (setAll_app B0 ix L D hl)
theorem Slot.rdO' {h0 h : Heap} {F : List Nat} {L D : List Ent} {t : TypeId} {sz n c : Nat} {q : Option Addr} {xs : List Value} (hd : Slot t sz D q n c xs) (H : Hp h0 F h L) (hs : ∀ e ∈ D, e ∈ L) : rdO h q (n * sz) xs := by
  obtain ⟨hl, ⟨rfl, rfl, rfl, rfl⟩ | ⟨b, rest, rfl, rfl, hc⟩⟩ := hd
  · rw [Nat.zero_mul] at hl ⊢
    rw [List.length_eq_zero_iff.1 hl]
    exact rfl
  · exact H.rdO_mem (hs _ (List.mem_singleton.2 rfl)) hl

/-! ### bitmaps that are lent -/
set_option maxRecDepth 100000 in
theorem lendB_ok {hB : Heap} {w g : Int} {b : Option Addr} {bc : Nat} {ws : List Nat} (hr : rdO hB b (ws.length * 1) (u64s ws)) (hl : ws.length < 1048577) {K : Value → Heap → Prop} {Kp : List PanicEntry → Heap → Prop}
    (hk : ∀ o rest c h', (u64s ws ++ (u64s (List.replicate 7 42405) ++ rest)).length = c → Hp hB [] h' [⟨o, true, T_uint64, u64s ws ++ (u64s (List.replicate 7 42405) ++ rest)⟩] → K (.agg #[.int .i64 w, .int .i64 g, .slice (at0 o) ws.length c]) h') :
    CP F_burinkit_LendBitmap #[.agg #[.int .i64 w, .int .i64 g, .slice b ws.length bc]] hB K Kp := by
  refine call_burinkit_LendBitmap ?_
  unfold burinkit_LendBitmap
  have H := Hp.nil hB []
  refine newC_hp H fun e1 h H => ?_
  refine newC_hp H fun e2 h H => ?_
  try simp only [ptr_some_eq, add_mk, Nat.zero_add, Nat.add_zero]
  refine ldS_of (H.cell 0 rfl rfl) ?_
  obtain ⟨N, hN⟩ : ∃ N, N = ws.length + 7 := ⟨_, rfl⟩
  refine bindI_of (((N : Nat) : Int)) (by exact i64_at _ _ (by omega) (by omega) (by omega)) ?_
  refine needs_of (by simp; omega) ?_
  simp only [Int.toNat_natCast, u64s_zero]
  refine newC_hp H fun r h H => ?_
  refine ldS_of (H.cell 0 rfl rfl) ?_
  refine appC_in H 2 (xs := []) (rest := u64s (List.replicate N 0)) (c := N) rfl rfl (by simp [u64s]) (by simp [hN]) (H.rdO hr) (by rw [u64s_length, Nat.mul_one]) (u64s_cells ws) fun h H => ?_
  generalize hrest : (u64s (List.replicate N 0)).drop (ws.length * 1) = rest at H
  have hrl : rest.length = 7 := by rw [← hrest, List.length_drop, u64s_length, List.length_replicate]; omega
  refine ⟨fun n vs h' => ∃ (i : Nat) (rest : List Value), i + n = 7 ∧ rest.length = n ∧ vs = [.slice (at0 r) (ws.length + i) N, .int .i64 (i : Int)] ∧
      Hp hB [] h' [⟨e1, true, T_api_Bitmap, [.int .i64 w, .int .i64 g, .slice b ws.length bc]⟩, ⟨e2, true, T_api_Bitmap, [.int .i64 0, .int .i64 0, .slice none 0 0]⟩, ⟨r, true, T_uint64, u64s ws ++ u64s (List.replicate i 42405) ++ rest⟩],
    ⟨7, 0, rest, rfl, hrl, by simp, H.as (by simp [u64s])⟩, ?_⟩
  clear H
  rintro n h2 u x xn xc xi ⟨i, rest, hin, hrl, hx, H⟩
  injection hx with hx hx2
  injection hx with hx hxn hxc
  injection hx2 with hx2
  injection hx2 with _ hx2
  subst x xn xc xi
  refine bcase_of (fun h1 => ?_) fun h1 => ?_
  · have h1 : i < 7 := by simp at h1; omega
    refine newC_hp H fun t h H => ?_
    refine appC_in H 2 (xs := u64s ws ++ u64s (List.replicate i 42405)) (rest := rest) (c := N) rfl (by simp [u64s]) (by simp [u64s]; omega) (by omega) (rdO_hp (o := 0) (n := 1 * 1) H 3 rfl (Nat.le_refl _)) rfl (fun v hv => by rw [List.mem_singleton.1 hv]; rfl) fun h H => ?_
    refine bindI_of (((i + 1 : Nat) : Int)) (by exact i64_at _ _ (by omega) (by omega) (by omega)) ?_
    refine ⟨n - 1, by omega, i + 1, rest.drop (1 * 1), by omega, by rw [List.length_drop]; omega, by rw [Nat.add_assoc], ?_⟩
    refine (H.take 3).as ?_
    simp [u64s, List.replicate_succ']
  · have h1 : i = 7 := by simp at h1; omega
    subst h1
    refine ldI_of (H.cell 0 rfl rfl) ?_
    refine ldI_of (H.cell 0 rfl rfl) ?_
    refine ldS_of (H.cell 0 rfl rfl) ?_
    refine needs_of (by omega) ?_
    have e : subA (some ⟨r, 0, none⟩) N 0 1 = some ⟨r, 0, none⟩ := by unfold subA; split <;> rfl
    rw [e]
    simp only [Int.toNat_natCast, Nat.sub_zero]
    refine stV_hp H 1 rfl (by first | exact Nat.le_of_ble_eq_true rfl | simp) rfl fun h hsz H => ?_
    refine stV_hp H 1 rfl (by first | exact Nat.le_of_ble_eq_true rfl | simp) rfl fun h hsz H => ?_
    refine stV_hp H 1 rfl (by first | exact Nat.le_of_ble_eq_true rfl | simp) rfl fun h hsz H => ?_
    refine ldI_of (H.cell 1 rfl rfl) ?_
    refine ldI_of (H.cell 1 rfl rfl) ?_
    refine ldS_of (H.cell 1 rfl rfl) ?_
    refine hk r rest N _ ?_ (H.pick [2] (by decide) (by rw [← List.append_assoc]; rfl))
    simp only [List.length_append, u64s_length, List.length_replicate]
    omega

set_option maxRecDepth 100000 in
theorem backB_ok {h : Heap} {o c : Nat} {w g : Int} {b : Option Addr} {bc : Nat} {ws : List Nat} {rest : List Value} {F : List Nat} {h0 : Heap} (H : Hp h0 F h [⟨o, true, T_uint64, u64s ws ++ (u64s (List.replicate 7 42405) ++ rest)⟩]) (hr : rdO h b (ws.length * 1) (u64s ws)) (hl : ws.length < 1048577)
    (hc : (u64s ws ++ (u64s (List.replicate 7 42405) ++ rest)).length = c)
    {K : Value → Heap → Prop} {Kp : List PanicEntry → Heap → Prop} (hk : ∀ cs h', Hp h0 F h' [⟨o, true, T_uint64, cs⟩] → K (.bool true) h') :
    CP F_burinkit_BackBitmap #[.agg #[.int .i64 w, .int .i64 g, .slice (at0 o) ws.length c], .agg #[.int .i64 w, .int .i64 g, .slice b ws.length bc]] h K Kp := by
  refine call_burinkit_BackBitmap ?_
  unfold burinkit_BackBitmap
  have hlen := hc
  simp only [List.length_append, u64s_length, List.length_replicate] at hlen
  refine newC_hpx H fun e1 h1 x1 H => ?_
  refine newC_hpx H fun e2 h2 x2 H => ?_
  have hr := rdO_ext x2 (rdO_ext x1 hr)
  try simp only [ptr_some_eq, add_mk, Nat.zero_add, Nat.add_zero]
  refine ldI_of (H.cell 1 rfl rfl) ?_
  refine ldI_of (H.cell 1 rfl rfl) ?_
  refine ldS_of (H.cell 1 rfl rfl) ?_
  refine ldI_of (H.cell 2 rfl rfl) ?_
  refine ldI_of (H.cell 2 rfl rfl) ?_
  refine ldS_of (H.cell 2 rfl rfl) ?_
  refine eqB_ok (xs := ws) (ys := ws) (row_rdO H 0 rfl) hr (by omega) fun h3 x3 => ?_
  have H := H.ext x3
  refine ⟨_, rfl, ?_⟩
  simp only [decide_true, and_self]
  refine ldS_of (H.cell 1 rfl rfl) ?_
  refine ldS_of (H.cell 2 rfl rfl) ?_
  refine bindI_of (((ws.length + 7 : Nat) : Int)) (by exact i64_at _ _ (by omega) (by omega) (by omega)) ?_
  refine needs_of (by omega) ?_
  refine ldS_of (H.cell 2 rfl rfl) ?_
  have e : subA (some ⟨o, 0, none⟩) c 0 1 = some ⟨o, 0, none⟩ := by unfold subA; split <;> rfl
  rw [e]
  simp only [Int.toNat_natCast, Nat.sub_zero]
  refine ⟨fun n vs h' => ∃ i : Nat, i + n = 7 ∧ vs = [.bool true, .int .i64 ((ws.length + i : Nat) : Int)] ∧ h' = h3, ⟨7, 0, rfl, rfl, rfl⟩, ?_⟩
  rintro n h2 u ok x ⟨i, hin, hx, rfl⟩
  injection hx with hx hx2
  injection hx with hx
  injection hx2 with hx2
  injection hx2 with _ hx2
  subst ok x
  refine bcase_of (fun h1 => ?_) fun h1 => ?_
  · have h1 : i < 7 := by simp at h1; omega
    refine bcase_true (by rfl) ?_
    refine needs_of (by omega) ?_
    simp only [ptr_some_eq, add_mk, Nat.zero_add, Int.toNat_natCast, Nat.mul_one]
    have hg : (u64s (List.replicate 7 42405))[i]? = some (.int .u64 ((42405 : Nat) : Int)) := u64s_get (by rw [List.getElem?_replicate, if_pos h1])
    refine ldI_of (H.cell 0 rfl (app_get (u64s_length ws) i (get_app hg))) ?_
    refine bindI_of (((ws.length + (i + 1) : Nat) : Int)) (by exact i64_at _ _ (by omega) (by omega) (by omega)) ?_
    exact ⟨n - 1, by omega, i + 1, by omega, rfl, by first | rfl | trivial⟩
  · have h1 : i = 7 := by simp at h1; omega
    subst h1
    have H := H.pre.pre
    refine ⟨fun n vs h' => ∃ (i : Nat) (cs : List Value), i + n = ws.length + 7 ∧ vs = [.int .i64 (i : Int)] ∧ cs.length = c ∧ Hp h0 F h' [⟨o, true, T_uint64, cs⟩], ⟨ws.length + 7, 0, _, by omega, rfl, hc, H⟩, ?_⟩
    clear H hr
    rintro n h2 u x ⟨i, cs, hin, hx, hcl, H⟩
    injection hx with hx
    injection hx with _ hx
    subst hx
    refine bcase_of (fun h1 => ?_) fun h1 => ?_
    · have h1 : i < ws.length + 7 := by simp at h1; omega
      refine needs_of (by omega) ?_
      simp only [ptr_some_eq, add_mk, Nat.zero_add, Int.toNat_natCast, Nat.mul_one]
      refine stV_hp H 0 rfl (by omega) rfl fun h hsz H => ?_
      refine bindI_of (((i + 1 : Nat) : Int)) (by exact i64_at _ _ (by omega) (by omega) (by omega)) ?_
      exact ⟨n - 1, by omega, i + 1, _, by omega, rfl, by rw [List.length_set]; exact hcl, H⟩
    · exact hk _ _ H

/-! ### sheets -/
def SheetP (w g d s : Int) : Prop := SizeP w g ∧ (d = 0 ∨ d = 1) ∧ 0 ≤ s ∧ s ≤ 1048576
/-! ### a page -/
structure Pg where
  W : Nat
  X : Nat
  d : Nat
  s : Nat
  ws : List Nat
  nx : Nat
  dn : Bool
structure PgOk (g : Pg) : Prop where
  size : SizeP (g.W : Int) (g.X : Int)
  len : g.ws.length = g.X * wds g.W
  w : W64 g.ws
  nx : g.nx ≤ g.X
  s : g.s ≤ 1048576
theorem PgOk.b {g : Pg} (h : PgOk g) : 1 ≤ g.W ∧ g.W ≤ 1048576 ∧ 1 ≤ g.X ∧ g.X ≤ 1048576 ∧ 1 ≤ g.ws.length ∧ g.ws.length ≤ 1048576 := by
  obtain ⟨W', X', e1, e2, hW1, hW2, hX1, hX2, hWX⟩ := size_nat h.size
  have e1 : g.W = W' := by omega
  have e2 : g.X = X' := by omega
  rw [h.len, e1, e2]
  have := hw_le hW1 hWX
  have h1 : 1 ≤ X' * wds W' := Nat.mul_pos hX1 (wds_pos hW1)
  omega
/-- All pixels of one colour. -/
def FullP (W X d : Nat) (R : List Nat) : Prop := R.length = X * wds W ∧ W64 R ∧ ∀ Y, Y < X → ∀ x', x' < 64 * wds W → pix R (wds W) x' Y = decide (d = 1 ∧ x' < W)
theorem FullP.eq {W X d : Nat} {R R' : List Nat} (h : FullP W X d R) (h' : FullP W X d R') : R = R' :=
  pix_ext h.1 h'.1 h.2.1 h'.2.1 fun y hy x hx => by rw [h.2.2 y hy x hx, h'.2.2 y hy x hx]
theorem pix_zero (n wd x y : Nat) : pix (List.replicate n 0) wd x y = false := by
  unfold pix
  rw [List.getD_eq_getElem?_getD]
  cases h : (List.replicate n 0)[y * wd + x / 64]? with
  | none => exact Nat.zero_testBit _
  | some v => rw [(List.mem_replicate.1 (List.mem_of_getElem? h)).2]; exact Nat.zero_testBit _

end Go.Bm

/- PgB: pages: Add, Stripe, End, Next, the program's and the document's. -/
set_option linter.unusedVariables false
set_option linter.unusedSimpArgs false
namespace Go.Bm
open Go Go.Den Go.Den.Ytcicfilkdhhnmaa

/-- What a bitmap that is laid leaves. -/
def LaidP (g : Pg) (x y : Int) (op W2 X2 : Nat) (ws2 R : List Nat) : Prop := R.length = g.X * wds g.W ∧ W64 R ∧ ∀ Y, Y < g.X → ∀ x', x' < 64 * wds g.W → pix R (wds g.W) x' Y =
  if x ≤ x' ∧ (x' : Int) < x + W2 ∧ x' < g.W ∧ y ≤ Y ∧ (Y : Int) < y + X2 then opB op (pix g.ws (wds g.W) x' Y) (pix ws2 (wds W2) (x' - x).toNat (Y - y).toNat) else pix g.ws (wds g.W) x' Y
theorem LaidP.eq {g : Pg} {x y : Int} {op W2 X2 : Nat} {ws2 R R' : List Nat} (h : LaidP g x y op W2 X2 ws2 R) (h' : LaidP g x y op W2 X2 ws2 R') : R = R' :=
  pix_ext h.1 h'.1 h.2.1 h'.2.1 fun Y hY x' hx' => by rw [h.2.2 Y hY x' hx', h'.2.2 Y hY x' hx']
def LateP (g : Pg) (y h : Int) : Prop := g.dn = true ∨ y < g.nx ∨ g.s ≠ 0 ∧ (g.s : Int) - h < y - g.nx
def AddR (g : Pg) (x y op w h : Int) (ws2 : List Nat) (e : Int) (g' : Pg) : Prop :=
  ¬ (0 ≤ op ∧ op ≤ 4 ∧ MayP w h ws2) ∧ e = 150 ∧ g' = g ∨
  (0 ≤ op ∧ op ≤ 4 ∧ MayP w h ws2) ∧ LateP g y h ∧ e = 151 ∧ g' = g ∨
  (0 ≤ op ∧ op ≤ 4 ∧ MayP w h ws2) ∧ ¬ LateP g y h ∧ e = 0 ∧ ∃ R, LaidP g x y op.toNat w.toNat h.toNat ws2 R ∧ g' = { g with ws := R }
theorem AddR.det {g g1 g2 : Pg} {x y op w h e1 e2 : Int} {ws2 : List Nat} (h1 : AddR g x y op w h ws2 e1 g1) (h2 : AddR g x y op w h ws2 e2 g2) : e1 = e2 ∧ g1 = g2 := by
  rcases h1 with ⟨a, b, c⟩ | ⟨a, l, b, c⟩ | ⟨a, l, b, R, r, c⟩ <;> rcases h2 with ⟨a', b', c'⟩ | ⟨a', l', b', c'⟩ | ⟨a', l', b', R', r', c'⟩
  · exact ⟨b.trans b'.symm, c.trans c'.symm⟩
  · exact absurd a' a
  · exact absurd a' a
  · exact absurd a a'
  · exact ⟨b.trans b'.symm, c.trans c'.symm⟩
  · exact absurd l l'
  · exact absurd a a'
  · exact absurd l' l
  · refine ⟨b.trans b'.symm, ?_⟩
    rw [c, c', r.eq r']
theorem AddR.ok {g g' : Pg} {x y op w h e : Int} {ws2 : List Nat} (h1 : AddR g x y op w h ws2 e g') (hg : PgOk g) : PgOk g' := by
  rcases h1 with ⟨_, _, c⟩ | ⟨_, _, _, c⟩ | ⟨_, _, _, R, r, c⟩
  · rw [c]; exact hg
  · rw [c]; exact hg
  · rw [c]; exact ⟨hg.size, r.1, r.2.1, hg.nx, hg.s⟩

/-! ### Stripe, End, Next -/
def stripeG (g : Pg) (last : Int) : Int × Pg := if g.dn = true ∨ g.s = 0 ∨ g.nx = g.X ∨ last ≠ ((min (g.nx + g.s) g.X : Nat) : Int) - 1 then (151, g) else (0, { g with nx := min (g.nx + g.s) g.X })
theorem stripeG_ok {g : Pg} (h : PgOk g) (last : Int) : PgOk (stripeG g last).2 := by
  unfold stripeG
  split
  · exact h
  · exact ⟨h.size, h.len, h.w, Nat.min_le_right _ _, h.s⟩
theorem stripeG_same (g : Pg) (last : Int) : (stripeG g last).2.W = g.W ∧ (stripeG g last).2.X = g.X ∧ (stripeG g last).2.d = g.d ∧ (stripeG g last).2.s = g.s ∧ (stripeG g last).2.ws = g.ws ∧ (stripeG g last).2.dn = g.dn := by
  unfold stripeG; split <;> exact ⟨rfl, rfl, rfl, rfl, rfl, rfl⟩
/-- What End answers, and leaves. -/
def EndR (g : Pg) (e w b : Int) (bs : List Nat) (g' : Pg) : Prop :=
  (g.dn = true ∨ g.s ≠ 0 ∧ g.nx < g.X) ∧ e = 151 ∧ w = 0 ∧ b = 0 ∧ bs = [] ∧ g' = g ∨
  ¬ (g.dn = true ∨ g.s ≠ 0 ∧ g.nx < g.X) ∧ e = 0 ∧ w = (g.W : Nat) ∧ b = (g.X : Nat) ∧ bs = g.ws ∧ g' = { g with nx := g.X, dn := true }
theorem EndR.det {g g1 g2 : Pg} {e1 e2 w1 w2 b1 b2 : Int} {bs1 bs2 : List Nat} (h1 : EndR g e1 w1 b1 bs1 g1) (h2 : EndR g e2 w2 b2 bs2 g2) : e1 = e2 ∧ w1 = w2 ∧ b1 = b2 ∧ bs1 = bs2 ∧ g1 = g2 := by
  rcases h1 with ⟨a, b, c, d, e, f⟩ | ⟨a, b, c, d, e, f⟩ <;> rcases h2 with ⟨a', b', c', d', e', f'⟩ | ⟨a', b', c', d', e', f'⟩
  · exact ⟨b.trans b'.symm, c.trans c'.symm, d.trans d'.symm, e.trans e'.symm, f.trans f'.symm⟩
  · exact absurd a a'
  · exact absurd a' a
  · exact ⟨b.trans b'.symm, c.trans c'.symm, d.trans d'.symm, e.trans e'.symm, f.trans f'.symm⟩
theorem EndR.ok {g g' : Pg} {e w b : Int} {bs : List Nat} (h : EndR g e w b bs g') (hg : PgOk g) : PgOk g' ∧ bs.length ≤ 1048576 := by
  have hb := hg.b
  rcases h with ⟨a, b, c, d, e, f⟩ | ⟨a, b, c, d, e, f⟩
  · rw [f, e]; exact ⟨hg, by simp⟩
  · rw [f, e]; exact ⟨⟨hg.size, hg.len, hg.w, Nat.le_refl _, hg.s⟩, by omega⟩

end Go.Bm

/- PgC: the law PageExact, said of memory. -/
set_option linter.unusedVariables false
set_option linter.unusedSimpArgs false
namespace Go.Bm
open Go Go.Den Go.Den.Ytcicfilkdhhnmaa

theorem one_may : MayP 1 1 [9223372036854775808] := by
  refine ⟨by unfold SizeP; omega, by decide, fun y hy => ?_⟩
  have : y = 0 := by simp at hy; omega
  subst this
  decide
theorem three_ws {R0 R : List Nat} (h0 : FullP 3 3 0 R0) (h : LaidP ⟨3, 3, 0, 2, R0, 0, false⟩ 0 0 0 1 1 [9223372036854775808] R) : R = [9223372036854775808, 0, 0] := by
  have hw3 : wds 3 = 1 := rfl
  obtain ⟨h1, h2, h3⟩ := h
  dsimp only at h1 h3
  rw [hw3] at h1 h3
  refine pix_ext (wd := 1) (h := 3) h1 rfl h2 (fun v hv => by simp at hv; rcases hv with rfl | rfl <;> decide) fun y hy x hx => ?_
  have := h3 y hy x hx
  have hz := h0.2.2 y hy x hx
  rw [hw3] at hz
  rw [this]
  have hx64 : x / 64 = 0 := by omega
  have hR : pix [9223372036854775808, 0, 0] 1 x y = decide (x = 0 ∧ y = 0) := by
    unfold pix
    rw [hx64]
    have hb : (9223372036854775808 : Nat) = 2 ^ 63 := rfl
    rcases (show y = 0 ∨ y = 1 ∨ y = 2 by omega) with rfl | rfl | rfl
    · show (9223372036854775808 : Nat).testBit _ = _
      rw [hb, Nat.testBit_two_pow, decide_eq_decide]
      omega
    · show (0 : Nat).testBit _ = _
      rw [Nat.zero_testBit, eq_comm, decide_eq_false_iff_not]; omega
    · show (0 : Nat).testBit _ = _
      rw [Nat.zero_testBit, eq_comm, decide_eq_false_iff_not]; omega
  rw [hR, hz]
  by_cases h4 : x = 0 ∧ y = 0
  · obtain ⟨rfl, rfl⟩ := h4
    rw [if_pos (by omega)]
    decide
  · rw [if_neg (by omega), decide_eq_false h4]
    simp

/-- What is to be done, as it lies in memory. -/
structure OpV (h : Heap) (a : Addr) (d x y op w b : Int) (ws : List Nat) : Prop where
  c0 : hcell h (a.add 0) = some (.int .i64 d)
  c1 : hcell h (a.add 1) = some (.int .i64 x)
  c2 : hcell h (a.add 2) = some (.int .i64 y)
  c3 : hcell h (a.add 3) = some (.int .i64 op)
  c4 : hcell h (a.add 4) = some (.int .i64 w)
  c5 : hcell h (a.add 5) = some (.int .i64 b)
  c6 : ∃ q c, hcell h (a.add 6) = some (.slice q ws.length c) ∧ rdO h q (ws.length * 1) (u64s ws)
  w64 : W64 ws
  len : ws.length < 140737488351300
  x : InI x
  y : InI y
  w : InI w
  b : InI b
def OpsV (h : Heap) (sq : Option Addr) (slen : Nat) : Prop := ∀ i, i < slen → ∃ a d x y op w b ws, sq = some a ∧ OpV h (a.add (i * 7)) d x y op w b ws
def DueV (h : Heap) (sq : Option Addr) (slen : Nat) : Prop := ∀ i, i < slen → ∃ a b, sq = some a ∧ hcell h (a.add (i * 1)) = some (.bool b)
end Go.Bm

/- PgD: a script of pages as it comes in as an argument: the law PageExact over it. -/
set_option linter.unusedVariables false
set_option linter.unusedSimpArgs false
namespace Go.Bm
open Go Go.Den Go.Den.Ytcicfilkdhhnmaa

theorem list3 {α : Type} {l : List α} (h : l.length = 3) : ∃ a b c, l = [a, b, c] := by
  match l, h with
  | [a, b, c], _ => exact ⟨a, b, c, rfl⟩
theorem list4 {α : Type} {l : List α} (h : l.length = 4) : ∃ a b c d, l = [a, b, c, d] := by
  match l, h with
  | [a, b, c, d], _ => exact ⟨a, b, c, d, rfl⟩
theorem list6 {α : Type} {l : List α} (h : l.length = 6) : ∃ a b c d e f, l = [a, b, c, d, e, f] := by
  match l, h with
  | [a, b, c, d, e, f], _ => exact ⟨a, b, c, d, e, f, rfl⟩
theorem list7 {α : Type} {l : List α} (h : l.length = 7) : ∃ a b c d e f g, l = [a, b, c, d, e, f, g] := by
  match l, h with
  | [a, b, c, d, e, f, g], _ => exact ⟨a, b, c, d, e, f, g, rfl⟩
noncomputable abbrev TP := Go.Proofs.Try.prog
theorem one_of {P : Program} {h : Heap} {t : TypeId} {cs : List Value} {o : Nat} {v : Value} (k : P.cellsOf t = 1) (H : WDx P h t ((cs.drop o).take (P.cellsOf t))) (hv : cs[o]? = some v) : WDx P h t [v] := by
  rw [k] at H
  have : (cs.drop o).take 1 = [v] := by
    have ho := (List.getElem?_eq_some_iff.1 hv).1
    rw [List.drop_eq_getElem_cons ho]
    have := (List.getElem?_eq_some_iff.1 hv).2
    simp [this]
  rw [this] at H
  exact H
theorem inI_of {n : Int} (h : IntKind.i64.min ≤ n ∧ n ≤ IntKind.i64.max) : InI n := by
  have h1 : IntKind.i64.min = -9223372036854775808 := by decide
  have h2 : IntKind.i64.max = 9223372036854775807 := by decide
  rw [h1, h2] at h
  unfold InI
  omega
theorem u64s_ints {l : List Int} (h : ∀ x ∈ l, IntKind.u64.min ≤ x ∧ x ≤ IntKind.u64.max) : (l.map fun x => (.int .u64 x : Value)) = u64s (l.map Int.toNat) ∧ W64 (l.map Int.toNat) := by
  have h1 : IntKind.u64.min = 0 := by decide
  have h2 : IntKind.u64.max = 18446744073709551615 := by decide
  rw [h1, h2] at h
  constructor
  · unfold u64s
    rw [List.map_map]
    refine List.map_congr_left fun x hx => ?_
    have := h x hx
    show Value.int .u64 x = .int .u64 ((x.toNat : Nat) : Int)
    rw [Int.toNat_of_nonneg this.1]
  · intro y hy
    obtain ⟨x, hx, rfl⟩ := List.mem_map.1 hy
    have := h x hx
    show x.toNat < 18446744073709551616
    omega
theorem k_int : TP.cellsOf T_int = 1 := by kernel_rfl
theorem k_s_uint64 : TP.cellsOf T_s_uint64 = 1 := by kernel_rfl
theorem wd_words {h : Heap} {cs : List Value} (H : WDx TP h T_s_uint64 cs) :
    ∃ q cap, ∃ ws : List Nat, cs = [.slice q ws.length cap] ∧ ws.length < 140737488351300 ∧ rdO h q (ws.length * 1) (u64s ws) ∧ W64 ws := by
  obtain ⟨q, cap, l, rfl, h1, h2, h3, h4, h5⟩ := wd_ints (k := .u64) Go.Proofs.Try.underlying41 Go.Proofs.Try.underlying112 (by kernel_rfl) H
  obtain ⟨e1, e2⟩ := u64s_ints h5
  have k1 : TP.bytesOf T_uint64 = 8 := by kernel_rfl
  rw [k1] at h2
  have hr : reachBytes = 140737488351232 := rfl
  rw [e1] at h4
  exact ⟨q, cap, l.map Int.toNat, by simp, by simp; omega, by simpa using h4, e2⟩
/-- A bitmap that comes in. -/
theorem wd_bitmap {h : Heap} {cs : List Value} (H : WDx TP h T_api_Bitmap cs) :
    ∃ w b q cap, ∃ ws : List Nat, cs = [.int .i64 w, .int .i64 b, .slice q ws.length cap] ∧ InI w ∧ InI b ∧ ws.length < 140737488351300 ∧ rdO h q (ws.length * 1) (u64s ws) ∧ W64 ws := by
  obtain ⟨hl, hf⟩ := wd_struct Go.Proofs.Try.underlying43 H
  have k : TP.cellsOf T_api_Bitmap = 3 := by kernel_rfl
  rw [k] at hl
  obtain ⟨a, b, c, rfl⟩ := list3 hl
  obtain ⟨w, ew, iw⟩ := wd_int Go.Proofs.Try.underlying3 (one_of k_int (hf 0 _ rfl) (v := a) rfl)
  obtain ⟨b', eb, ib⟩ := wd_int Go.Proofs.Try.underlying3 (one_of k_int (hf 1 _ rfl) (v := b) rfl)
  obtain ⟨q, cap, ws, e2, g1, g2, g3⟩ := wd_words (one_of k_s_uint64 (hf 2 _ rfl) (v := c) rfl)
  simp only [List.cons.injEq, and_true] at ew eb e2
  subst ew eb e2
  exact ⟨w, b', q, cap, ws, rfl, inI_of iw, inI_of ib, g1, g2, g3⟩
end Go.Bm

/- PgF: what the laws PageLaid and PageStripes need besides. -/
set_option linter.unusedVariables false
set_option linter.unusedSimpArgs false
namespace Go.Bm
open Go Go.Den Go.Den.Ytcicfilkdhhnmaa

theorem wi_ok {h : Heap} {i n : Int} (hn : 1 ≤ n) (hn2 : n < 1000000000) {K : Value → Heap → Prop} {Kp : List PanicEntry → Heap → Prop} (hk : ∀ z : Int, 0 ≤ z → z < n → K (.int .i64 z) h) : CP F_burinkit_Within #[.int .i64 i, .int .i64 n] h K Kp := by
  refine call_burinkit_Within ?_
  unfold burinkit_Within
  have h1 := Int.lt_tmod_of_pos i (b := n) (by omega)
  have h2 := Int.tmod_lt_of_pos i (b := n) (by omega)
  refine needs_of (by exact ⟨rfl, by omega⟩) ?_
  refine bindI_gen fun z ez => ?_
  subst ez
  refine bcase_dec (fun h3 => ?_) fun h3 => ?_
  · refine bindI_of ((i.tmod n + n)) (by exact i64_in _ (by omega) (by omega)) ?_
    exact hk _ (by omega) (by omega)
  · exact hk _ (by omega) (by omega)

theorem white_ok' {hB : Heap} {W X : Nat} (hs : SizeP (W : Int) (X : Int)) {K : Value → Heap → Prop} {Kp : List PanicEntry → Heap → Prop}
    (hk : ∀ ws q h, ws.length = X * wds W → W64 ws → (∀ x y, pix ws (wds W) x y = false) → Hp hB [] h [⟨q, true, T_uint64, u64s ws ++ []⟩] → K (.agg #[.int .i64 (W : Nat), .int .i64 (X : Nat), .slice (at0 q) ws.length ws.length]) h) :
    CP F_burinref0_White #[.int .i64 (W : Nat), .int .i64 (X : Nat)] hB K Kp := by
  refine white_ok hs fun q h H => ?_
  have := hk (List.replicate (X * wds W) 0) q h (by simp) (W64.zero _) (fun x y => pix_zero _ _ _ _) (H.as (by rw [List.append_nil]))
  rw [List.length_replicate] at this
  exact this

theorem may_of_pix {W X : Nat} {ws : List Nat} (hs : SizeP (W : Int) (X : Int)) (hl : ws.length = X * wds W) (hw : W64 ws) (hp : ∀ y, y < X → ∀ x, W ≤ x → x < 64 * wds W → pix ws (wds W) x y = false) : MayP (W : Int) (X : Int) ws := by
  obtain ⟨W', X', e1, e2, hW1, hW2, hX1, hX2, hWX⟩ := size_nat hs
  obtain rfl : W = W' := by omega
  refine ⟨hs, by simpa using hl, fun y hy => ?_⟩
  simp only [Int.toNat_natCast] at hy ⊢
  rw [mod_zero_bits]
  intro j hj
  unfold padn at hj
  have hwd : wds W = (W + 63) / 64 := rfl
  have := hp y hy (64 * (wds W - 1) + (63 - j)) (by omega) (by omega)
  unfold pix at this
  rw [show (64 * (wds W - 1) + (63 - j)) / 64 = wds W - 1 by omega, show 63 - (64 * (wds W - 1) + (63 - j)) % 64 = j by omega] at this
  exact this
theorem pix_of_may {W X : Nat} {ws : List Nat} (h : MayP (W : Int) (X : Int) ws) {x y : Nat} (hy : y < X) (h1 : W ≤ x) (h2 : x < 64 * wds W) : pix ws (wds W) x y = false := by
  have h3 := h.2.2 y (by simpa using hy)
  simp only [Int.toNat_natCast] at h3
  rw [mod_zero_bits] at h3
  have hwd : wds W = (W + 63) / 64 := rfl
  unfold padn at h3
  have := h3 (63 - x % 64) (by omega)
  unfold pix
  rw [show x / 64 = wds W - 1 by omega]
  exact this
theorem may_len {W X : Nat} {ws : List Nat} (h : MayP (W : Int) (X : Int) ws) : ws.length = X * wds W := by simpa using h.2.1

/-- A part of a bitmap, laid into a white one that begins 'j' rows below its top. -/
theorem part_ok {h0 h : Heap} {FF : List Nat} {L : List Ent} {q c W X n j : Nat} {ws : List Nat} {rest : List Value} (H : Hp h0 FF h L) (kq : Nat) (hq : L[kq]? = some ⟨q, true, T_uint64, u64s ws ++ rest⟩) (hs : SizeP (W : Int) (n : Int)) (hl : ws.length = n * wds W) (hw : W64 ws) (hz : ∀ x y, pix ws (wds W) x y = false)
    {q2 : Option Addr} {c2 : Nat} {ws2 : List Nat} (hr2 : ∀ h' R, Hp h0 FF h' (L.set kq ⟨q, true, T_uint64, u64s R ++ rest⟩) → rdO h' q2 (ws2.length * 1) (u64s ws2)) (hm : MayP (W : Int) (X : Int) ws2) (hw2 : W64 ws2) (hjn : j + n ≤ X)
    {op : Nat} (hop : op = 0 ∨ op = 4) {K : Value → Heap → Prop} {Kp : List PanicEntry → Heap → Prop}
    (hk : ∀ R h', R.length = n * wds W → W64 R → MayP (W : Int) (n : Int) R → (∀ Y, Y < n → ∀ x', x' < 64 * wds W → pix R (wds W) x' Y = pix ws2 (wds W) x' (Y + j)) →
      Hp h0 FF h' (L.set kq ⟨q, true, T_uint64, u64s R ++ rest⟩) → K (.tuple #[]) h') :
    CP F_burinref0_Lay #[.agg #[.int .i64 (W : Nat), .int .i64 (n : Nat), .slice (at0 q) ws.length c], .int .i64 0, .int .i64 (-(j : Int)), .int .i64 (op : Nat), .agg #[.int .i64 (W : Nat), .int .i64 (X : Nat), .slice q2 ws2.length c2]] h K Kp := by
  obtain ⟨W', X', e1, e2, hW1, hW2, hX1, hX2, hWX⟩ := size_nat hm.1
  obtain rfl : W = W' := by omega
  obtain rfl : X = X' := by omega
  refine lay_ok (ws := ws) H kq hq hs hl hw hr2 hm.1 (may_len hm) hw2 (x := 0) (y := -(j : Int)) ⟨by omega, by omega⟩ ⟨by omega, by omega⟩ (op := op) (by omega) fun R h' k1 k2 k3 H' => ?_
  have k4 : ∀ Y, Y < n → ∀ x', x' < 64 * wds W → pix R (wds W) x' Y = pix ws2 (wds W) x' (Y + j) := fun Y hY x' hx' => by
    rw [k3 Y hY x' hx', hz]
    by_cases h2 : x' < W
    · rw [if_pos (by omega), show ((x' : Int) - 0).toNat = x' by omega, show ((Y : Int) - -(j : Int)).toNat = Y + j by omega]
      rcases hop with rfl | rfl
      · show (false || _) = _
        simp
      · rfl
    · rw [if_neg (by omega), pix_of_may hm (by omega) (by omega) hx']
  exact hk R h' k1 k2 (may_of_pix hs k1 k2 fun y hy x h1 h2 => by rw [k4 y hy x h2]; exact pix_of_may hm (by omega) h1 h2) k4 H'

end Go.Bm

/- RfE: refine.Put: the decisions of a bitmap, coded by the program. -/
set_option linter.unusedVariables false
set_option linter.unusedSimpArgs false
namespace Go.Bm
open Go Go.Den Go.Den.Ytcicfilkdhhnmaa
open Go.Ar (Cod CodOk codL codE putM idx putM_ok rowsV hR)

def stepP (m : Nat) (base : Int) (s : Cod) (n : Nat) (bit : Bool) : (Bool × Cod) ⊕ (Int × Cod) := .inl (bit, putM s (idx (base + (n : Int)) m) bit.toNat)
def SP (p q rc rb : Nat) (base : Int) (s : Cod) (M : List Ent) : Prop := ∃ r rest, M = codL p q r s rest ++ [⟨rc, true, T_p_arith_Coder, [.pointer (at0 p)]⟩, ⟨rb, true, T_int, [.int .i64 base]⟩]

set_option maxRecDepth 100000 in
theorem putDec_ok {p q rc rb m n0 N : Nat} {base : Int} (hb : 0 ≤ base ∧ base ≤ 131072) (hm1 : 1 ≤ m) (hm2 : m ≤ 131072) (hN : n0 + N ≤ 16777216) :
    DecOk N (SP p q rc rb base) (fun k s => CodOk m (n0 + k) s) (stepP m base) (.func (.func F_refine_Put_c1) #[] #[.pointer (some ⟨rc, 0, none⟩), .pointer (some ⟨rb, 0, none⟩)]) := by
  intro h0 h FF s n bit K Kp M k hok hk hn hM H hgood hbad
  obtain ⟨r, rest, rfl⟩ := hM
  show CP F_refine_Put_c1 #[.int .i64 (n : Nat), .int .i64 (bit.toNat : Nat), .pointer (some ⟨rc, 0, none⟩), .pointer (some ⟨rb, 0, none⟩)] h K Kp
  refine call_refine_Put_c1 (cap0 := ⟨rc, 0, none⟩) (cap1 := ⟨rb, 0, none⟩) ?_
  unfold refine_Put_c1
  refine ldP_of (H.cell 3 rfl (i := 0) rfl) ?_
  refine ldI_of (H.cell 4 rfl (i := 0) rfl) ?_
  refine bindI_of ((base + (n : Int))) (by exact i64_in _ (by omega) (by omega)) ?_
  refine Go.Ar.put_ok (bit := bit.toNat) (H.give [0, 1, 2] (by decide) rfl) hok.wf hok.done (by rw [hok.n]; omega) (by rw [hok.len]; exact hm1) (by rw [hok.len]; exact hm2) (toNat_le bit) fun r' rest' h' H' => ?_
  replace H := H.put [0, 1, 2] (by decide) rfl rfl H' rfl rfl
  clear H'
  refine ⟨_, rfl, ?_⟩
  refine bcase_false (by rfl) ?_
  rw [hok.len] at H
  exact hgood bit _ _ h' rfl (putM_ok hok _ _ (by omega)) ⟨r', rest', rfl⟩ H

/-- What refine.Put answers. -/
def ShiftP (dx dy : Int) : Prop := (-1048576 ≤ dx ∧ dx ≤ 1048576) ∧ -1048576 ≤ dy ∧ dy ≤ 1048576
def rfRun (m : Nat) (base : Int) (W X W2 X2 : Nat) (ws ws2 : List Nat) (dx dy : Int) (s : Cod) : ((Int → Int → Bool) × Cod) ⊕ (Int × Cod) := runN W (getP ws2 W2 X2) dx dy (stepP m base) (X * W) (getP ws W X, s)
theorem rfRun_inl {m : Nat} {base : Int} {W : Nat} {R : Int → Int → Bool} {dx dy : Int} (g : (Int → Int → Bool) × Cod) : ∀ k, ∃ g', runN W R dx dy (stepP m base) k g = .inl g'
  | 0 => ⟨_, rfl⟩
  | k + 1 => by
    obtain ⟨⟨G, s⟩, hg⟩ := rfRun_inl (m := m) (base := base) (W := W) (R := R) (dx := dx) (dy := dy) g k
    unfold runN
    rw [hg]
    exact ⟨_, rfl⟩

set_option maxRecDepth 100000 in
set_option maxHeartbeats 1000000 in
theorem rfPut_ok {h0 h : Heap} {FF : List Nat} {p q r m n0 : Nat} {s : Cod} {rest : List Value} (H : Hp h0 FF h (codL p q r s rest)) (hc : CodOk m n0 s) (hm1 : 1 ≤ m) (hm2 : m ≤ 131072) {base : Int} (hbase : base ≤ 1000000000)
    {w b w2 b2 : Int} {q1 q2 : Option Addr} {c1 c2 : Nat} {ws ws2 : List Nat} (hr1 : rdO h q1 (ws.length * 1) (u64s ws)) (hw1 : W64 ws) (hl1 : ws.length < 140737488351300) (hr2 : ∀ h', hext h h' → rdO h' q2 (ws2.length * 1) (u64s ws2)) (hw2 : W64 ws2) (hl2 : ws2.length < 140737488351300)
    {dx dy : Int} (hN : MayP w b ws → n0 + b.toNat * w.toNat ≤ 16777216) {K : Value → Heap → Prop} {Kp : List PanicEntry → Heap → Prop}
    (hk62 : ∀ h', ¬ (MayP w b ws ∧ MayP w2 b2 ws2) → Hp h0 FF h' (codL p q r s rest) → K (.int .i64 62) h')
    (hk70 : ∀ h', MayP w b ws ∧ MayP w2 b2 ws2 → ¬ ShiftP dx dy → Hp h0 FF h' (codL p q r s rest) → K (.int .i64 70) h')
    (hk51 : ∀ h', MayP w b ws ∧ MayP w2 b2 ws2 → ShiftP dx dy → ¬ (0 ≤ base ∧ base ≤ (m : Int) - 8192) → Hp h0 FF h' (codL p q r s rest) → K (.int .i64 51) h')
    (hk0 : ∀ s' r' rest' G h', MayP w b ws ∧ MayP w2 b2 ws2 → ShiftP dx dy → 0 ≤ base ∧ base ≤ (m : Int) - 8192 → rfRun m base w.toNat b.toNat w2.toNat b2.toNat ws ws2 dx dy s = .inl (G, s') → CodOk m (n0 + b.toNat * w.toNat) s' → Hp h0 FF h' (codL p q r' s' rest') → K (.int .i64 0) h') :
    CP F_refine_Put #[.pointer (at0 p), .int .i64 base, .agg #[.int .i64 w, .int .i64 b, .slice q1 ws.length c1], .agg #[.int .i64 w2, .int .i64 b2, .slice q2 ws2.length c2], .int .i64 dx, .int .i64 dy] h K Kp := by
  refine call_refine_Put ?_
  unfold refine_Put
  refine newC_hpx H fun r7 h1 x1 H => ?_
  refine newC_hpx H fun r9 h2 x2 H => ?_
  refine newC_hpx H fun r11 h3 x3 H => ?_
  refine newC_hpx H fun r13 h4 x4 H => ?_
  have x := ((x1.trans x2).trans x3).trans x4
  clear x1 x2 x3 x4
  refine ldP_of (H.cell 3 rfl (i := 0) rfl) ?_
  refine bcase_false (by rfl) ?_
  refine ldI_of (Hp.cellA H 5 rfl (i := 0) rfl) ?_
  refine ldI_of (Hp.cellA H 5 rfl (i := 1) rfl) ?_
  refine ldS_of (Hp.cellA H 5 rfl (i := 2) rfl) ?_
  refine from_ok (rdO_ext x hr1) hw1 hl1 (fun W X p1 qs srest h5 hwW hbX hm H' => ?_) fun h5 hm e5 => ?_
  · subst hwW hbX
    have x5 := x.trans H'.hext
    replace H := H.join H' rfl
    clear H'
    refine ⟨_, _, rfl, ?_⟩
    refine ldI_of (Hp.cellA H 6 rfl (i := 0) rfl) ?_
    refine ldI_of (Hp.cellA H 6 rfl (i := 1) rfl) ?_
    refine ldS_of (Hp.cellA H 6 rfl (i := 2) rfl) ?_
    refine from_ok (hr2 _ x5) hw2 hl2 (fun W2 X2 p2 qs2 srest2 h6 hwW2 hbX2 hm2' H' => ?_) fun h6 hm2' e6 => ?_
    · subst hwW2 hbX2
      replace H := H.join H' rfl
      clear H'
      refine ⟨_, _, rfl, ?_⟩
      refine ⟨fun vs h' => h' = h6 ∧ vs = [.bool false], bcase_false rfl ⟨rfl, rfl⟩, ?_⟩
      rintro h' u xx ⟨rfl, hxx⟩
      injection hxx with hxx
      injection hxx with hxx
      subst hxx
      refine bcase_false (by rfl) ?_
      refine shifts_ok fun bb hbb => ?_
      refine ⟨_, rfl, ?_⟩
      refine bcase_not (fun h1 => ?_) fun h1 => ?_
      · exact hk70 _ ⟨hm, hm2'⟩ (fun hsh => by rw [hbb.2 hsh] at h1; cases h1) (H.take 3)
      have hsh := hbb.1 h1
      refine ldI_of (H.cell 4 rfl (i := 0) rfl) ?_
      refine ldP_of (H.cell 3 rfl (i := 0) rfl) ?_
      refine ptr_of (a := ⟨p, 0, none⟩) ?_
      rw [add_mk, Nat.zero_add]
      refine Go.Ar.contexts_ok (n := s.st.length) H 0 rfl ?_
      refine ⟨_, rfl, hext.refl _, ?_⟩
      rw [hc.len]
      refine fits8_ok (by omega) fun bf hbf => ?_
      refine ⟨_, rfl, ?_⟩
      refine bcase_not (fun h2 => ?_) fun h2 => ?_
      · exact hk51 _ ⟨hm, hm2'⟩ hsh (fun hh => by rw [hbf.2 hh] at h2; cases h2) (H.take 3)
      have hft := hbf.1 h2
      have hX : X * W ≤ 16777216 - n0 ∧ n0 + X * W ≤ 16777216 := by have := hN hm; simp only [Int.toNat_natCast] at this; omega
      have HH := H.pick [7, 8, 9, 10, 0, 1, 2, 3, 4] (by decide) (L' := [mapE p1 qs W X ws.length (ws.length + srest.length), ⟨qs, true, T_uint64, u64s ws ++ srest⟩, mapE p2 qs2 W2 X2 ws2.length (ws2.length + srest2.length), ⟨qs2, true, T_uint64, u64s ws2 ++ srest2⟩] ++ (codL p q r s rest ++ [⟨r7, true, T_p_arith_Coder, [.pointer (at0 p)]⟩, ⟨r9, true, T_int, [.int .i64 base]⟩])) rfl
      refine run_ok (σ := Cod) (S := SP p q r7 r9 base) (Ok := fun k s => CodOk m (n0 + k) s) (step := stepP m base) (fun s M hM => by obtain ⟨r, rest, rfl⟩ := hM; rfl) (putDec_ok ⟨by omega, by omega⟩ hm1 hm2 hX.2) ⟨r, rest, rfl⟩ HH rfl rfl hm.1 (may_len hm) hw1 (fun y hy x h1 h2 => pix_of_may hm hy h1 h2) hm2'.1 (may_len hm2') hw2 hsh.1 hsh.2 hc (fun ws' s' M h' T hM hrun _ _ _ hok' H' => ?_) fun e ws' s' M h' T hM hrun _ _ H' => ?_
      · obtain ⟨r', rest', rfl⟩ := hM
        refine ⟨_, rfl, ?_⟩
        refine hk0 s' r' rest' _ h' ⟨hm, hm2'⟩ hsh hft hrun (by simpa using hok') ?_
        exact Hp.pre (Hp.suf (Hp.suf H'))
      · obtain ⟨g', hg⟩ := rfRun_inl (m := m) (base := base) (W := W) (R := getP ws2 W2 X2) (dx := dx) (dy := dy) (getP ws W X, s) (X * W)
        rw [hg] at hrun
        cases hrun
    · have H := H.ext e6
      refine ⟨_, _, rfl, ?_⟩
      refine ⟨fun vs h' => h' = h6 ∧ vs = [.bool true], bcase_false rfl ⟨rfl, rfl⟩, ?_⟩
      rintro h' u xx ⟨rfl, hxx⟩
      injection hxx with hxx
      injection hxx with hxx
      subst hxx
      refine bcase_true (by rfl) ?_
      exact hk62 _ (fun hh => hm2' hh.2) (H.take 3)
  · have H := H.ext e5
    have x5 := x.trans e5
    refine ⟨_, _, rfl, ?_⟩
    refine ldI_of (Hp.cellA H 6 rfl (i := 0) rfl) ?_
    refine ldI_of (Hp.cellA H 6 rfl (i := 1) rfl) ?_
    refine ldS_of (Hp.cellA H 6 rfl (i := 2) rfl) ?_
    have fin : ∀ (h6 : Heap) (z : Int), Hp h0 FF h6 (codL p q r s rest) → K (.int .i64 62) h6 := fun h6 z H => hk62 _ (fun hh => hm hh.1) H
    refine from_ok (hr2 _ x5) hw2 hl2 (fun W2 X2 p2 qs2 srest2 h6 hwW2 hbX2 hm2' H' => ?_) fun h6 hm2' e6 => ?_
    · replace H := H.join H' rfl
      refine ⟨_, _, rfl, ?_⟩
      refine ⟨fun vs h' => h' = h6 ∧ vs = [.bool true], bcase_true rfl ⟨rfl, rfl⟩, ?_⟩
      rintro h' u xx ⟨rfl, hxx⟩
      injection hxx with hxx
      injection hxx with hxx
      subst hxx
      refine bcase_true (by rfl) ?_
      exact fin _ 0 (H.take 3)
    · have H := H.ext e6
      refine ⟨_, _, rfl, ?_⟩
      refine ⟨fun vs h' => h' = h6 ∧ vs = [.bool true], bcase_true rfl ⟨rfl, rfl⟩, ?_⟩
      rintro h' u xx ⟨rfl, hxx⟩
      injection hxx with hxx
      injection hxx with hxx
      subst hxx
      refine bcase_true (by rfl) ?_
      exact fin _ 0 (H.take 3)
end Go.Bm

/- Written by gen.py: the conditions of the functions of burinref8. -/
set_option linter.unusedVariables false
set_option linter.unusedSimpArgs false
namespace Go.Den.Ytcicfilkdhhnmaa
open Go Go.Den

/- burin/burinref8.Encode -/
set_option maxRecDepth 100000 in
def burinref8_Encode (C : CallP) (b_1 : Int) (b_2 : Int) (b_3 : Option Addr) (b_3n : Nat) (b_3c : Nat) (ref_4 : Int) (ref_5 : Int) (ref_6 : Option Addr) (ref_6n : Nat) (ref_6c : Nat) (dx : Int) (dy : Int) (h : Heap) (K : Value → Heap → Prop) (Kp : List PanicEntry → Heap → Prop) : Prop :=
newC h [.int .i64 b_1, .int .i64 b_2, .slice b_3 b_3n b_3c] T_api_Bitmap fun r_7 h_8 =>
newC h_8 [.int .i64 ref_4, .int .i64 ref_5, .slice ref_6 ref_6n ref_6c] T_api_Bitmap fun r_9 h_10 =>
ldI h_10 ((⟨r_7, 0, none⟩ : Addr).add 0) .i64 fun x_11 =>
ldI h_10 ((⟨r_7, 0, none⟩ : Addr).add 1) .i64 fun x_12 =>
ldS h_10 ((⟨r_7, 0, none⟩ : Addr).add 2) fun x_13 x_13n x_13c =>
C F_burinref0_May #[.agg #[.int .i64 x_11, .int .i64 x_12, .slice x_13 x_13n x_13c]] h_10 (fun v_14 h_15 =>
∃ (r_16 : Bool), v_14 = .bool r_16 ∧ (
bcase (!r_16) (
K (.tuple #[.slice none 0 0, .int .i64 62]) h_15) <|
ldI h_15 ((⟨r_9, 0, none⟩ : Addr).add 0) .i64 fun x_17 =>
ldI h_15 ((⟨r_9, 0, none⟩ : Addr).add 1) .i64 fun x_18 =>
ldS h_15 ((⟨r_9, 0, none⟩ : Addr).add 2) fun x_19 x_19n x_19c =>
C F_burinref0_May #[.agg #[.int .i64 x_17, .int .i64 x_18, .slice x_19 x_19n x_19c]] h_15 (fun v_20 h_21 =>
∃ (r_22 : Bool), v_20 = .bool r_22 ∧ (
bcase (!r_22) (
K (.tuple #[.slice none 0 0, .int .i64 62]) h_21) <|
C F_burinref8_May #[.int .i64 dx, .int .i64 dy] h_21 (fun v_23 h_24 =>
∃ (r_25 : Bool), v_23 = .bool r_25 ∧ (
bcase (!r_25) (
K (.tuple #[.slice none 0 0, .int .i64 70]) h_24) <|
C F_burinref4_New #[.int .i64 8192] h_24 (fun v_26 h_27 =>
∃ (r_28 : Option Addr), v_26 = .pointer r_28 ∧ (
ldI h_27 ((⟨r_7, 0, none⟩ : Addr).add 0) .i64 fun x_29 =>
ldI h_27 ((⟨r_7, 0, none⟩ : Addr).add 1) .i64 fun x_30 =>
ldS h_27 ((⟨r_7, 0, none⟩ : Addr).add 2) fun x_31 x_31n x_31c =>
ldI h_27 ((⟨r_9, 0, none⟩ : Addr).add 0) .i64 fun x_32 =>
ldI h_27 ((⟨r_9, 0, none⟩ : Addr).add 1) .i64 fun x_33 =>
ldS h_27 ((⟨r_9, 0, none⟩ : Addr).add 2) fun x_34 x_34n x_34c =>
C F_burinref8_Put #[.pointer r_28, .int .i64 0, .agg #[.int .i64 x_29, .int .i64 x_30, .slice x_31 x_31n x_31c], .agg #[.int .i64 x_32, .int .i64 x_33, .slice x_34 x_34n x_34c], .int .i64 dx, .int .i64 dy] h_27 (fun v_35 h_36 =>
∃ (r_37 : Int), v_35 = .int .i64 r_37 ∧ (
bcase (r_37 != (0 : Int)) (
K (.tuple #[.slice none 0 0, .int .i64 r_37]) h_36) <|
C F_burinref4_Coder_Flush #[.pointer r_28] h_36 (fun v_38 h_39 =>
∃ (r_40 : Option Addr) (r_40n : Nat) (r_40c : Nat), ∃ (r_41 : Int), v_38 = .tuple #[.slice r_40 r_40n r_40c, .int .i64 r_41] ∧ (
K (.tuple #[.slice r_40 r_40n r_40c, .int .i64 r_41]) h_39)) (Kp))) (Kp))) (Kp))) (Kp))) (Kp))) (Kp)

/- burin/burinref8.Decode -/
set_option maxRecDepth 100000 in
def burinref8_Decode (C : CallP) (f : Option Addr) (fn : Nat) (fc : Nat) (w : Int) (h' : Int) (ref_1 : Int) (ref_2 : Int) (ref_3 : Option Addr) (ref_3n : Nat) (ref_3c : Nat) (dx : Int) (dy : Int) (h : Heap) (K : Value → Heap → Prop) (Kp : List PanicEntry → Heap → Prop) : Prop :=
newC h [.int .i64 ref_1, .int .i64 ref_2, .slice ref_3 ref_3n ref_3c] T_api_Bitmap fun r_4 h_5 =>
newC h_5 [.int .i64 0, .int .i64 0, .slice none 0 0] T_api_Bitmap fun r_6 h_7 =>
ldI h_7 ((⟨r_4, 0, none⟩ : Addr).add 0) .i64 fun x_8 =>
ldI h_7 ((⟨r_4, 0, none⟩ : Addr).add 1) .i64 fun x_9 =>
ldS h_7 ((⟨r_4, 0, none⟩ : Addr).add 2) fun x_10 x_10n x_10c =>
C F_burinref0_May #[.agg #[.int .i64 x_8, .int .i64 x_9, .slice x_10 x_10n x_10c]] h_7 (fun v_11 h_12 =>
∃ (r_13 : Bool), v_11 = .bool r_13 ∧ (
bcase (!r_13) (
stV h_12 ((⟨r_6, 0, none⟩ : Addr).add 0) (.int .i64 0) fun h_14 =>
stV h_14 ((⟨r_6, 0, none⟩ : Addr).add 1) (.int .i64 0) fun h_15 =>
stV h_15 ((⟨r_6, 0, none⟩ : Addr).add 2) (.slice none 0 0) fun h_16 =>
ldI h_16 ((⟨r_6, 0, none⟩ : Addr).add 0) .i64 fun r_17 =>
ldI h_16 ((⟨r_6, 0, none⟩ : Addr).add 1) .i64 fun r_18 =>
ldS h_16 ((⟨r_6, 0, none⟩ : Addr).add 2) fun r_19 r_19n r_19c =>
K (.tuple #[.agg #[.int .i64 r_17, .int .i64 r_18, .slice r_19 r_19n r_19c], .int .i64 62]) h_16) <|
C F_burinref0_Size #[.int .i64 w, .int .i64 h'] h_12 (fun v_20 h_21 =>
∃ (r_22 : Bool), v_20 = .bool r_22 ∧ (
bcase (!r_22) (
stV h_21 ((⟨r_6, 0, none⟩ : Addr).add 0) (.int .i64 0) fun h_23 =>
stV h_23 ((⟨r_6, 0, none⟩ : Addr).add 1) (.int .i64 0) fun h_24 =>
stV h_24 ((⟨r_6, 0, none⟩ : Addr).add 2) (.slice none 0 0) fun h_25 =>
ldI h_25 ((⟨r_6, 0, none⟩ : Addr).add 0) .i64 fun r_26 =>
ldI h_25 ((⟨r_6, 0, none⟩ : Addr).add 1) .i64 fun r_27 =>
ldS h_25 ((⟨r_6, 0, none⟩ : Addr).add 2) fun r_28 r_28n r_28c =>
K (.tuple #[.agg #[.int .i64 r_26, .int .i64 r_27, .slice r_28 r_28n r_28c], .int .i64 63]) h_25) <|
C F_burinref8_May #[.int .i64 dx, .int .i64 dy] h_21 (fun v_29 h_30 =>
∃ (r_31 : Bool), v_29 = .bool r_31 ∧ (
bcase (!r_31) (
stV h_30 ((⟨r_6, 0, none⟩ : Addr).add 0) (.int .i64 0) fun h_32 =>
stV h_32 ((⟨r_6, 0, none⟩ : Addr).add 1) (.int .i64 0) fun h_33 =>
stV h_33 ((⟨r_6, 0, none⟩ : Addr).add 2) (.slice none 0 0) fun h_34 =>
ldI h_34 ((⟨r_6, 0, none⟩ : Addr).add 0) .i64 fun r_35 =>
ldI h_34 ((⟨r_6, 0, none⟩ : Addr).add 1) .i64 fun r_36 =>
ldS h_34 ((⟨r_6, 0, none⟩ : Addr).add 2) fun r_37 r_37n r_37c =>
K (.tuple #[.agg #[.int .i64 r_35, .int .i64 r_36, .slice r_37 r_37n r_37c], .int .i64 70]) h_34) <|
ldI h_30 ((⟨r_4, 0, none⟩ : Addr).add 0) .i64 fun x_38 =>
ldI h_30 ((⟨r_4, 0, none⟩ : Addr).add 1) .i64 fun x_39 =>
ldS h_30 ((⟨r_4, 0, none⟩ : Addr).add 2) fun x_40 x_40n x_40c =>
C F_burinref4_NewDecoder #[.slice f fn fc, .int .i64 8192] h_30 (fun v_41 h_42 =>
∃ (r_43 : Option Addr), v_41 = .pointer r_43 ∧ (
hext h_30 h_42 ∧ (
C F_burinref8_Get #[.pointer r_43, .int .i64 0, .int .i64 w, .int .i64 h', .agg #[.int .i64 x_38, .int .i64 x_39, .slice x_40 x_40n x_40c], .int .i64 dx, .int .i64 dy] h_42 (fun v_44 h_45 =>
∃ (r_46 : Int) (r_47 : Int) (r_48 : Option Addr) (r_48n : Nat) (r_48c : Nat), ∃ (r_49 : Int), v_44 = .tuple #[.agg #[.int .i64 r_46, .int .i64 r_47, .slice r_48 r_48n r_48c], .int .i64 r_49] ∧ (
stV h_45 ((⟨r_6, 0, none⟩ : Addr).add 0) (.int .i64 r_46) fun h_50 =>
stV h_50 ((⟨r_6, 0, none⟩ : Addr).add 1) (.int .i64 r_47) fun h_51 =>
stV h_51 ((⟨r_6, 0, none⟩ : Addr).add 2) (.slice r_48 r_48n r_48c) fun h_52 =>
ldI h_52 ((⟨r_6, 0, none⟩ : Addr).add 0) .i64 fun r_53 =>
ldI h_52 ((⟨r_6, 0, none⟩ : Addr).add 1) .i64 fun r_54 =>
ldS h_52 ((⟨r_6, 0, none⟩ : Addr).add 2) fun r_55 r_55n r_55c =>
K (.tuple #[.agg #[.int .i64 r_53, .int .i64 r_54, .slice r_55 r_55n r_55c], .int .i64 r_49]) h_52)) (Kp)))) (Kp))) (Kp))) (Kp))) (Kp)

/- burin/burinref8.May -/
set_option maxRecDepth 100000 in
def burinref8_May (C : CallP) (dx : Int) (dy : Int) (h : Heap) (K : Value → Heap → Prop) (Kp : List PanicEntry → Heap → Prop) : Prop :=
bcase (decide (dx ≥ (-1048576 : Int))) (
bcase (decide (dx ≤ (1048576 : Int))) (
bcase (decide (dy ≥ (-1048576 : Int))) (
K (.bool (decide (dy ≤ (1048576 : Int)))) h) <|
K (.bool false) h) <|
K (.bool false) h) <|
K (.bool false) h

/- burin/burinref8.Put -/
set_option maxRecDepth 100000 in
def burinref8_Put (C : CallP) (c : Option Addr) (base : Int) (b_1 : Int) (b_2 : Int) (b_3 : Option Addr) (b_3n : Nat) (b_3c : Nat) (ref_4 : Int) (ref_5 : Int) (ref_6 : Option Addr) (ref_6n : Nat) (ref_6c : Nat) (dx : Int) (dy : Int) (h : Heap) (K : Value → Heap → Prop) (Kp : List PanicEntry → Heap → Prop) : Prop :=
newC h [.int .i64 b_1, .int .i64 b_2, .slice b_3 b_3n b_3c] T_api_Bitmap fun r_7 h_8 =>
newC h_8 [.int .i64 ref_4, .int .i64 ref_5, .slice ref_6 ref_6n ref_6c] T_api_Bitmap fun r_9 h_10 =>
∃ J_11 : Nat → List Value → Heap → Prop, (∃ n_13, J_11 n_13 [.int .i64 0] h_10) ∧ ∀ (n_13 : Nat) (h_14 : Heap) (u_15 : Nat → Value) (y_16 : Int), J_11 n_13 [.int .i64 y_16] h_14 → (
ldI h_14 ((⟨r_7, 0, none⟩ : Addr).add 1) .i64 fun x_17 =>
bcase (decide (y_16 < x_17)) (
∃ J_18 : Nat → List Value → Heap → Prop, (∃ n_20, J_18 n_20 [.int .i64 0] h_14) ∧ ∀ (n_20 : Nat) (h_21 : Heap) (u_22 : Nat → Value) (x_23 : Int), J_18 n_20 [.int .i64 x_23] h_21 → (
ldI h_21 ((⟨r_7, 0, none⟩ : Addr).add 0) .i64 fun x_24 =>
bcase (decide (x_23 < x_24)) (
ldI h_21 ((⟨r_7, 0, none⟩ : Addr).add 0) .i64 fun x_25 =>
ldI h_21 ((⟨r_7, 0, none⟩ : Addr).add 1) .i64 fun x_26 =>
ldS h_21 ((⟨r_7, 0, none⟩ : Addr).add 2) fun x_27 x_27n x_27c =>
ldI h_21 ((⟨r_9, 0, none⟩ : Addr).add 0) .i64 fun x_28 =>
ldI h_21 ((⟨r_9, 0, none⟩ : Addr).add 1) .i64 fun x_29 =>
ldS h_21 ((⟨r_9, 0, none⟩ : Addr).add 2) fun x_30 x_30n x_30c =>
ldI h_21 ((⟨r_7, 0, none⟩ : Addr).add 0) .i64 fun x_31 =>
ldI h_21 ((⟨r_7, 0, none⟩ : Addr).add 1) .i64 fun x_32 =>
ldS h_21 ((⟨r_7, 0, none⟩ : Addr).add 2) fun x_33 x_33n x_33c =>
C F_burinref8_At #[.agg #[.int .i64 x_25, .int .i64 x_26, .slice x_27 x_27n x_27c], .agg #[.int .i64 x_28, .int .i64 x_29, .slice x_30 x_30n x_30c], .int .i64 dx, .int .i64 dy, .int .i64 x_23, .int .i64 y_16] h_21 (fun v_34 h_35 =>
∃ (r_36 : Int), v_34 = .int .i64 r_36 ∧ (
hext h_21 h_35 ∧ (
bindI (IntKind.i64.wrap (base + r_36)) fun z_37 =>
C F_burinref0_Get #[.agg #[.int .i64 x_31, .int .i64 x_32, .slice x_33 x_33n x_33c], .int .i64 x_23, .int .i64 y_16] h_35 (fun v_38 h_39 =>
∃ (r_40 : Int), v_38 = .int .i64 r_40 ∧ (
C F_burinref4_Coder_Put #[.pointer c, .int .i64 z_37, .int .i64 r_40] h_39 (fun v_41 h_42 =>
∃ (r_43 : Int), v_41 = .int .i64 r_43 ∧ (
bcase (r_43 != (0 : Int)) (
K (.int .i64 r_43) h_42) <|
bindI (IntKind.i64.wrap (x_23 + (1 : Int))) fun z_44 =>
∃ m_19, m_19 < n_20 ∧ J_18 m_19 [.int .i64 z_44] h_42)) (Kp))) (Kp)))) (Kp)) <|
bindI (IntKind.i64.wrap (y_16 + (1 : Int))) fun z_45 =>
∃ m_12, m_12 < n_13 ∧ J_11 m_12 [.int .i64 z_45] h_21)) <|
K (.int .i64 0) h_14)

/- burin/burinref8.Get -/
set_option maxRecDepth 100000 in
def burinref8_Get (C : CallP) (d : Option Addr) (base : Int) (w : Int) (h' : Int) (ref_1 : Int) (ref_2 : Int) (ref_3 : Option Addr) (ref_3n : Nat) (ref_3c : Nat) (dx : Int) (dy : Int) (h : Heap) (K : Value → Heap → Prop) (Kp : List PanicEntry → Heap → Prop) : Prop :=
newC h [.int .i64 ref_1, .int .i64 ref_2, .slice ref_3 ref_3n ref_3c] T_api_Bitmap fun r_4 h_5 =>
newC h_5 [.int .i64 0, .int .i64 0, .slice none 0 0] T_api_Bitmap fun r_6 h_7 =>
C F_burinref0_White #[.int .i64 w, .int .i64 h'] h_7 (fun v_8 h_9 =>
∃ (r_10 : Int) (r_11 : Int) (r_12 : Option Addr) (r_12n : Nat) (r_12c : Nat), v_8 = .agg #[.int .i64 r_10, .int .i64 r_11, .slice r_12 r_12n r_12c] ∧ (
newC h_9 [.int .i64 0, .int .i64 0, .slice none 0 0] T_api_Bitmap fun r_13 h_14 =>
stV h_14 ((⟨r_13, 0, none⟩ : Addr).add 0) (.int .i64 r_10) fun h_15 =>
stV h_15 ((⟨r_13, 0, none⟩ : Addr).add 1) (.int .i64 r_11) fun h_16 =>
stV h_16 ((⟨r_13, 0, none⟩ : Addr).add 2) (.slice r_12 r_12n r_12c) fun h_17 =>
∃ J_18 : Nat → List Value → Heap → Prop, (∃ n_20, J_18 n_20 [.int .i64 0] h_17) ∧ ∀ (n_20 : Nat) (h_21 : Heap) (u_22 : Nat → Value) (y_23 : Int), J_18 n_20 [.int .i64 y_23] h_21 → (
bcase (decide (y_23 < h')) (
∃ J_24 : Nat → List Value → Heap → Prop, (∃ n_26, J_24 n_26 [.int .i64 0] h_21) ∧ ∀ (n_26 : Nat) (h_27 : Heap) (u_28 : Nat → Value) (x_29 : Int), J_24 n_26 [.int .i64 x_29] h_27 → (
bcase (decide (x_29 < w)) (
ldI h_27 ((⟨r_13, 0, none⟩ : Addr).add 0) .i64 fun x_30 =>
ldI h_27 ((⟨r_13, 0, none⟩ : Addr).add 1) .i64 fun x_31 =>
ldS h_27 ((⟨r_13, 0, none⟩ : Addr).add 2) fun x_32 x_32n x_32c =>
ldI h_27 ((⟨r_4, 0, none⟩ : Addr).add 0) .i64 fun x_33 =>
ldI h_27 ((⟨r_4, 0, none⟩ : Addr).add 1) .i64 fun x_34 =>
ldS h_27 ((⟨r_4, 0, none⟩ : Addr).add 2) fun x_35 x_35n x_35c =>
C F_burinref8_At #[.agg #[.int .i64 x_30, .int .i64 x_31, .slice x_32 x_32n x_32c], .agg #[.int .i64 x_33, .int .i64 x_34, .slice x_35 x_35n x_35c], .int .i64 dx, .int .i64 dy, .int .i64 x_29, .int .i64 y_23] h_27 (fun v_36 h_37 =>
∃ (r_38 : Int), v_36 = .int .i64 r_38 ∧ (
bindI (IntKind.i64.wrap (base + r_38)) fun z_39 =>
C F_burinref4_Decoder_Get #[.pointer d, .int .i64 z_39] h_37 (fun v_40 h_41 =>
∃ (r_42 : Int), ∃ (r_43 : Int), v_40 = .tuple #[.int .i64 r_42, .int .i64 r_43] ∧ (
bcase (r_43 != (0 : Int)) (
stV h_41 ((⟨r_6, 0, none⟩ : Addr).add 0) (.int .i64 0) fun h_44 =>
stV h_44 ((⟨r_6, 0, none⟩ : Addr).add 1) (.int .i64 0) fun h_45 =>
stV h_45 ((⟨r_6, 0, none⟩ : Addr).add 2) (.slice none 0 0) fun h_46 =>
ldI h_46 ((⟨r_6, 0, none⟩ : Addr).add 0) .i64 fun r_47 =>
ldI h_46 ((⟨r_6, 0, none⟩ : Addr).add 1) .i64 fun r_48 =>
ldS h_46 ((⟨r_6, 0, none⟩ : Addr).add 2) fun r_49 r_49n r_49c =>
K (.tuple #[.agg #[.int .i64 r_47, .int .i64 r_48, .slice r_49 r_49n r_49c], .int .i64 r_43]) h_46) <|
ldI h_41 ((⟨r_13, 0, none⟩ : Addr).add 0) .i64 fun x_50 =>
ldI h_41 ((⟨r_13, 0, none⟩ : Addr).add 1) .i64 fun x_51 =>
ldS h_41 ((⟨r_13, 0, none⟩ : Addr).add 2) fun x_52 x_52n x_52c =>
C F_burinref0_Put #[.agg #[.int .i64 x_50, .int .i64 x_51, .slice x_52 x_52n x_52c], .int .i64 x_29, .int .i64 y_23, .int .i64 r_42] h_41 (fun v_53 h_54 =>
bindI (IntKind.i64.wrap (x_29 + (1 : Int))) fun z_55 =>
∃ m_25, m_25 < n_26 ∧ J_24 m_25 [.int .i64 z_55] h_54) (Kp))) (Kp))) (Kp)) <|
bindI (IntKind.i64.wrap (y_23 + (1 : Int))) fun z_56 =>
∃ m_19, m_19 < n_20 ∧ J_18 m_19 [.int .i64 z_56] h_27)) <|
ldI h_21 ((⟨r_13, 0, none⟩ : Addr).add 0) .i64 fun x_57 =>
ldI h_21 ((⟨r_13, 0, none⟩ : Addr).add 1) .i64 fun x_58 =>
ldS h_21 ((⟨r_13, 0, none⟩ : Addr).add 2) fun x_59 x_59n x_59c =>
stV h_21 ((⟨r_6, 0, none⟩ : Addr).add 0) (.int .i64 x_57) fun h_60 =>
stV h_60 ((⟨r_6, 0, none⟩ : Addr).add 1) (.int .i64 x_58) fun h_61 =>
stV h_61 ((⟨r_6, 0, none⟩ : Addr).add 2) (.slice x_59 x_59n x_59c) fun h_62 =>
ldI h_62 ((⟨r_6, 0, none⟩ : Addr).add 0) .i64 fun r_63 =>
ldI h_62 ((⟨r_6, 0, none⟩ : Addr).add 1) .i64 fun r_64 =>
ldS h_62 ((⟨r_6, 0, none⟩ : Addr).add 2) fun r_65 r_65n r_65c =>
K (.tuple #[.agg #[.int .i64 r_63, .int .i64 r_64, .slice r_65 r_65n r_65c], .int .i64 0]) h_62))) (Kp)

/- burin/burinref8.At -/
set_option maxRecDepth 100000 in
def burinref8_At (C : CallP) (a0_1 : Int) (a0_2 : Int) (a0_3 : Option Addr) (a0_3n : Nat) (a0_3c : Nat) (a1_4 : Int) (a1_5 : Int) (a1_6 : Option Addr) (a1_6n : Nat) (a1_6c : Nat) (a2 : Int) (a3 : Int) (a4 : Int) (a5 : Int) (h : Heap) (K : Value → Heap → Prop) (Kp : List PanicEntry → Heap → Prop) : Prop :=
newC h [.int .i64 a0_1, .int .i64 a0_2, .slice a0_3 a0_3n a0_3c] T_api_Bitmap fun r_7 h_8 =>
newC h_8 [.int .i64 a1_4, .int .i64 a1_5, .slice a1_6 a1_6n a1_6c] T_api_Bitmap fun r_9 h_10 =>
ldI h_10 ((⟨r_7, 0, none⟩ : Addr).add 0) .i64 fun x_11 =>
ldI h_10 ((⟨r_7, 0, none⟩ : Addr).add 1) .i64 fun x_12 =>
ldS h_10 ((⟨r_7, 0, none⟩ : Addr).add 2) fun x_13 x_13n x_13c =>
bindI (IntKind.i64.wrap (a4 - (1 : Int))) fun z_14 =>
bindI (IntKind.i64.wrap (a5 - (1 : Int))) fun z_15 =>
C F_burinref0_Get #[.agg #[.int .i64 x_11, .int .i64 x_12, .slice x_13 x_13n x_13c], .int .i64 z_14, .int .i64 z_15] h_10 (fun v_16 h_17 =>
∃ (r_18 : Int), v_16 = .int .i64 r_18 ∧ (
bindI (IntKind.i64.wrap ((2 : Int) * r_18)) fun z_19 =>
ldI h_17 ((⟨r_7, 0, none⟩ : Addr).add 0) .i64 fun x_20 =>
ldI h_17 ((⟨r_7, 0, none⟩ : Addr).add 1) .i64 fun x_21 =>
ldS h_17 ((⟨r_7, 0, none⟩ : Addr).add 2) fun x_22 x_22n x_22c =>
bindI (IntKind.i64.wrap (a5 - (1 : Int))) fun z_23 =>
C F_burinref0_Get #[.agg #[.int .i64 x_20, .int .i64 x_21, .slice x_22 x_22n x_22c], .int .i64 a4, .int .i64 z_23] h_17 (fun v_24 h_25 =>
∃ (r_26 : Int), v_24 = .int .i64 r_26 ∧ (
bindI (IntKind.i64.wrap (z_19 + r_26)) fun z_27 =>
bindI (IntKind.i64.wrap ((2 : Int) * z_27)) fun z_28 =>
ldI h_25 ((⟨r_7, 0, none⟩ : Addr).add 0) .i64 fun x_29 =>
ldI h_25 ((⟨r_7, 0, none⟩ : Addr).add 1) .i64 fun x_30 =>
ldS h_25 ((⟨r_7, 0, none⟩ : Addr).add 2) fun x_31 x_31n x_31c =>
bindI (IntKind.i64.wrap (a4 + (1 : Int))) fun z_32 =>
bindI (IntKind.i64.wrap (a5 - (1 : Int))) fun z_33 =>
C F_burinref0_Get #[.agg #[.int .i64 x_29, .int .i64 x_30, .slice x_31 x_31n x_31c], .int .i64 z_32, .int .i64 z_33] h_25 (fun v_34 h_35 =>
∃ (r_36 : Int), v_34 = .int .i64 r_36 ∧ (
bindI (IntKind.i64.wrap (z_28 + r_36)) fun z_37 =>
bindI (IntKind.i64.wrap ((2 : Int) * z_37)) fun z_38 =>
ldI h_35 ((⟨r_7, 0, none⟩ : Addr).add 0) .i64 fun x_39 =>
ldI h_35 ((⟨r_7, 0, none⟩ : Addr).add 1) .i64 fun x_40 =>
ldS h_35 ((⟨r_7, 0, none⟩ : Addr).add 2) fun x_41 x_41n x_41c =>
bindI (IntKind.i64.wrap (a4 - (1 : Int))) fun z_42 =>
C F_burinref0_Get #[.agg #[.int .i64 x_39, .int .i64 x_40, .slice x_41 x_41n x_41c], .int .i64 z_42, .int .i64 a5] h_35 (fun v_43 h_44 =>
∃ (r_45 : Int), v_43 = .int .i64 r_45 ∧ (
bindI (IntKind.i64.wrap (z_38 + r_45)) fun z_46 =>
∃ J_47 : Nat → List Value → Heap → Prop, (∃ n_49, J_47 n_49 [.int .i64 z_46, .int .i64 (-1)] h_44) ∧ ∀ (n_49 : Nat) (h_50 : Heap) (u_51 : Nat → Value) (x_52 : Int) (x_53 : Int), J_47 n_49 [.int .i64 x_52, .int .i64 x_53] h_50 → (
bcase (decide (x_53 ≤ (1 : Int))) (
∃ J_54 : Nat → List Value → Heap → Prop, (∃ n_56, J_54 n_56 [.int .i64 x_52, .int .i64 (-1)] h_50) ∧ ∀ (n_56 : Nat) (h_57 : Heap) (u_58 : Nat → Value) (x_59 : Int) (x_60 : Int), J_54 n_56 [.int .i64 x_59, .int .i64 x_60] h_57 → (
bcase (decide (x_60 ≤ (1 : Int))) (
bindI (IntKind.i64.wrap ((2 : Int) * x_59)) fun z_61 =>
ldI h_57 ((⟨r_9, 0, none⟩ : Addr).add 0) .i64 fun x_62 =>
ldI h_57 ((⟨r_9, 0, none⟩ : Addr).add 1) .i64 fun x_63 =>
ldS h_57 ((⟨r_9, 0, none⟩ : Addr).add 2) fun x_64 x_64n x_64c =>
bindI (IntKind.i64.wrap (a4 - a2)) fun z_65 =>
bindI (IntKind.i64.wrap (z_65 + x_60)) fun z_66 =>
bindI (IntKind.i64.wrap (a5 - a3)) fun z_67 =>
bindI (IntKind.i64.wrap (z_67 + x_53)) fun z_68 =>
C F_burinref0_Get #[.agg #[.int .i64 x_62, .int .i64 x_63, .slice x_64 x_64n x_64c], .int .i64 z_66, .int .i64 z_68] h_57 (fun v_69 h_70 =>
∃ (r_71 : Int), v_69 = .int .i64 r_71 ∧ (
bindI (IntKind.i64.wrap (z_61 + r_71)) fun z_72 =>
bindI (IntKind.i64.wrap (x_60 + (1 : Int))) fun z_73 =>
∃ m_55, m_55 < n_56 ∧ J_54 m_55 [.int .i64 z_72, .int .i64 z_73] h_70)) (Kp)) <|
bindI (IntKind.i64.wrap (x_53 + (1 : Int))) fun z_74 =>
∃ m_48, m_48 < n_49 ∧ J_47 m_48 [.int .i64 x_59, .int .i64 z_74] h_57)) <|
K (.int .i64 x_52) h_50))) (Kp))) (Kp))) (Kp))) (Kp)

end Go.Den.Ytcicfilkdhhnmaa

/- Written by gen.py: each condition of the functions of burinref8 is the one of its body; so it is enough for its call. -/
set_option linter.unusedVariables false
set_option linter.unusedSimpArgs false
namespace Go.Den.Ytcicfilkdhhnmaa
open Go Go.Den

noncomputable def hints_burinref8_Encode : Hints := Hints.mk (fun i => none)
  (fun i => none)
  (fun i => none) []
set_option maxRecDepth 100000 in
theorem eq_burinref8_Encode (C : CallP) (b_1 : Int) (b_2 : Int) (b_3 : Option Addr) (b_3n : Nat) (b_3c : Nat) (ref_4 : Int) (ref_5 : Int) (ref_6 : Option Addr) (ref_6n : Nat) (ref_6c : Nat) (dx : Int) (dy : Int) (h : Heap) (K : Value → Heap → Prop) (Kp : List PanicEntry → Heap → Prop) :
    fnD Go.Proofs.Try.prog C hints_burinref8_Encode Go.Proofs.Try.f28 [.agg #[.int .i64 b_1, .int .i64 b_2, .slice b_3 b_3n b_3c], .agg #[.int .i64 ref_4, .int .i64 ref_5, .slice ref_6 ref_6n ref_6c], .int .i64 dx, .int .i64 dy] h K Kp = burinref8_Encode C b_1 b_2 b_3 b_3n b_3c ref_4 ref_5 ref_6 ref_6n ref_6c dx dy h K Kp := by kernel_rfl

theorem call_burinref8_Encode {b_1 : Int} {b_2 : Int} {b_3 : Option Addr} {b_3n : Nat} {b_3c : Nat} {ref_4 : Int} {ref_5 : Int} {ref_6 : Option Addr} {ref_6n : Nat} {ref_6c : Nat} {dx : Int} {dy : Int} {h : Heap} {K : Value → Heap → Prop} {Kp : List PanicEntry → Heap → Prop} (H : burinref8_Encode (CallsHP Go.Proofs.Try.prog) b_1 b_2 b_3 b_3n b_3c ref_4 ref_5 ref_6 ref_6n ref_6c dx dy h K Kp) : CallsHP Go.Proofs.Try.prog F_burinref8_Encode #[.agg #[.int .i64 b_1, .int .i64 b_2, .slice b_3 b_3n b_3c], .agg #[.int .i64 ref_4, .int .i64 ref_5, .slice ref_6 ref_6n ref_6c], .int .i64 dx, .int .i64 dy] h K Kp :=
  callsHP_of hints_burinref8_Encode (by kernel_rfl) Go.Proofs.Try.func28 (by kernel_rfl) (by rw [eq_burinref8_Encode]; exact H)

noncomputable def hints_burinref8_Decode : Hints := Hints.mk (fun i => bif Nat.beq i 7 then some ([7, 10], .take 0 <| .take 2 <| .take 3 <| .take 5 <| .take 6 <| .take 4 <| .go 1 <| .bar 7 [10] <| .take 8 <| .take 9 <| .bar 10 [] <| .take 11 <| .done) else (none))
  (fun i => none)
  (fun i => none) []
set_option maxRecDepth 100000 in
theorem eq_burinref8_Decode (C : CallP) (f : Option Addr) (fn : Nat) (fc : Nat) (w : Int) (h' : Int) (ref_1 : Int) (ref_2 : Int) (ref_3 : Option Addr) (ref_3n : Nat) (ref_3c : Nat) (dx : Int) (dy : Int) (h : Heap) (K : Value → Heap → Prop) (Kp : List PanicEntry → Heap → Prop) :
    fnD Go.Proofs.Try.prog C hints_burinref8_Decode Go.Proofs.Try.f33 [.slice f fn fc, .int .i64 w, .int .i64 h', .agg #[.int .i64 ref_1, .int .i64 ref_2, .slice ref_3 ref_3n ref_3c], .int .i64 dx, .int .i64 dy] h K Kp = burinref8_Decode C f fn fc w h' ref_1 ref_2 ref_3 ref_3n ref_3c dx dy h K Kp := by kernel_rfl

theorem call_burinref8_Decode {f : Option Addr} {fn : Nat} {fc : Nat} {w : Int} {h' : Int} {ref_1 : Int} {ref_2 : Int} {ref_3 : Option Addr} {ref_3n : Nat} {ref_3c : Nat} {dx : Int} {dy : Int} {h : Heap} {K : Value → Heap → Prop} {Kp : List PanicEntry → Heap → Prop} (H : burinref8_Decode (CallsHP Go.Proofs.Try.prog) f fn fc w h' ref_1 ref_2 ref_3 ref_3n ref_3c dx dy h K Kp) : CallsHP Go.Proofs.Try.prog F_burinref8_Decode #[.slice f fn fc, .int .i64 w, .int .i64 h', .agg #[.int .i64 ref_1, .int .i64 ref_2, .slice ref_3 ref_3n ref_3c], .int .i64 dx, .int .i64 dy] h K Kp :=
  callsHP_of hints_burinref8_Decode (by kernel_rfl) Go.Proofs.Try.func33 (by kernel_rfl) (by rw [eq_burinref8_Decode]; exact H)

noncomputable def hints_burinref8_May : Hints := Hints.mk (fun i => none)
  (fun i => none)
  (fun i => none) []
set_option maxRecDepth 100000 in
theorem eq_burinref8_May (C : CallP) (dx : Int) (dy : Int) (h : Heap) (K : Value → Heap → Prop) (Kp : List PanicEntry → Heap → Prop) :
    fnD Go.Proofs.Try.prog C hints_burinref8_May Go.Proofs.Try.f43 [.int .i64 dx, .int .i64 dy] h K Kp = burinref8_May C dx dy h K Kp := by kernel_rfl

theorem call_burinref8_May {dx : Int} {dy : Int} {h : Heap} {K : Value → Heap → Prop} {Kp : List PanicEntry → Heap → Prop} (H : burinref8_May (CallsHP Go.Proofs.Try.prog) dx dy h K Kp) : CallsHP Go.Proofs.Try.prog F_burinref8_May #[.int .i64 dx, .int .i64 dy] h K Kp :=
  callsHP_of hints_burinref8_May (by kernel_rfl) Go.Proofs.Try.func43 (by kernel_rfl) (by rw [eq_burinref8_May]; exact H)

noncomputable def hints_burinref8_Put : Hints := Hints.mk (fun i => bif Nat.beq i 7 then some ([13, 14], .take 0 <| .take 1 <| .take 4 <| .take 5 <| .take 6 <| .take 7 <| .take 11 <| .take 12 <| .take 2 <| .take 3 <| .take 10 <| .go 8 <| .take 9 <| .bar 13 [14] <| .bar 14 [] <| .take 15 <| .done) else (none))
  (fun i => bif Nat.beq i 2 then some ([(13, .int .i64)], 70368744173568) else (bif Nat.beq i 5 then some ([(14, .int .i64)], 70368740036608) else (none)))
  (fun i => none) []
set_option maxRecDepth 100000 in
theorem eq_burinref8_Put (C : CallP) (c : Option Addr) (base : Int) (b_1 : Int) (b_2 : Int) (b_3 : Option Addr) (b_3n : Nat) (b_3c : Nat) (ref_4 : Int) (ref_5 : Int) (ref_6 : Option Addr) (ref_6n : Nat) (ref_6c : Nat) (dx : Int) (dy : Int) (h : Heap) (K : Value → Heap → Prop) (Kp : List PanicEntry → Heap → Prop) :
    fnD Go.Proofs.Try.prog C hints_burinref8_Put Go.Proofs.Try.f45 [.pointer c, .int .i64 base, .agg #[.int .i64 b_1, .int .i64 b_2, .slice b_3 b_3n b_3c], .agg #[.int .i64 ref_4, .int .i64 ref_5, .slice ref_6 ref_6n ref_6c], .int .i64 dx, .int .i64 dy] h K Kp = burinref8_Put C c base b_1 b_2 b_3 b_3n b_3c ref_4 ref_5 ref_6 ref_6n ref_6c dx dy h K Kp := by kernel_rfl

theorem call_burinref8_Put {c : Option Addr} {base : Int} {b_1 : Int} {b_2 : Int} {b_3 : Option Addr} {b_3n : Nat} {b_3c : Nat} {ref_4 : Int} {ref_5 : Int} {ref_6 : Option Addr} {ref_6n : Nat} {ref_6c : Nat} {dx : Int} {dy : Int} {h : Heap} {K : Value → Heap → Prop} {Kp : List PanicEntry → Heap → Prop} (H : burinref8_Put (CallsHP Go.Proofs.Try.prog) c base b_1 b_2 b_3 b_3n b_3c ref_4 ref_5 ref_6 ref_6n ref_6c dx dy h K Kp) : CallsHP Go.Proofs.Try.prog F_burinref8_Put #[.pointer c, .int .i64 base, .agg #[.int .i64 b_1, .int .i64 b_2, .slice b_3 b_3n b_3c], .agg #[.int .i64 ref_4, .int .i64 ref_5, .slice ref_6 ref_6n ref_6c], .int .i64 dx, .int .i64 dy] h K Kp :=
  callsHP_of hints_burinref8_Put (by kernel_rfl) Go.Proofs.Try.func45 (by kernel_rfl) (by rw [eq_burinref8_Put]; exact H)

noncomputable def hints_burinref8_Get : Hints := Hints.mk (fun i => none)
  (fun i => bif Nat.beq i 3 then some ([(17, .int .i64)], 144115188061077504) else (bif Nat.beq i 6 then some ([(18, .int .i64)], 144115187540852736) else (none)))
  (fun i => none) []
set_option maxRecDepth 100000 in
theorem eq_burinref8_Get (C : CallP) (d : Option Addr) (base : Int) (w : Int) (h' : Int) (ref_1 : Int) (ref_2 : Int) (ref_3 : Option Addr) (ref_3n : Nat) (ref_3c : Nat) (dx : Int) (dy : Int) (h : Heap) (K : Value → Heap → Prop) (Kp : List PanicEntry → Heap → Prop) :
    fnD Go.Proofs.Try.prog C hints_burinref8_Get Go.Proofs.Try.f62 [.pointer d, .int .i64 base, .int .i64 w, .int .i64 h', .agg #[.int .i64 ref_1, .int .i64 ref_2, .slice ref_3 ref_3n ref_3c], .int .i64 dx, .int .i64 dy] h K Kp = burinref8_Get C d base w h' ref_1 ref_2 ref_3 ref_3n ref_3c dx dy h K Kp := by kernel_rfl

theorem call_burinref8_Get {d : Option Addr} {base : Int} {w : Int} {h' : Int} {ref_1 : Int} {ref_2 : Int} {ref_3 : Option Addr} {ref_3n : Nat} {ref_3c : Nat} {dx : Int} {dy : Int} {h : Heap} {K : Value → Heap → Prop} {Kp : List PanicEntry → Heap → Prop} (H : burinref8_Get (CallsHP Go.Proofs.Try.prog) d base w h' ref_1 ref_2 ref_3 ref_3n ref_3c dx dy h K Kp) : CallsHP Go.Proofs.Try.prog F_burinref8_Get #[.pointer d, .int .i64 base, .int .i64 w, .int .i64 h', .agg #[.int .i64 ref_1, .int .i64 ref_2, .slice ref_3 ref_3n ref_3c], .int .i64 dx, .int .i64 dy] h K Kp :=
  callsHP_of hints_burinref8_Get (by kernel_rfl) Go.Proofs.Try.func62 (by kernel_rfl) (by rw [eq_burinref8_Get]; exact H)

noncomputable def hints_burinref8_At : Hints := Hints.mk (fun i => none)
  (fun i => bif Nat.beq i 6 then some ([(13, .int .i64), (14, .int .i64)], 1180591479979923005440) else (bif Nat.beq i 9 then some ([(13, .int .i64), (15, .int .i64)], 1180589368917597659136) else (none)))
  (fun i => none) []
set_option maxRecDepth 100000 in
theorem eq_burinref8_At (C : CallP) (a0_1 : Int) (a0_2 : Int) (a0_3 : Option Addr) (a0_3n : Nat) (a0_3c : Nat) (a1_4 : Int) (a1_5 : Int) (a1_6 : Option Addr) (a1_6n : Nat) (a1_6c : Nat) (a2 : Int) (a3 : Int) (a4 : Int) (a5 : Int) (h : Heap) (K : Value → Heap → Prop) (Kp : List PanicEntry → Heap → Prop) :
    fnD Go.Proofs.Try.prog C hints_burinref8_At Go.Proofs.Try.f84 [.agg #[.int .i64 a0_1, .int .i64 a0_2, .slice a0_3 a0_3n a0_3c], .agg #[.int .i64 a1_4, .int .i64 a1_5, .slice a1_6 a1_6n a1_6c], .int .i64 a2, .int .i64 a3, .int .i64 a4, .int .i64 a5] h K Kp = burinref8_At C a0_1 a0_2 a0_3 a0_3n a0_3c a1_4 a1_5 a1_6 a1_6n a1_6c a2 a3 a4 a5 h K Kp := by kernel_rfl

theorem call_burinref8_At {a0_1 : Int} {a0_2 : Int} {a0_3 : Option Addr} {a0_3n : Nat} {a0_3c : Nat} {a1_4 : Int} {a1_5 : Int} {a1_6 : Option Addr} {a1_6n : Nat} {a1_6c : Nat} {a2 : Int} {a3 : Int} {a4 : Int} {a5 : Int} {h : Heap} {K : Value → Heap → Prop} {Kp : List PanicEntry → Heap → Prop} (H : burinref8_At (CallsHP Go.Proofs.Try.prog) a0_1 a0_2 a0_3 a0_3n a0_3c a1_4 a1_5 a1_6 a1_6n a1_6c a2 a3 a4 a5 h K Kp) : CallsHP Go.Proofs.Try.prog F_burinref8_At #[.agg #[.int .i64 a0_1, .int .i64 a0_2, .slice a0_3 a0_3n a0_3c], .agg #[.int .i64 a1_4, .int .i64 a1_5, .slice a1_6 a1_6n a1_6c], .int .i64 a2, .int .i64 a3, .int .i64 a4, .int .i64 a5] h K Kp :=
  callsHP_of hints_burinref8_At (by kernel_rfl) Go.Proofs.Try.func84 (by kernel_rfl) (by rw [eq_burinref8_At]; exact H)

end Go.Den.Ytcicfilkdhhnmaa

/- RfF: the document's side of refinement: the context of a pixel; a bitmap's decisions, coded. -/
set_option linter.unusedVariables false
set_option linter.unusedSimpArgs false
namespace Go.Bm
open Go Go.Den Go.Den.Ytcicfilkdhhnmaa
open Go.Ar (Cod CodOk refL RP putM idx putM_ok)

def partL (B R : Int → Int → Bool) (dx dy x y : Int) (d e : Nat) : List Bool := ownB B x y ++ rowsN R dx dy x y d ++ (rowB3 R dx x (y + ((d : Int) - 1) - dy)).take e
theorem partL_lt (B R : Int → Int → Bool) (dx dy x y : Int) {d e : Nat} (hd : 3 * d + e ≤ 9) : bitsN 0 (partL B R dx dy x y d e) < 8192 := by
  have := bitsN_lt (partL B R dx dy x y d e) 0 0 (by decide)
  have hl : (partL B R dx dy x y d e).length ≤ 4 + 3 * d + e := by
    unfold partL
    rw [List.length_append, List.length_append, rowsN_len, List.length_take]
    have : (ownB B x y).length = 4 := rfl
    omega
  exact Nat.lt_of_lt_of_le this (Nat.pow_le_pow_right (n := 2) (by decide) (show 0 + (partL B R dx dy x y d e).length ≤ 13 by omega))
theorem take3 (R : Int → Int → Bool) (dx x Y : Int) : ∀ e, e < 3 → (rowB3 R dx x Y).take (e + 1) = (rowB3 R dx x Y).take e ++ [R (x - dx + ((e : Int) - 1)) Y]
  | 0, _ => by rw [show x - dx + (((0 : Nat) : Int) - 1) = x - 1 - dx by omega]; rfl
  | 1, _ => by rw [show x - dx + (((1 : Nat) : Int) - 1) = x - dx by omega]; rfl
  | 2, _ => by rw [show x - dx + (((2 : Nat) : Int) - 1) = x + 1 - dx by omega]; rfl
theorem partL_succ (B R : Int → Int → Bool) (dx dy x y : Int) {d e : Nat} (he : e < 3) : bitsN 0 (partL B R dx dy x y d (e + 1)) = 2 * bitsN 0 (partL B R dx dy x y d e) + (R (x - dx + ((e : Int) - 1)) (y + ((d : Int) - 1) - dy)).toNat := by
  unfold partL
  rw [take3 _ _ _ _ e he, ← List.append_assoc, bitsN_app _ [_]]
  rfl
theorem partL_row (B R : Int → Int → Bool) (dx dy x y : Int) (d : Nat) : partL B R dx dy x y d 3 = partL B R dx dy x y (d + 1) 0 := by
  unfold partL
  rw [List.take_zero, List.append_nil, rowsN, List.append_assoc]
  rfl

set_option maxRecDepth 100000 in
set_option maxHeartbeats 1000000 in
theorem at_ok {hB : Heap} {W X W2 X2 : Nat} {q1 q2 : Option Addr} {c1 c2 : Nat} {ws ws2 : List Nat} (hr1 : rdO hB q1 (ws.length * 1) (u64s ws)) (hr2 : rdO hB q2 (ws2.length * 1) (u64s ws2)) (hw : W64 ws) (hw2 : W64 ws2)
    (hs : SizeP (W : Int) (X : Int)) (hl : ws.length = X * wds W) (hs2 : SizeP (W2 : Int) (X2 : Int)) (hl2 : ws2.length = X2 * wds W2) {dx dy : Int} (hdx : -1048576 ≤ dx ∧ dx ≤ 1048576) (hdy : -1048576 ≤ dy ∧ dy ≤ 1048576) {x y : Nat} (hx : x < 1048577) (hy : y < 1048577)
    {K : Value → Heap → Prop} {Kp : List PanicEntry → Heap → Prop} (hk : ∀ h, hext hB h → K (.int .i64 ((ctxN (getP ws W X) (getP ws2 W2 X2) dx dy x y : Nat) : Int)) h) :
    CP F_burinref8_At #[.agg #[.int .i64 (W : Nat), .int .i64 (X : Nat), .slice q1 ws.length c1], .agg #[.int .i64 (W2 : Nat), .int .i64 (X2 : Nat), .slice q2 ws2.length c2], .int .i64 dx, .int .i64 dy, .int .i64 (x : Nat), .int .i64 (y : Nat)] hB K Kp := by
  refine call_burinref8_At ?_
  unfold burinref8_At
  have H := Hp.nil hB []
  refine newC_hp H fun r7 h H => ?_
  refine newC_hp H fun r9 h H => ?_
  have g1 : ∀ {h : Heap}, Hp hB [] h [⟨r7, true, T_api_Bitmap, [.int .i64 (W : Nat), .int .i64 (X : Nat), .slice q1 ws.length c1]⟩, ⟨r9, true, T_api_Bitmap, [.int .i64 (W2 : Nat), .int .i64 (X2 : Nat), .slice q2 ws2.length c2]⟩] → ∀ (a b : Int) (K : Value → Heap → Prop) (Kp : List PanicEntry → Heap → Prop),
      (∀ h, Hp hB [] h [⟨r7, true, T_api_Bitmap, [.int .i64 (W : Nat), .int .i64 (X : Nat), .slice q1 ws.length c1]⟩, ⟨r9, true, T_api_Bitmap, [.int .i64 (W2 : Nat), .int .i64 (X2 : Nat), .slice q2 ws2.length c2]⟩] → K (.int .i64 ((getP ws W X a b).toNat : Nat)) h) →
      CP F_burinref0_Get #[.agg #[.int .i64 (W : Nat), .int .i64 (X : Nat), .slice q1 ws.length c1], .int .i64 a, .int .i64 b] h K Kp := fun H a b K Kp hk => get_ok (H.rdO hr1) hw hs hl fun h' e => hk h' (H.ext e)
  have g2 : ∀ {h : Heap}, Hp hB [] h [⟨r7, true, T_api_Bitmap, [.int .i64 (W : Nat), .int .i64 (X : Nat), .slice q1 ws.length c1]⟩, ⟨r9, true, T_api_Bitmap, [.int .i64 (W2 : Nat), .int .i64 (X2 : Nat), .slice q2 ws2.length c2]⟩] → ∀ (a b : Int) (K : Value → Heap → Prop) (Kp : List PanicEntry → Heap → Prop),
      (∀ h, Hp hB [] h [⟨r7, true, T_api_Bitmap, [.int .i64 (W : Nat), .int .i64 (X : Nat), .slice q1 ws.length c1]⟩, ⟨r9, true, T_api_Bitmap, [.int .i64 (W2 : Nat), .int .i64 (X2 : Nat), .slice q2 ws2.length c2]⟩] → K (.int .i64 ((getP ws2 W2 X2 a b).toNat : Nat)) h) →
      CP F_burinref0_Get #[.agg #[.int .i64 (W2 : Nat), .int .i64 (X2 : Nat), .slice q2 ws2.length c2], .int .i64 a, .int .i64 b] h K Kp := fun H a b K Kp hk => get_ok (H.rdO hr2) hw2 hs2 hl2 fun h' e => hk h' (H.ext e)
  have H : Hp hB [] h [⟨r7, true, T_api_Bitmap, [.int .i64 (W : Nat), .int .i64 (X : Nat), .slice q1 ws.length c1]⟩, ⟨r9, true, T_api_Bitmap, [.int .i64 (W2 : Nat), .int .i64 (X2 : Nat), .slice q2 ws2.length c2]⟩] := H
  generalize getP ws W X = GG at g1 hk
  generalize getP ws2 W2 X2 = RR at g2 hk
  have t1 := toNat_le (GG ((x : Int) - 1) ((y : Int) + -1))
  have t2 := toNat_le (GG (x : Int) ((y : Int) + -1))
  have t3 := toNat_le (GG ((x : Int) + 1) ((y : Int) + -1))
  have t4 := toNat_le (GG ((x : Int) - 1) (y : Int))
  refine ldI_of (Hp.cellA H 0 rfl (i := 0) rfl) ?_
  refine ldI_of (Hp.cellA H 0 rfl (i := 1) rfl) ?_
  refine ldS_of (Hp.cellA H 0 rfl (i := 2) rfl) ?_
  refine bindI_of (((x : Int) - 1)) (by exact i64_in _ (by omega) (by omega)) ?_
  refine bindI_of (((y : Int) + -1)) (by exact i64_at _ _ (by omega) (by omega) (by omega)) ?_
  refine g1 H _ _ _ _ fun h H => ?_
  refine ⟨_, rfl, ?_⟩
  refine bindI_of (((2 * (GG ((x : Int) - 1) ((y : Int) + -1)).toNat : Nat) : Int)) (by exact i64_at _ _ (by omega) (by omega) (by omega)) ?_
  refine ldI_of (Hp.cellA H 0 rfl (i := 0) rfl) ?_
  refine ldI_of (Hp.cellA H 0 rfl (i := 1) rfl) ?_
  refine ldS_of (Hp.cellA H 0 rfl (i := 2) rfl) ?_
  refine bindI_of (((y : Int) + -1)) (by exact i64_at _ _ (by omega) (by omega) (by omega)) ?_
  refine g1 H _ _ _ _ fun h H => ?_
  refine ⟨_, rfl, ?_⟩
  refine bindI_of (((2 * (GG ((x : Int) - 1) ((y : Int) + -1)).toNat + (GG (x : Int) ((y : Int) + -1)).toNat : Nat) : Int)) (by exact i64_at _ _ (by omega) (by omega) (by omega)) ?_
  refine bindI_of (((2 * (2 * (GG ((x : Int) - 1) ((y : Int) + -1)).toNat + (GG (x : Int) ((y : Int) + -1)).toNat) : Nat) : Int)) (by exact i64_at _ _ (by omega) (by omega) (by omega)) ?_
  refine ldI_of (Hp.cellA H 0 rfl (i := 0) rfl) ?_
  refine ldI_of (Hp.cellA H 0 rfl (i := 1) rfl) ?_
  refine ldS_of (Hp.cellA H 0 rfl (i := 2) rfl) ?_
  refine bindI_of (((x : Int) + 1)) (by exact i64_in _ (by omega) (by omega)) ?_
  refine bindI_of (((y : Int) + -1)) (by exact i64_at _ _ (by omega) (by omega) (by omega)) ?_
  refine g1 H _ _ _ _ fun h H => ?_
  refine ⟨_, rfl, ?_⟩
  refine bindI_of (((2 * (2 * (GG ((x : Int) - 1) ((y : Int) + -1)).toNat + (GG (x : Int) ((y : Int) + -1)).toNat) + (GG ((x : Int) + 1) ((y : Int) + -1)).toNat : Nat) : Int)) (by exact i64_at _ _ (by omega) (by omega) (by omega)) ?_
  refine bindI_of (((2 * (2 * (2 * (GG ((x : Int) - 1) ((y : Int) + -1)).toNat + (GG (x : Int) ((y : Int) + -1)).toNat) + (GG ((x : Int) + 1) ((y : Int) + -1)).toNat) : Nat) : Int)) (by exact i64_at _ _ (by omega) (by omega) (by omega)) ?_
  refine ldI_of (Hp.cellA H 0 rfl (i := 0) rfl) ?_
  refine ldI_of (Hp.cellA H 0 rfl (i := 1) rfl) ?_
  refine ldS_of (Hp.cellA H 0 rfl (i := 2) rfl) ?_
  refine bindI_of (((x : Int) - 1)) (by exact i64_in _ (by omega) (by omega)) ?_
  refine g1 H _ _ _ _ fun h H => ?_
  refine ⟨_, rfl, ?_⟩
  have e0 : bitsN 0 (partL GG RR dx dy x y 0 0) = 2 * (2 * (2 * (GG ((x : Int) - 1) ((y : Int) + -1)).toNat + (GG (x : Int) ((y : Int) + -1)).toNat) + (GG ((x : Int) + 1) ((y : Int) + -1)).toNat) + (GG ((x : Int) - 1) (y : Int)).toNat := by
    simp only [partL, rowsN, ownB, List.take_zero, List.append_nil, bitsN, Int.add_zero]
    omega
  refine bindI_of (((bitsN 0 (partL GG RR dx dy x y 0 0) : Nat) : Int)) (by exact i64_at _ _ (by rw [e0]; omega) (by omega) (by omega)) ?_
  refine ⟨fun n vs h' => ∃ d : Nat, d + n = 3 ∧ vs = [.int .i64 ((bitsN 0 (partL GG RR dx dy x y d 0) : Nat) : Int), .int .i64 ((d : Int) - 1)] ∧ Hp hB [] h' [⟨r7, true, T_api_Bitmap, [.int .i64 (W : Nat), .int .i64 (X : Nat), .slice q1 ws.length c1]⟩, ⟨r9, true, T_api_Bitmap, [.int .i64 (W2 : Nat), .int .i64 (X2 : Nat), .slice q2 ws2.length c2]⟩], ⟨3, 0, rfl, rfl, H⟩, ?_⟩
  clear H
  rintro k h u n1 n2 ⟨d, hdk, hvs, H⟩
  injection hvs with hv1 hv2
  injection hv1 with _ hv1
  injection hv2 with hv2
  injection hv2 with _ hv2
  subst hv1 hv2
  refine bcase_dec (fun h3 => ?_) fun h3 => ?_
  · refine ⟨fun n vs h' => ∃ e : Nat, e + n = 3 ∧ vs = [.int .i64 ((bitsN 0 (partL GG RR dx dy x y d e) : Nat) : Int), .int .i64 ((e : Int) - 1)] ∧ Hp hB [] h' [⟨r7, true, T_api_Bitmap, [.int .i64 (W : Nat), .int .i64 (X : Nat), .slice q1 ws.length c1]⟩, ⟨r9, true, T_api_Bitmap, [.int .i64 (W2 : Nat), .int .i64 (X2 : Nat), .slice q2 ws2.length c2]⟩], ⟨3, 0, rfl, rfl, H⟩, ?_⟩
    clear H
    rintro k' h u n1 n2 ⟨e, hek, hvs, H⟩
    injection hvs with hv1 hv2
    injection hv1 with _ hv1
    injection hv2 with hv2
    injection hv2 with _ hv2
    subst hv1 hv2
    refine bcase_dec (fun h4 => ?_) fun h4 => ?_
    · have hb := partL_lt GG RR dx dy x y (d := d) (e := e) (by omega)
      have hb2 := toNat_le (RR ((x : Int) - dx + ((e : Int) - 1)) ((y : Int) + ((d : Int) - 1) - dy))
      have hsucc := partL_succ GG RR dx dy x y (d := d) (e := e) (by omega)
      refine bindI_of (((2 * bitsN 0 (partL GG RR dx dy x y d e) : Nat) : Int)) (by exact i64_at _ _ (by omega) (by omega) (by omega)) ?_
      refine ldI_of (Hp.cellA H 1 rfl (i := 0) rfl) ?_
      refine ldI_of (Hp.cellA H 1 rfl (i := 1) rfl) ?_
      refine ldS_of (Hp.cellA H 1 rfl (i := 2) rfl) ?_
      refine bindI_of (((x : Int) - dx)) (by exact i64_in _ (by omega) (by omega)) ?_
      refine bindI_of (((x : Int) - dx + ((e : Int) - 1))) (by exact i64_in _ (by omega) (by omega)) ?_
      refine bindI_of (((y : Int) - dy)) (by exact i64_in _ (by omega) (by omega)) ?_
      refine bindI_of (((y : Int) + ((d : Int) - 1) - dy)) (by exact i64_at _ _ (by omega) (by omega) (by omega)) ?_
      refine g2 H _ _ _ _ fun h H => ?_
      refine ⟨_, rfl, ?_⟩
      refine bindI_of (((bitsN 0 (partL GG RR dx dy x y d (e + 1)) : Nat) : Int)) (by exact i64_at _ _ (by rw [hsucc]; omega) (by omega) (by omega)) ?_
      refine bindI_of ((((e + 1 : Nat) : Int) - 1)) (by exact i64_at _ _ (by omega) (by omega) (by omega)) ?_
      exact ⟨k' - 1, by omega, e + 1, by omega, rfl, H⟩
    · obtain rfl : e = 3 := by omega
      refine bindI_of ((((d + 1 : Nat) : Int) - 1)) (by exact i64_at _ _ (by omega) (by omega) (by omega)) ?_
      exact ⟨k - 1, by omega, d + 1, by omega, by rw [partL_row], H⟩
  · obtain rfl : d = 3 := by omega
    have e3 : bitsN 0 (partL GG RR dx dy x y 3 0) = ctxN GG RR dx dy x y := by unfold partL ctxN; rw [List.take_zero, List.append_nil]
    rw [e3]
    exact hk _ H.hext

theorem may8_ok {h : Heap} {dx dy : Int} {K : Value → Heap → Prop} {Kp : List PanicEntry → Heap → Prop} (hk : ∀ b : Bool, (b = true ↔ ShiftP dx dy) → K (.bool b) h) : CP F_burinref8_May #[.int .i64 dx, .int .i64 dy] h K Kp := by
  refine call_burinref8_May ?_
  unfold burinref8_May
  refine bcase_dec (fun h1 => ?_) fun h1 => hk false (by simp [ShiftP]; omega)
  refine bcase_dec (fun h2 => ?_) fun h2 => hk false (by simp [ShiftP]; omega)
  refine bcase_dec (fun h3 => ?_) fun h3 => hk false (by simp [ShiftP]; omega)
  exact hk _ (by simp [ShiftP]; omega)
end Go.Bm

/- RfG: burinref8.Put. -/
set_option linter.unusedVariables false
set_option linter.unusedSimpArgs false
namespace Go.Bm
open Go Go.Den Go.Den.Ytcicfilkdhhnmaa
open Go.Ar (Cod CodOk refL RP putM idx putM_ok)

theorem upd_self (G : Int → Int → Bool) (a b : Int) : upd G a b (G a b) = G := by
  funext x y
  unfold upd
  by_cases h : x = a ∧ y = b
  · rw [if_pos h, h.1, h.2]
  · rw [if_neg h]

set_option maxRecDepth 100000 in
set_option maxHeartbeats 1000000 in
theorem rrPut_ok {h0 h : Heap} {A : RP} {r m n0 : Nat} {s0 : Cod} {rest : List Value} {Y : List Ent} (H : Hp h0 [] h (refL A r s0 rest ++ Y)) (hc : CodOk m n0 s0) (hm1 : 1 ≤ m) (hm2 : m ≤ 131072) {base : Int} (hbase : 0 ≤ base ∧ base ≤ 131072)
    {W X W2 X2 : Nat} {q1 q2 : Option Addr} {c1 c2 : Nat} {ws ws2 : List Nat} (hr1 : rdO h0 q1 (ws.length * 1) (u64s ws)) (hw : W64 ws) (hr2 : rdO h0 q2 (ws2.length * 1) (u64s ws2)) (hw2 : W64 ws2) (hma : MayP (W : Int) (X : Int) ws) (hmb : MayP (W2 : Int) (X2 : Int) ws2)
    {dx dy : Int} (hsh : ShiftP dx dy) (hN : n0 + X * W ≤ 16777216) {K : Value → Heap → Prop} {Kp : List PanicEntry → Heap → Prop}
    (hk : ∀ s' r' rest' h', runN W (getP ws2 W2 X2) dx dy (stepP m base) (X * W) (getP ws W X, s0) = .inl (getP ws W X, s') → CodOk m (n0 + X * W) s' → Hp h0 [] h' (refL A r' s' rest' ++ Y) → K (.int .i64 0) h') :
    CP F_burinref8_Put #[.pointer (at0 A.p), .int .i64 base, .agg #[.int .i64 (W : Nat), .int .i64 (X : Nat), .slice q1 ws.length c1], .agg #[.int .i64 (W2 : Nat), .int .i64 (X2 : Nat), .slice q2 ws2.length c2], .int .i64 dx, .int .i64 dy] h K Kp := by
  refine call_burinref8_Put ?_
  unfold burinref8_Put
  obtain ⟨W', X', e1, e2, hW1, hW2, hX1, hX2, hWX⟩ := size_nat hma.1
  obtain rfl : W = W' := by omega
  obtain rfl : X = X' := by omega
  clear e1 e2
  refine newC_hp H fun r7 h H => ?_
  have H := H.rot
  refine newC_hp H fun r9 h H => ?_
  have H := H.rot
  have H : Hp h0 [] h ([⟨r9, true, T_api_Bitmap, [.int .i64 (W2 : Nat), .int .i64 (X2 : Nat), .slice q2 ws2.length c2]⟩, ⟨r7, true, T_api_Bitmap, [.int .i64 (W : Nat), .int .i64 (X : Nat), .slice q1 ws.length c1]⟩] ++ (refL A r s0 rest ++ Y)) := H
  refine ⟨fun n vs h' => ∃ (y : Nat) (s : Cod) (r' : Nat) (rest' : List Value), y + n = X ∧ vs = [.int .i64 (y : Int)] ∧ runN W (getP ws2 W2 X2) dx dy (stepP m base) (y * W) (getP ws W X, s0) = .inl (getP ws W X, s) ∧ CodOk m (n0 + y * W) s ∧
    Hp h0 [] h' ([⟨r9, true, T_api_Bitmap, [.int .i64 (W2 : Nat), .int .i64 (X2 : Nat), .slice q2 ws2.length c2]⟩, ⟨r7, true, T_api_Bitmap, [.int .i64 (W : Nat), .int .i64 (X : Nat), .slice q1 ws.length c1]⟩] ++ (refL A r' s rest' ++ Y)), ⟨X, 0, s0, r, rest, by omega, rfl, by rw [Nat.zero_mul]; rfl, by rw [Nat.zero_mul]; exact hc, H⟩, ?_⟩
  clear H
  rintro n h u xx ⟨y, s, r', rest', hyn, hxx, hrun, hok, H⟩
  injection hxx with hxx
  injection hxx with _ hxx
  subst hxx
  refine ldI_of (Hp.cellA H 1 rfl (i := 1) rfl) ?_
  refine bcase_dec (fun h1 => ?_) fun h1 => ?_
  · have h1 : y < X := by omega
    refine ⟨fun n vs h' => ∃ (x : Nat) (s : Cod) (r' : Nat) (rest' : List Value), x + n = W ∧ vs = [.int .i64 (x : Int)] ∧ runN W (getP ws2 W2 X2) dx dy (stepP m base) (y * W + x) (getP ws W X, s0) = .inl (getP ws W X, s) ∧ CodOk m (n0 + (y * W + x)) s ∧
      Hp h0 [] h' ([⟨r9, true, T_api_Bitmap, [.int .i64 (W2 : Nat), .int .i64 (X2 : Nat), .slice q2 ws2.length c2]⟩, ⟨r7, true, T_api_Bitmap, [.int .i64 (W : Nat), .int .i64 (X : Nat), .slice q1 ws.length c1]⟩] ++ (refL A r' s rest' ++ Y)), ⟨W, 0, s, r', rest', by omega, rfl, hrun, hok, H⟩, ?_⟩
    clear H hrun hok
    rintro k h u xx ⟨x, s, r', rest', hxn, hxx, hrun, hok, H⟩
    injection hxx with hxx
    injection hxx with _ hxx
    subst hxx
    refine ldI_of (Hp.cellA H 1 rfl (i := 0) rfl) ?_
    refine bcase_dec (fun h2 => ?_) fun h2 => ?_
    · have h2 : x < W := by omega
      have hlt : y * W + x + 1 ≤ X * W := by
        have : (y + 1) * W ≤ X * W := Nat.mul_le_mul_right _ h1
        rw [Nat.add_mul, Nat.one_mul] at this
        omega
      refine ldI_of (Hp.cellA H 1 rfl (i := 0) rfl) ?_
      refine ldI_of (Hp.cellA H 1 rfl (i := 1) rfl) ?_
      refine ldS_of (Hp.cellA H 1 rfl (i := 2) rfl) ?_
      refine ldI_of (Hp.cellA H 0 rfl (i := 0) rfl) ?_
      refine ldI_of (Hp.cellA H 0 rfl (i := 1) rfl) ?_
      refine ldS_of (Hp.cellA H 0 rfl (i := 2) rfl) ?_
      refine ldI_of (Hp.cellA H 1 rfl (i := 0) rfl) ?_
      refine ldI_of (Hp.cellA H 1 rfl (i := 1) rfl) ?_
      refine ldS_of (Hp.cellA H 1 rfl (i := 2) rfl) ?_
      refine at_ok (H.rdO hr1) (H.rdO hr2) hw hw2 hma.1 (may_len hma) hmb.1 (may_len hmb) hsh.1 hsh.2 (by omega) (by omega) fun h3 e3 => ?_
      have H := H.ext e3
      refine ⟨_, rfl, e3, ?_⟩
      have hcl := ctxN_lt (getP ws W X) (getP ws2 W2 X2) dx dy x y
      have hnx := runN_next (R := getP ws2 W2 X2) (dx := dx) (dy := dy) (step := stepP m base) h2 hrun
      simp only [stepP, upd_self] at hnx
      generalize ctxN (getP ws W X) (getP ws2 W2 X2) dx dy x y = cx at hcl hnx ⊢
      refine bindI_of ((base + (cx : Int))) (by exact i64_in _ (by omega) (by omega)) ?_
      refine get_ok (H.rdO hr1) hw hma.1 (may_len hma) fun h4 e4 => ?_
      have H := H.ext e4
      refine ⟨_, rfl, ?_⟩
      have hsp := H
      refine Go.Ar.rput_ok (bit := (getP ws W X (x : Int) (y : Int)).toNat) (H.give [2, 3, 4, 5, 6] (by decide) rfl) hok.wf hok.done (by rw [hok.n]; omega) (by rw [hok.len]; exact hm1) (by rw [hok.len]; exact hm2) (toNat_le _) fun r3 rest3 h5 H' => ?_
      replace H := H.put [2, 3, 4, 5, 6] (by decide) rfl rfl H' rfl rfl
      clear H'
      refine ⟨_, rfl, ?_⟩
      refine bcase_false (by rfl) ?_
      refine bindI_of (((x + 1 : Nat) : Int)) (by exact i64_at _ _ (by omega) (by omega) (by omega)) ?_
      rw [hok.len] at H
      exact ⟨k - 1, by omega, x + 1, _, r3, rest3, by omega, rfl, hnx, putM_ok hok _ _ (by omega), H⟩
    · obtain rfl : W = x := by omega
      refine bindI_of (((y + 1 : Nat) : Int)) (by exact i64_at _ _ (by omega) (by omega) (by omega)) ?_
      exact ⟨n - 1, by omega, y + 1, s, r', rest', by omega, rfl, by rw [Nat.add_mul, Nat.one_mul]; exact hrun, by rw [Nat.add_mul, Nat.one_mul]; exact hok, H⟩
  · obtain rfl : X = y := by omega
    exact hk s r' rest' h hrun hok (Hp.suf (X := [_, _]) H)
end Go.Bm

/- RfH: refine.Encode and burinref8.Encode answer alike. -/
set_option linter.unusedVariables false
set_option linter.unusedSimpArgs false
namespace Go.Bm
open Go Go.Den Go.Den.Ytcicfilkdhhnmaa
open Go.Ar (Cod CodOk codL refL RP putM idx putM_ok newC newC_ok flushM bytesM)

/-- What Encode answers. -/
def EncR (w b w2 b2 : Int) (ws ws2 : List Nat) (dx dy : Int) (e : Int) (bs : List Nat) : Prop :=
  ¬ (MayP w b ws ∧ MayP w2 b2 ws2) ∧ e = 62 ∧ bs = [] ∨
  (MayP w b ws ∧ MayP w2 b2 ws2) ∧ ¬ ShiftP dx dy ∧ e = 70 ∧ bs = [] ∨
  (MayP w b ws ∧ MayP w2 b2 ws2) ∧ ShiftP dx dy ∧ e = 0 ∧ ∃ G s', runN w.toNat (getP ws2 w2.toNat b2.toNat) dx dy (stepP 8192 0) (b.toNat * w.toNat) (getP ws w.toNat b.toNat, newC 8192) = .inl (G, s') ∧ CodOk 8192 (b.toNat * w.toNat) s' ∧ bs = bytesM (flushM s')
theorem EncR.det {w b w2 b2 : Int} {ws ws2 : List Nat} {dx dy e1 e2 : Int} {bs1 bs2 : List Nat} (h1 : EncR w b w2 b2 ws ws2 dx dy e1 bs1) (h2 : EncR w b w2 b2 ws ws2 dx dy e2 bs2) : e1 = e2 ∧ bs1 = bs2 := by
  rcases h1 with ⟨a, b, c⟩ | ⟨a, s, b, c⟩ | ⟨a, s, b, G, s1, r, _, c⟩ <;> rcases h2 with ⟨a', b', c'⟩ | ⟨a', s', b', c'⟩ | ⟨a', s', b', G', s1', r', _, c'⟩
  · exact ⟨b.trans b'.symm, c.trans c'.symm⟩
  · exact absurd a' a
  · exact absurd a' a
  · exact absurd a a'
  · exact ⟨b.trans b'.symm, c.trans c'.symm⟩
  · exact absurd s' s
  · exact absurd a a'
  · exact absurd s s'
  · refine ⟨b.trans b'.symm, ?_⟩
    rw [r] at r'
    injection r' with r'
    injection r' with _ r'
    rw [c, c', r']
theorem may_px {w b : Int} {ws : List Nat} (h : MayP w b ws) : 0 + b.toNat * w.toNat ≤ 16777216 := by
  obtain ⟨W, X, rfl, rfl, hW1, hW2, hX1, hX2, hWX⟩ := size_nat h.1
  simp only [Int.toNat_natCast]
  rw [Nat.mul_comm]
  omega

section
variable {hB : Heap} {w b w2 b2 : Int} {q1 q2 : Option Addr} {c1 c2 : Nat} {ws ws2 : List Nat} {dx dy : Int} {K : Value → Heap → Prop} {Kp : List PanicEntry → Heap → Prop}
set_option maxRecDepth 100000 in
set_option maxHeartbeats 1000000 in
theorem rfEnc_ok (hr1 : rdO hB q1 (ws.length * 1) (u64s ws)) (hw1 : W64 ws) (hl1 : ws.length < 140737488351300) (hr2 : rdO hB q2 (ws2.length * 1) (u64s ws2)) (hw2 : W64 ws2) (hl2 : ws2.length < 140737488351300)
    (hk : ∀ e bs D qo c h', EncR w b w2 b2 ws ws2 dx dy e bs → Slot T_uint8 1 D qo bs.length c (Go.Ar.u8s bs) → Hp hB [] h' D → K (.tuple #[.slice qo bs.length c, .int .i64 e]) h') :
    CP F_refine_Encode #[.agg #[.int .i64 w, .int .i64 b, .slice q1 ws.length c1], .agg #[.int .i64 w2, .int .i64 b2, .slice q2 ws2.length c2], .int .i64 dx, .int .i64 dy] hB K Kp := by
  refine call_refine_Encode ?_
  unfold refine_Encode
  have H := Hp.nil hB []
  refine newC_hp H fun r7 h H => ?_
  refine newC_hp H fun r9 h H => ?_
  refine Go.Ar.new_ok (n := 8192) (by decide) (by decide) fun p q r h H' => ?_
  replace H := H.join H' rfl
  clear H'
  refine ⟨_, _, rfl, ?_⟩
  refine bcase_false (by rfl) ?_
  refine ldI_of (Hp.cellA H 0 rfl (i := 0) rfl) ?_
  refine ldI_of (Hp.cellA H 0 rfl (i := 1) rfl) ?_
  refine ldS_of (Hp.cellA H 0 rfl (i := 2) rfl) ?_
  refine ldI_of (Hp.cellA H 1 rfl (i := 0) rfl) ?_
  refine ldI_of (Hp.cellA H 1 rfl (i := 1) rfl) ?_
  refine ldS_of (Hp.cellA H 1 rfl (i := 2) rfl) ?_
  refine rfPut_ok (base := 0) (H.give [2, 3, 4] (by decide) rfl) (newC_ok 8192) (by decide) (by decide) (by decide) (H.rdO hr1) hw1 hl1 (fun h' e => rdO_ext e (H.rdO hr2)) hw2 hl2 may_px (fun h' hn H' => ?_) (fun h' hm hn H' => ?_) (fun h' hm hs hn H' => absurd ⟨by omega, by omega⟩ hn) fun s' r' rest' G h' hm hs hbb hrun hok H' => ?_
  · refine ⟨_, rfl, ?_⟩
    refine bcase_true (by rfl) ?_
    exact hk 62 [] [] none 0 h' (.inl ⟨hn, rfl, rfl⟩) (Slot.nil _ _) ((H.put [2, 3, 4] (by decide) rfl rfl H' rfl rfl).take 0)
  · refine ⟨_, rfl, ?_⟩
    refine bcase_true (by rfl) ?_
    exact hk 70 [] [] none 0 h' (.inr (.inl ⟨hm, hn, rfl, rfl⟩)) (Slot.nil _ _) ((H.put [2, 3, 4] (by decide) rfl rfl H' rfl rfl).take 0)
  · replace H := H.put [2, 3, 4] (by decide) rfl rfl H' rfl rfl
    clear H'
    refine ⟨_, rfl, ?_⟩
    refine bcase_false (by rfl) ?_
    refine Go.Ar.flush_ok (H.give [2, 3, 4] (by decide) rfl) hok.wf hok.done fun r3 rest3 o orest h' H' => ?_
    have H := Go.Bm.Hp.backD H [2, 3, 4] (by decide) rfl rfl H' rfl rfl rfl
    clear H'
    refine ⟨_, _, _, _, rfl, ?_⟩
    refine hk 0 _ [⟨o, true, T_uint8, Go.Ar.u8s (bytesM (flushM s')) ++ orest⟩] _ _ h' (.inr (.inr ⟨hm, hs, rfl, G, s', hrun, by simpa using hok, rfl⟩)) (Slot.one (by rw [Go.Ar.u8s_length, Nat.mul_one]) (by rw [List.length_append, Go.Ar.u8s_length, Nat.mul_one])) (Hp.suf H)

set_option maxRecDepth 100000 in
set_option maxHeartbeats 1000000 in
theorem rrEnc_ok (hr1 : rdO hB q1 (ws.length * 1) (u64s ws)) (hw1 : W64 ws) (hl1 : ws.length < 140737488351300) (hr2 : rdO hB q2 (ws2.length * 1) (u64s ws2)) (hw2 : W64 ws2) (hl2 : ws2.length < 140737488351300)
    (hk : ∀ e bs D qo c h', EncR w b w2 b2 ws ws2 dx dy e bs → Slot T_uint8 1 D qo bs.length c (Go.Ar.u8s bs) → Hp hB [] h' D → K (.tuple #[.slice qo bs.length c, .int .i64 e]) h') :
    CP F_burinref8_Encode #[.agg #[.int .i64 w, .int .i64 b, .slice q1 ws.length c1], .agg #[.int .i64 w2, .int .i64 b2, .slice q2 ws2.length c2], .int .i64 dx, .int .i64 dy] hB K Kp := by
  refine call_burinref8_Encode ?_
  unfold burinref8_Encode
  have H := Hp.nil hB []
  refine newC_hp H fun r7 h H => ?_
  refine newC_hp H fun r9 h H => ?_
  refine ldI_of (Hp.cellA H 0 rfl (i := 0) rfl) ?_
  refine ldI_of (Hp.cellA H 0 rfl (i := 1) rfl) ?_
  refine ldS_of (Hp.cellA H 0 rfl (i := 2) rfl) ?_
  refine may_ok (H.rdO hr1) hw1 hl1 fun bm h1 hbm e1 => ?_
  have H := H.ext e1
  refine ⟨_, rfl, ?_⟩
  refine bcase_not (fun h2 => ?_) fun h2 => ?_
  · exact hk 62 [] [] none 0 _ (.inl ⟨(fun hh => by rw [hbm.2 hh.1] at h2; cases h2), rfl, rfl⟩) (Slot.nil _ _) (H.take 0)
  have hma := hbm.1 h2
  refine ldI_of (Hp.cellA H 1 rfl (i := 0) rfl) ?_
  refine ldI_of (Hp.cellA H 1 rfl (i := 1) rfl) ?_
  refine ldS_of (Hp.cellA H 1 rfl (i := 2) rfl) ?_
  refine may_ok (H.rdO hr2) hw2 hl2 fun bm h1 hbm e1 => ?_
  have H := H.ext e1
  refine ⟨_, rfl, ?_⟩
  refine bcase_not (fun h2 => ?_) fun h2 => ?_
  · exact hk 62 [] [] none 0 _ (.inl ⟨(fun hh => by rw [hbm.2 hh.2] at h2; cases h2), rfl, rfl⟩) (Slot.nil _ _) (H.take 0)
  have hmb := hbm.1 h2
  refine may8_ok fun bs hbs => ?_
  refine ⟨_, rfl, ?_⟩
  refine bcase_not (fun h3 => ?_) fun h3 => ?_
  · exact hk 70 [] [] none 0 _ (.inr (.inl ⟨⟨hma, hmb⟩, (fun hh => by rw [hbs.2 hh] at h3; cases h3), rfl, rfl⟩)) (Slot.nil _ _) (H.take 0)
  have hsh := hbs.1 h3
  refine Go.Ar.rnew_ok (n := 8192) (by decide) fun A r h H' => ?_
  replace H := H.join H' rfl
  clear H'
  refine ⟨_, rfl, ?_⟩
  obtain ⟨W, X, rfl, rfl, hW1, hW2, hX1, hX2, hWX⟩ := size_nat hma.1
  obtain ⟨W2, X2, rfl, rfl, _, _, _, _, _⟩ := size_nat hmb.1
  refine ldI_of (Hp.cellA H 0 rfl (i := 0) rfl) ?_
  refine ldI_of (Hp.cellA H 0 rfl (i := 1) rfl) ?_
  refine ldS_of (Hp.cellA H 0 rfl (i := 2) rfl) ?_
  refine ldI_of (Hp.cellA H 1 rfl (i := 0) rfl) ?_
  refine ldI_of (Hp.cellA H 1 rfl (i := 1) rfl) ?_
  refine ldS_of (Hp.cellA H 1 rfl (i := 2) rfl) ?_
  have hpx := may_px hma
  simp only [Int.toNat_natCast] at hpx
  refine rrPut_ok (base := 0) (n0 := 0) (Hp.rot H) (newC_ok 8192) (by decide) (by decide) (by decide) hr1 hw1 hr2 hw2 hma hmb hsh hpx fun s' r' rest' h' hrun hok H => ?_
  refine ⟨_, rfl, ?_⟩
  refine bcase_false (by rfl) ?_
  refine Go.Ar.rflush_ok (H.give [0, 1, 2, 3, 4] (by decide) rfl) hok.wf hok.done fun r3 rest3 o orest h' H' => ?_
  have H := Go.Bm.Hp.backD H [0, 1, 2, 3, 4] (by decide) rfl rfl H' rfl rfl rfl
  clear H'
  refine ⟨_, _, _, _, rfl, ?_⟩
  refine hk 0 _ [⟨o, true, T_uint8, Go.Ar.u8s (bytesM (flushM s')) ++ orest⟩] _ _ h' (.inr (.inr ⟨⟨hma, hmb⟩, hsh, rfl, _, s', by simpa using hrun, by simpa using hok, rfl⟩)) (Slot.one (by rw [Go.Ar.u8s_length, Nat.mul_one]) (by rw [List.length_append, Go.Ar.u8s_length, Nat.mul_one])) (Hp.suf H)
end
end Go.Bm

/- RfI: refine.Get's decider: bits out of the decoder. -/
set_option linter.unusedVariables false
set_option linter.unusedSimpArgs false
namespace Go.Bm
open Go Go.Den Go.Den.Ytcicfilkdhhnmaa
open Go.Ar (Dec decL idx getD_ok getD_bit BOk)

def stepG (m : Nat) (base : Int) (s : Dec) (n : Nat) (_ : Bool) : (Bool × Dec) ⊕ (Int × Dec) := .inl (decide ((Go.Ar.getD s (idx (base + (n : Int)) m)).2 = 1), (Go.Ar.getD s (idx (base + (n : Int)) m)).1)
def SG (p q rc rb : Nat) (base : Int) (e : Ent) (bp : Option Addr) (bc : Nat) (s : Dec) (M : List Ent) : Prop := BOk e bp s.b ∧ M = decL p q e bp bc s ++ [⟨rc, true, T_p_arith_Decoder, [.pointer (at0 p)]⟩, ⟨rb, true, T_int, [.int .i64 base]⟩]
theorem stepG_inl {m : Nat} {base : Int} {W : Nat} {R : Int → Int → Bool} {dx dy : Int} (g : (Int → Int → Bool) × Dec) : ∀ k, ∃ g', runN W R dx dy (stepG m base) k g = .inl g'
  | 0 => ⟨_, rfl⟩
  | k + 1 => by
    obtain ⟨⟨G, s⟩, hg⟩ := stepG_inl (m := m) (base := base) (W := W) (R := R) (dx := dx) (dy := dy) g k
    unfold runN
    rw [hg]
    exact ⟨_, rfl⟩

theorem SG.w {p q rc rb : Nat} {base : Int} {e : Ent} {bp : Option Addr} {bc : Nat} {s : Dec} {M : List Ent} (h : SG p q rc rb base e bp bc s M) : M.all Ent.w = true := by
  obtain ⟨h1, rfl⟩ := h
  simp [decL, Go.Ar.decE, h1.1]

set_option maxRecDepth 100000 in
theorem getDec_ok {p q rc rb m n0 N : Nat} {e : Ent} {bp : Option Addr} {bc : Nat} {base : Int} {bytes : List Nat} (hbl : bytes.length < 140737488351300) (hb : 0 ≤ base ∧ base ≤ 131072) (hm1 : 1 ≤ m) (hm2 : m ≤ 131072) (hN : n0 + N ≤ 16777216) :
    DecOk N (SG p q rc rb base e bp bc) (fun k s => Go.Ar.DecOk bytes m (n0 + k) s) (stepG m base) (.func (.func F_refine_Get_c1) #[] #[.pointer (some ⟨rc, 0, none⟩), .pointer (some ⟨rb, 0, none⟩)]) := by
  intro h0 h FF s n bit K Kp M k hok hk hn hM H hgood hbad
  obtain ⟨hbok, rfl⟩ := hM
  show CP F_refine_Get_c1 #[.int .i64 (n : Nat), .int .i64 (bit.toNat : Nat), .pointer (some ⟨rc, 0, none⟩), .pointer (some ⟨rb, 0, none⟩)] h K Kp
  refine call_refine_Get_c1 (cap0 := ⟨rc, 0, none⟩) (cap1 := ⟨rb, 0, none⟩) ?_
  unfold refine_Get_c1
  refine ldP_of (H.cell 3 rfl (i := 0) rfl) ?_
  refine ldI_of (H.cell 4 rfl (i := 0) rfl) ?_
  refine bindI_of ((base + (n : Int))) (by exact i64_in _ (by omega) (by omega)) ?_
  refine Go.Ar.get_ok (H.give [0, 1, 2] (by decide) rfl) hbok hok.wf (by rw [hok.b]; exact hbl) (by rw [hok.n]; omega) (by rw [hok.len]; exact hm1) (by rw [hok.len]; exact hm2) fun h' H' => ?_
  have hbw := hbok.1
  replace H := H.put [0, 1, 2] (by decide) rfl (by simp [decL, Go.Ar.decE, hbw]) H' (by simp [decL, Go.Ar.decE, hbw]) rfl
  clear H'
  refine ⟨_, _, rfl, ?_⟩
  refine bcase_false (by rfl) ?_
  rw [hok.len] at H ⊢
  have hbit := getD_bit (s := s) (idx (base + (n : Int)) m)
  have hbn := (Go.Ar.getD_n s (idx (base + (n : Int)) m)).2.2
  have e1 : (Go.Ar.getD s (idx (base + (n : Int)) m)).2 = (decide ((Go.Ar.getD s (idx (base + (n : Int)) m)).2 = 1)).toNat := by
    by_cases h1 : (Go.Ar.getD s (idx (base + (n : Int)) m)).2 = 1
    · rw [decide_eq_true h1, h1]; rfl
    · rw [decide_eq_false h1]; show _ = 0; omega
  rw [e1]
  exact hgood _ _ _ h' rfl (getD_ok hok _ (by omega)) ⟨by rw [hbn]; exact hbok, rfl⟩ H
end Go.Bm

/- RfJ: refine.Get. -/
set_option linter.unusedVariables false
set_option linter.unusedSimpArgs false
namespace Go.Bm
open Go Go.Den Go.Den.Ytcicfilkdhhnmaa
open Go.Ar (Dec decL idx BOk)

def GetR (bytes : List Nat) (m n0 : Nat) (base w b w2 b2 : Int) (ws2 : List Nat) (dx dy : Int) (s : Dec) (e w' b' : Int) (bs : List Nat) (s' : Dec) : Prop :=
  ¬ MayP w2 b2 ws2 ∧ e = 62 ∧ w' = 0 ∧ b' = 0 ∧ bs = [] ∧ s' = s ∨
  MayP w2 b2 ws2 ∧ ¬ SizeP w b ∧ e = 63 ∧ w' = 0 ∧ b' = 0 ∧ bs = [] ∧ s' = s ∨
  MayP w2 b2 ws2 ∧ SizeP w b ∧ ¬ ShiftP dx dy ∧ e = 70 ∧ w' = 0 ∧ b' = 0 ∧ bs = [] ∧ s' = s ∨
  MayP w2 b2 ws2 ∧ SizeP w b ∧ ShiftP dx dy ∧ ¬ (0 ≤ base ∧ base ≤ (m : Int) - 8192) ∧ e = 51 ∧ w' = 0 ∧ b' = 0 ∧ bs = [] ∧ s' = s ∨
  MayP w2 b2 ws2 ∧ SizeP w b ∧ ShiftP dx dy ∧ (0 ≤ base ∧ base ≤ (m : Int) - 8192) ∧ e = 0 ∧ w' = w ∧ b' = b ∧ runN w.toNat (getP ws2 w2.toNat b2.toNat) dx dy (stepG m base) (b.toNat * w.toNat) (fun _ _ => false, s) = .inl (getP bs w.toNat b.toNat, s') ∧
    bs.length = b.toNat * wds w.toNat ∧ W64 bs ∧ PadZ w.toNat b.toNat bs ∧ Go.Ar.DecOk bytes m (n0 + b.toNat * w.toNat) s'
theorem getP_zero (n W X : Nat) : getP (List.replicate n 0) W X = fun _ _ => false := by
  funext x y
  unfold getP
  rw [pix_zero, Bool.and_false]

set_option maxRecDepth 100000 in
set_option maxHeartbeats 1000000 in
theorem rfGet_ok {h0 h : Heap} {FF : List Nat} {p q m n0 : Nat} {e0 : Ent} {bp : Option Addr} {bc : Nat} {s : Dec} {bytes : List Nat} (H : Hp h0 FF h (decL p q e0 bp bc s)) (hb : BOk e0 bp s.b) (hbl : bytes.length < 140737488351300) (hc : Go.Ar.DecOk bytes m n0 s) (hm1 : 1 ≤ m) (hm2 : m ≤ 131072) {base : Int}
    {w b w2 b2 : Int} {q2 : Option Addr} {c2 : Nat} {ws2 : List Nat} (hr2 : rdO h q2 (ws2.length * 1) (u64s ws2)) (hw2 : W64 ws2) (hl2 : ws2.length < 140737488351300)
    {dx dy : Int} (hN : SizeP w b → n0 + b.toNat * w.toNat ≤ 16777216) {K : Value → Heap → Prop} {Kp : List PanicEntry → Heap → Prop}
    (hk : ∀ e w' b' bs s' D qo c h', GetR bytes m n0 base w b w2 b2 ws2 dx dy s e w' b' bs s' → Slot T_uint64 1 D qo bs.length c (u64s bs) → Hp h0 FF h' (decL p q e0 bp bc s' ++ D) → K (.tuple #[.agg #[.int .i64 w', .int .i64 b', .slice qo bs.length c], .int .i64 e]) h') :
    CP F_refine_Get #[.pointer (at0 p), .int .i64 base, .int .i64 w, .int .i64 b, .agg #[.int .i64 w2, .int .i64 b2, .slice q2 ws2.length c2], .int .i64 dx, .int .i64 dy] h K Kp := by
  refine call_refine_Get ?_
  unfold refine_Get
  refine newC_hpx H fun r4 h1 x1 H => ?_
  refine newC_hpx H fun r6 h2 x2 H => ?_
  refine newC_hpx H fun r8 h3 x3 H => ?_
  refine newC_hpx H fun r10 h4 x4 H => ?_
  have x := ((x1.trans x2).trans x3).trans x4
  clear x1 x2 x3 x4
  have bad : ∀ (e : Int) (h : Heap) (T : List Ent), (∀ h', Hp h0 FF h' (decL p q e0 bp bc s ++ []) → K (.tuple #[.agg #[.int .i64 0, .int .i64 0, .slice none 0 0], .int .i64 e]) h') → Hp h0 FF h (decL p q e0 bp bc s ++ [⟨r4, true, T_p_arith_Decoder, [.pointer (at0 p)]⟩, ⟨r6, true, T_int, [.int .i64 base]⟩, ⟨r8, true, T_api_Bitmap, [.int .i64 w2, .int .i64 b2, .slice q2 ws2.length c2]⟩, ⟨r10, true, T_api_Bitmap, [.int .i64 0, .int .i64 0, .slice none 0 0]⟩] ++ T) →
      stV h ((⟨r10, 0, none⟩ : Addr).add 0) (.int .i64 0) fun h_13 => stV h_13 ((⟨r10, 0, none⟩ : Addr).add 1) (.int .i64 0) fun h_14 => stV h_14 ((⟨r10, 0, none⟩ : Addr).add 2) (.slice none 0 0) fun h_15 =>
        ldI h_15 ((⟨r10, 0, none⟩ : Addr).add 0) .i64 fun r_16 => ldI h_15 ((⟨r10, 0, none⟩ : Addr).add 1) .i64 fun r_17 => ldS h_15 ((⟨r10, 0, none⟩ : Addr).add 2) fun r_18 r_18n r_18c =>
          K (.tuple #[.agg #[.int .i64 r_16, .int .i64 r_17, .slice r_18 r_18n r_18c], .int .i64 e]) h_15 := fun e h T hk H => by
    rw [add_mk, add_mk, add_mk]
    refine stV_hp H 6 rfl (Nat.le_of_ble_eq_true rfl) rfl fun h hsz H => ?_
    refine stV_hp H 6 rfl (Nat.le_of_ble_eq_true rfl) rfl fun h hsz H => ?_
    refine stV_hp H 6 rfl (Nat.le_of_ble_eq_true rfl) rfl fun h hsz H => ?_
    refine ldI_of (H.cell 6 rfl (i := 0) rfl) ?_
    refine ldI_of (H.cell 6 rfl (i := 1) rfl) ?_
    refine ldS_of (H.cell 6 rfl (i := 2) rfl) ?_
    exact hk _ ((H.take 3).as (List.append_nil _).symm)
  refine ldP_of (H.cell 3 rfl (i := 0) rfl) ?_
  refine bcase_false (by rfl) ?_
  refine ldI_of (Hp.cellA H 5 rfl (i := 0) rfl) ?_
  refine ldI_of (Hp.cellA H 5 rfl (i := 1) rfl) ?_
  refine ldS_of (Hp.cellA H 5 rfl (i := 2) rfl) ?_
  refine from_ok (rdO_ext x hr2) hw2 hl2 (fun W2 X2 p2 qs2 srest2 h5 hwW hbX hm H' => ?_) fun h5 hm e5 => ?_
  · subst hwW hbX
    replace H := H.join H' rfl
    clear H'
    refine ⟨_, _, rfl, ?_⟩
    refine bcase_false (by rfl) ?_
    refine newM_ok (fun W X p1 qs h6 hw hx hsz H' => ?_) fun hn => ?_
    · subst hw hx
      have H2 : Hp h5 [] h6 [mapE p1 qs W X (X * wds W) (X * wds W), ⟨qs, true, T_uint64, u64s (List.replicate (X * wds W) 0) ++ []⟩] := by
        unfold mapL at H'
        rw [List.length_replicate] at H'
        exact H'
      clear H'
      have H' := H2
      clear H2
      replace H := H.join H' rfl
      clear H'
      refine ⟨_, _, rfl, ?_⟩
      refine bcase_false (by rfl) ?_
      refine shifts_ok fun bs hbs => ?_
      refine ⟨_, rfl, ?_⟩
      refine bcase_not (fun h3 => ?_) fun h3 => ?_
      · exact bad 70 _ _ (fun h' H' => hk 70 0 0 [] s [] none 0 h' (.inr (.inr (.inl ⟨hm, hsz, (fun hh => by rw [hbs.2 hh] at h3; cases h3), rfl, rfl, rfl, rfl, rfl⟩))) (Slot.nil _ _) H') H
      have hsh := hbs.1 h3
      refine ldI_of (H.cell 4 rfl (i := 0) rfl) ?_
      refine ldP_of (H.cell 3 rfl (i := 0) rfl) ?_
      refine ptr_of (a := ⟨p, 0, none⟩) ?_
      rw [add_mk, Nat.zero_add]
      refine Go.Ar.contexts_ok (n := s.st.length) H 0 rfl ?_
      refine ⟨_, rfl, hext.refl _, ?_⟩
      rw [hc.len]
      refine fits8_ok (by omega) fun bf hbf => ?_
      refine ⟨_, rfl, ?_⟩
      refine bcase_not (fun h2 => ?_) fun h2 => ?_
      · exact bad 51 _ _ (fun h' H' => hk 51 0 0 [] s [] none 0 h' (.inr (.inr (.inr (.inl ⟨hm, hsz, hsh, (fun hh => by rw [hbf.2 hh] at h2; cases h2), rfl, rfl, rfl, rfl, rfl⟩)))) (Slot.nil _ _) H') H
      have hft := hbf.1 h2
      have hX := hN hsz
      simp only [Int.toNat_natCast] at hX
      have HH : Hp h6 _ h6 ([mapE p1 qs W X (X * wds W) (X * wds W), ⟨qs, true, T_uint64, u64s (List.replicate (X * wds W) 0) ++ []⟩, mapE p2 qs2 W2 X2 ws2.length (ws2.length + srest2.length), ⟨qs2, true, T_uint64, u64s ws2 ++ srest2⟩] ++ (decL p q e0 bp bc s ++ [⟨r4, true, T_p_arith_Decoder, [.pointer (at0 p)]⟩, ⟨r6, true, T_int, [.int .i64 base]⟩])) := H.give [9, 10, 7, 8, 0, 1, 2, 3, 4] (by decide) rfl
      refine run_ok (σ := Dec) (S := SG p q r4 r6 base e0 bp bc) (Ok := fun k s => Go.Ar.DecOk bytes m (n0 + k) s) (step := stepG m base) (fun s M hM => hM.w) (getDec_ok hbl ⟨by omega, by omega⟩ hm1 hm2 hX) ⟨hb, rfl⟩ HH (by simp) rfl hsz rfl (W64.zero _) (fun y hy x h1 h2 => pix_zero _ _ _ _) hm.1 (may_len hm) hw2 hsh.1 hsh.2 hc (fun ws' s' M h' T hM hrun hlen hww hz hok' H' => ?_) fun e ws' s' M h' T hM hrun _ _ H' => ?_
      · have hMw := hM.w
        obtain ⟨hb', rfl⟩ := hM
        have H := H.put [9, 10, 7, 8, 0, 1, 2, 3, 4] (by decide) rfl (by simp [decL, Go.Ar.decE, hb.1, mapE]) (Hp.suf H') (by simp [decL, Go.Ar.decE, hb.1, mapE]) rfl
        clear H'
        have hlen2 : ws'.length = X * wds W := hlen
        have H : Hp h0 FF h' (decL p q e0 bp bc s' ++ [⟨r4, true, T_p_arith_Decoder, [.pointer (at0 p)]⟩, ⟨r6, true, T_int, [.int .i64 base]⟩, ⟨r8, true, T_api_Bitmap, [.int .i64 (W2 : Nat), .int .i64 (X2 : Nat), .slice q2 ws2.length c2]⟩, ⟨r10, true, T_api_Bitmap, [.int .i64 0, .int .i64 0, .slice none 0 0]⟩] ++ [mapE p2 qs2 W2 X2 ws2.length (ws2.length + srest2.length), ⟨qs2, true, T_uint64, u64s ws2 ++ srest2⟩, mapE p1 qs W X (X * wds W) (X * wds W), ⟨qs, true, T_uint64, u64s ws' ++ []⟩]) := H
        obtain ⟨W', X', e1, e2, hW1, hW2, hX1, hX2, hWX⟩ := size_nat hsz
        obtain rfl : W = W' := by omega
        obtain rfl : X = X' := by omega
        have hhw := hw_le hW1 hWX
        have hpos : 1 ≤ X * wds W := Nat.mul_pos hX1 (by unfold wds; omega)
        refine ⟨_, rfl, ?_⟩
        refine bcase_false (by rfl) ?_
        refine plain_ok (ws := ws') (rest := []) H 9 10 (by rw [hlen]; rfl) rfl (by omega) (by omega) fun o orest h' H => ?_
        refine ⟨_, _, _, _, _, rfl, ?_⟩
        rw [add_mk, add_mk, add_mk]
        refine stV_hp H 6 rfl (Nat.le_of_ble_eq_true rfl) rfl fun h hs2 H => ?_
        refine stV_hp H 6 rfl (Nat.le_of_ble_eq_true rfl) rfl fun h hs2 H => ?_
        refine stV_hp H 6 rfl (Nat.le_of_ble_eq_true rfl) rfl fun h hs2 H => ?_
        refine ldI_of (H.cell 6 rfl (i := 0) rfl) ?_
        refine ldI_of (H.cell 6 rfl (i := 1) rfl) ?_
        refine ldS_of (H.cell 6 rfl (i := 2) rfl) ?_
        rw [getP_zero] at hrun
        refine hk 0 _ _ ws' s' [⟨o, true, T_uint64, u64s ws' ++ orest⟩] _ _ h (.inr (.inr (.inr (.inr ⟨hm, hsz, hsh, hft, rfl, rfl, rfl, by simpa using hrun, by simpa using hlen2, hww, by simpa using hz, by simpa using hok'⟩)))) (Slot.one (by rw [u64s_length, Nat.mul_one]) (by rw [List.length_append, u64s_length, Nat.mul_one])) ?_
        exact H.pick [0, 1, 2, 11] (by decide) rfl
      · obtain ⟨g', hg⟩ := stepG_inl (m := m) (base := base) (W := W) (R := getP ws2 W2 X2) (dx := dx) (dy := dy) (getP (List.replicate (X * wds W) 0) W X, s) (X * W)
        rw [hg] at hrun
        cases hrun
    · refine ⟨_, _, rfl, ?_⟩
      refine bcase_true (by rfl) ?_
      exact bad 63 _ _ (fun h' H' => hk 63 0 0 [] s [] none 0 h' (.inr (.inl ⟨hm, hn, rfl, rfl, rfl, rfl, rfl⟩)) (Slot.nil _ _) H') H
  · have H := H.ext e5
    refine ⟨_, _, rfl, ?_⟩
    refine bcase_true (by rfl) ?_
    exact bad 62 _ [] (fun h' H' => hk 62 0 0 [] s [] none 0 h' (.inl ⟨hm, rfl, rfl, rfl, rfl, rfl⟩) (Slot.nil _ _) H') H
end Go.Bm

/- RfK: refine.Decode. -/
set_option linter.unusedVariables false
set_option linter.unusedSimpArgs false
namespace Go.Bm
open Go Go.Den Go.Den.Ytcicfilkdhhnmaa
open Go.Ar (Dec decL idx BOk newD newD_ok u8s)

theorem size_px {w b : Int} (h : SizeP w b) : 0 + b.toNat * w.toNat ≤ 16777216 := by
  obtain ⟨W, X, rfl, rfl, hW1, hW2, hX1, hX2, hWX⟩ := size_nat h
  simp only [Int.toNat_natCast]
  rw [Nat.mul_comm]
  omega

set_option maxRecDepth 100000 in
set_option maxHeartbeats 1000000 in
theorem rfDec_ok {hB : Heap} {src : Option Addr} {bc0 : Nat} {bytes : List Nat} (hbb : ∀ x ∈ bytes, x < 256) (hbl : bytes.length < 140737488351300) (hr : rdO hB src (bytes.length * 1) (u8s bytes))
    {w b w2 b2 : Int} {q2 : Option Addr} {c2 : Nat} {ws2 : List Nat} (hr2 : rdO hB q2 (ws2.length * 1) (u64s ws2)) (hw2 : W64 ws2) (hl2 : ws2.length < 140737488351300) {dx dy : Int} {K : Value → Heap → Prop} {Kp : List PanicEntry → Heap → Prop}
    (hk : ∀ e w' b' bs s' D qo c h', GetR bytes 8192 0 0 w b w2 b2 ws2 dx dy (newD bytes 8192) e w' b' bs s' → Slot T_uint64 1 D qo bs.length c (u64s bs) → Hp hB [] h' D → K (.tuple #[.agg #[.int .i64 w', .int .i64 b', .slice qo bs.length c], .int .i64 e]) h') :
    CP F_refine_Decode #[.slice src bytes.length bc0, .int .i64 w, .int .i64 b, .agg #[.int .i64 w2, .int .i64 b2, .slice q2 ws2.length c2], .int .i64 dx, .int .i64 dy] hB K Kp := by
  refine call_refine_Decode ?_
  unfold refine_Decode
  refine newC_hpx (Hp.nil hB []) fun r4 h1 x1 H => ?_
  refine newC_hpx H fun r6 h2 x2 H => ?_
  refine Go.Ar.newDecoder_ok (n := 8192) (by decide) (by decide) hbb hbl (rdO_ext (x1.trans x2) hr) fun p q e0 bp bc h3 hbok H' => ?_
  replace H := H.join H' (by simp [decL, Go.Ar.decE, hbok.1])
  clear H'
  refine ⟨_, _, rfl, ?_⟩
  refine bcase_false (by rfl) ?_
  refine ldI_of (Hp.cellA H 0 rfl (i := 0) rfl) ?_
  refine ldI_of (Hp.cellA H 0 rfl (i := 1) rfl) ?_
  refine ldS_of (Hp.cellA H 0 rfl (i := 2) rfl) ?_
  have hd := newD_ok hbb 8192
  refine rfGet_ok (bytes := bytes) (base := 0) (n0 := 0) (H.give [2, 3, 4] (by decide) rfl) (by rw [hd.b]; exact hbok) hbl hd (by decide) (by decide) (H.rdO hr2) hw2 hl2 size_px fun e w' b' bs s' D qo c h' hg hsl H' => ?_
  have H := Go.Bm.Hp.backD H [2, 3, 4] (by decide) rfl (by simp [decL, Go.Ar.decE, hbok.1]) H' (by simp [decL, Go.Ar.decE, hbok.1]) hsl.w rfl
  clear H'
  have H : Hp hB [] h' (([⟨r4, true, T_api_Bitmap, [.int .i64 w2, .int .i64 b2, .slice q2 ws2.length c2]⟩, ⟨r6, true, T_api_Bitmap, [.int .i64 0, .int .i64 0, .slice none 0 0]⟩] ++ decL p q e0 bp bc s') ++ D) := H
  refine ⟨_, _, _, _, _, _, rfl, ?_⟩
  rw [add_mk, add_mk, add_mk]
  refine stV_hp H 1 rfl (Nat.le_of_ble_eq_true rfl) rfl fun h hs2 H => ?_
  refine stV_hp H 1 rfl (Nat.le_of_ble_eq_true rfl) rfl fun h hs2 H => ?_
  refine stV_hp H 1 rfl (Nat.le_of_ble_eq_true rfl) rfl fun h hs2 H => ?_
  refine ldI_of (H.cell 1 rfl (i := 0) rfl) ?_
  refine ldI_of (H.cell 1 rfl (i := 1) rfl) ?_
  refine ldS_of (H.cell 1 rfl (i := 2) rfl) ?_
  have H : Hp hB [] h (([⟨r4, true, T_api_Bitmap, [.int .i64 w2, .int .i64 b2, .slice q2 ws2.length c2]⟩, ⟨r6, true, T_api_Bitmap, [.int .i64 w', .int .i64 b', .slice qo bs.length c]⟩] ++ decL p q e0 bp bc s') ++ D) := H
  exact hk e w' b' bs s' D qo c h hg hsl (Hp.suf H)
end Go.Bm

/- BkA: what the decoder reads is what the coder wrote: the interval of a code, plain numbers. No Go, no memory. -/
set_option linter.unusedVariables false
set_option linter.unusedSimpArgs false
namespace Go.Ar

/-! ### a code's value -/
/-- Of bytes, the last one first: a byte behind a 255 has seven bits of its own. -/
def valR : List Nat → Nat
  | [] => 0
  | x :: r => valR r * (if r.head? = some 255 then 128 else 256) + x
def valL (l : List Nat) : Nat := valR l.reverse
theorem valL_snoc (l : List Nat) (x : Nat) : valL (l ++ [x]) = valL l * (if l.getLast? = some 255 then 128 else 256) + x := by
  unfold valL
  rw [List.reverse_append, List.reverse_singleton, List.singleton_append, valR, List.head?_reverse]

/-! ### the whole code, ones behind it -/
section
variable (E : List Nat)
def fE (k : Nat) : Nat := E.getD k 255
def lenE (k : Nat) : Nat := if k < E.length ∧ fE E (k - 1) = 255 then 7 else 8
def XE : Nat → Nat
  | 0 => fE E 0
  | k + 1 => XE k * 2 ^ lenE E (k + 1) + fE E (k + 1)
def BE : Nat → Nat
  | 0 => 0
  | k + 1 => BE k + lenE E (k + 1)
end

theorem lenE_le (E : List Nat) (k : Nat) : lenE E k ≤ 8 ∧ 7 ≤ lenE E k := by unfold lenE; split <;> omega
theorem BE_mono (E : List Nat) {j k : Nat} (h : j ≤ k) : BE E j ≤ BE E k := by
  induction k with
  | zero => have : j = 0 := by omega
            subst this; exact Nat.le_refl _
  | succ k ih =>
    rcases Nat.lt_or_ge k j with h1 | h1
    · have : j = k + 1 := by omega
      subst this; exact Nat.le_refl _
    · exact Nat.le_trans (ih h1) (Nat.le_add_right _ _)
/-- A code's beginnings only grow. -/
theorem XE_mono (E : List Nat) {j k : Nat} (h : j ≤ k) : XE E j * 2 ^ BE E k ≤ XE E k * 2 ^ BE E j := by
  induction k with
  | zero => have : j = 0 := by omega
            subst this; exact Nat.le_refl _
  | succ k ih =>
    rcases Nat.lt_or_ge k j with h1 | h1
    · have : j = k + 1 := by omega
      subst this; exact Nat.le_refl _
    · have h2 := ih h1
      show XE E j * 2 ^ (BE E k + lenE E (k + 1)) ≤ (XE E k * 2 ^ lenE E (k + 1) + fE E (k + 1)) * 2 ^ BE E j
      rw [Nat.pow_add, ← Nat.mul_assoc, Nat.add_mul]
      have h3 := Nat.mul_le_mul_right (2 ^ lenE E (k + 1)) h2
      have e : XE E k * 2 ^ BE E j * 2 ^ lenE E (k + 1) = XE E k * 2 ^ lenE E (k + 1) * 2 ^ BE E j := Nat.mul_right_comm _ _ _
      omega
/-- Behind the end: ones. -/
theorem XE_end (E : List Nat) {m : Nat} (hm : m + 1 = E.length) : ∀ d, XE E (m + d) + 1 = (XE E m + 1) * 2 ^ (8 * d) ∧ BE E (m + d) = BE E m + 8 * d
  | 0 => by simp
  | d + 1 => by
    obtain ⟨h1, h2⟩ := XE_end E hm d
    have hl : lenE E (m + d + 1) = 8 := by unfold lenE; rw [if_neg (by omega)]
    have hf : fE E (m + d + 1) = 255 := by unfold fE; rw [List.getD_eq_getElem?_getD, List.getElem?_eq_none (by omega)]; rfl
    constructor
    · show XE E (m + d) * 2 ^ lenE E (m + d + 1) + fE E (m + d + 1) + 1 = _
      rw [hl, hf, show 8 * (d + 1) = 8 * d + 8 by omega, Nat.pow_add, ← Nat.mul_assoc, ← h1]
      omega
    · show BE E (m + d) + lenE E (m + d + 1) = _
      rw [hl, h2]; omega
theorem valL_XE (E : List Nat) : ∀ (p : List Nat) (x : Nat), p.length < E.length → (∀ j v, p[j]? = some v → fE E j = v) → valL (p ++ [x]) + fE E p.length = XE E p.length + x := by
  intro p
  have key : ∀ (n : Nat) (p : List Nat) (x : Nat), p.length = n → p.length < E.length → (∀ j v, p[j]? = some v → fE E j = v) → valL (p ++ [x]) + fE E p.length = XE E p.length + x := by
    intro n
    induction n with
    | zero =>
      intro p x hn hl hp
      have : p = [] := List.length_eq_zero_iff.1 hn
      subst this
      rw [valL_snoc]
      show valL [] * _ + x + fE E 0 = fE E 0 + x
      simp [valL, valR]; omega
    | succ n ih =>
      intro p x hn hl hp
      obtain ⟨q, y, rfl⟩ : ∃ q y, p = q ++ [y] := by
        rcases List.eq_nil_or_concat p with rfl | ⟨q, y, rfl⟩
        · simp at hn
        · exact ⟨q, y, by simp⟩
      have hq : q.length = n := by simp at hn; exact hn
      have hy : fE E q.length = y := hp q.length y (by simp)
      have h1 := ih q y hq (by omega) (fun j v hv => hp j v (by rw [List.getElem?_append_left (List.getElem?_eq_some_iff.1 hv).1]; exact hv))
      have h2 : valL (q ++ [y]) = XE E q.length := by omega
      rw [valL_snoc, h2, hn]
      have hlen : (if (q ++ [y]).getLast? = some 255 then 128 else 256) = 2 ^ lenE E (n + 1) := by
        unfold lenE
        rw [List.getLast?_concat, Nat.add_sub_cancel, ← hq, hy]
        by_cases h3 : y = 255
        · rw [if_pos (by rw [h3]), if_pos ⟨by rw [hn] at hl; omega, h3⟩]
        · rw [if_neg (by simpa using h3), if_neg (by simp [h3])]
      rw [hlen, ← hq]
      show _ = XE E q.length * 2 ^ lenE E (q.length + 1) + fE E (q.length + 1) + x
      omega
  exact fun x => key p.length p x rfl

/-! ### a coder's interval, and the code that becomes of it -/
def lowC (s : Cod) : Nat := valL (s.bs ++ [s.l]) * 2 ^ (27 - s.t) + s.c

/-- The code 'E' may become of a coder whose interval is 'A' wide. -/
structure Fut (E : List Nat) (s : Cod) (A : Nat) : Prop where
  len : s.bs.length < E.length
  pre : ∀ j v, s.bs[j]? = some v → fE E j = v
  last : fE E s.bs.length = s.l ∨ fE E s.bs.length = s.l + 1 ∧ s.l ≠ 255
  lo : ∀ k, s.bs.length < k → lowC s * 2 ^ BE E k < (XE E k + 1) * 2 ^ (BE E s.bs.length + (27 - s.t))
  hi : ∀ k, XE E k * 2 ^ (BE E s.bs.length + (27 - s.t)) < (lowC s + A) * 2 ^ BE E k

/-- A part of the interval. -/
theorem Fut.part {E : List Nat} {s : Cod} {A a' c' n' : Nat} {st' : List Nat} {d' : Bool} (h : Fut E { s with a := a', c := c', n := n', st := st', done := d' } A) {A0 : Nat} (h1 : s.c ≤ c') (h2 : c' + A ≤ s.c + A0) : Fut E s A0 := by
  have hl : lowC { s with a := a', c := c', n := n', st := st', done := d' } = lowC s + (c' - s.c) := by
    show valL (s.bs ++ [s.l]) * 2 ^ (27 - s.t) + c' = valL (s.bs ++ [s.l]) * 2 ^ (27 - s.t) + s.c + (c' - s.c)
    omega
  refine ⟨h.len, h.pre, h.last, fun k hk => ?_, fun k => ?_⟩
  · have := h.lo k hk
    rw [hl, Nat.add_mul] at this
    exact Nat.lt_of_le_of_lt (Nat.le_add_right _ _) this
  · have := h.hi k
    rw [hl] at this
    exact Nat.lt_of_lt_of_le this (Nat.mul_le_mul_right _ (by omega))
/-- The interval seen nearer. -/
theorem Fut.near {E : List Nat} {s : Cod} {A j a' : Nat} (h : Fut E { s with a := a', c := s.c * 2 ^ j, t := s.t - j } (A * 2 ^ j)) (hj : j ≤ s.t) (ht : s.t ≤ 27) : Fut E s A := by
  have hl : lowC { s with a := a', c := s.c * 2 ^ j, t := s.t - j } = lowC s * 2 ^ j := by
    show valL (s.bs ++ [s.l]) * 2 ^ (27 - (s.t - j)) + s.c * 2 ^ j = (valL (s.bs ++ [s.l]) * 2 ^ (27 - s.t) + s.c) * 2 ^ j
    rw [Nat.add_mul, Nat.mul_assoc, ← Nat.pow_add]
    congr 3; omega
  have he : BE E s.bs.length + (27 - (s.t - j)) = BE E s.bs.length + (27 - s.t) + j := by omega
  have hp : 0 < 2 ^ j := Nat.two_pow_pos j
  refine ⟨h.len, h.pre, h.last, fun k hk => ?_, fun k => ?_⟩
  · have h1 : _ < (XE E k + 1) * 2 ^ (BE E s.bs.length + (27 - (s.t - j))) := h.lo k hk
    rw [hl, he, Nat.pow_add _ _ j, ← Nat.mul_assoc, Nat.mul_right_comm] at h1
    exact Nat.lt_of_mul_lt_mul_right h1
  · have h1 : XE E k * 2 ^ (BE E s.bs.length + (27 - (s.t - j))) < _ := h.hi k
    rw [hl, he, Nat.pow_add _ _ j, ← Nat.mul_assoc, ← Nat.add_mul, Nat.mul_right_comm (lowC s + A)] at h1
    exact Nat.lt_of_mul_lt_mul_right h1
theorem outTail_low (s : Cod) (l c : Nat) (hc : c < 2 ^ 28) (hc2 : l ≠ 255 → c < 2 ^ 27) : lowC (outTail s l c) = valL (s.bs ++ [l]) * 2 ^ 27 + c := by
  unfold outTail lowC
  split
  · rename_i h
    show valL ((s.bs ++ [l]) ++ [c / 1048576 % 256]) * 2 ^ (27 - 7) + c % 1048576 = _
    rw [valL_snoc, List.getLast?_concat, if_pos (by rw [h])]
    generalize valL (s.bs ++ [l]) = v
    omega
  · rename_i h
    have := hc2 h
    show valL ((s.bs ++ [l]) ++ [c / 524288 % 256]) * 2 ^ (27 - 8) + c % 524288 = _
    rw [valL_snoc, List.getLast?_concat, if_neg (by simpa using h)]
    generalize valL (s.bs ++ [l]) = v
    omega
theorem Fut.tail {E : List Nat} {s : Cod} {A l c : Nat} (h : Fut E (outTail s l c) A) (hc : c < 2 ^ 28) (hc2 : l ≠ 255 → c < 2 ^ 27) (ht : s.t = 0) (hl : l = s.l ∧ c = s.c ∨ l = s.l + 1 ∧ s.l ≠ 255 ∧ c + 2 ^ 27 = s.c) : Fut E s A := by
  have hlow : lowC (outTail s l c) = lowC s := by
    rw [outTail_low s l c hc hc2]
    unfold lowC
    rw [ht, valL_snoc, valL_snoc]
    rcases hl with ⟨rfl, rfl⟩ | ⟨rfl, _, h2⟩
    · rfl
    · generalize (valL s.bs * if s.bs.getLast? = some 255 then 128 else 256) = v
      omega
  have hbs : (outTail s l c).bs = s.bs ++ [l] := by unfold outTail; split <;> rfl
  have hpre := h.pre
  have hlen := h.len
  rw [hbs] at hpre hlen
  have hfl : fE E s.bs.length = l := hpre s.bs.length l (by simp)
  have hlen' : s.bs.length + 1 < E.length := by simpa using hlen
  have hB : BE E (s.bs.length + 1) + (27 - (outTail s l c).t) = BE E s.bs.length + 27 := by
    show BE E s.bs.length + lenE E (s.bs.length + 1) + _ = _
    have : lenE E (s.bs.length + 1) + (27 - (outTail s l c).t) = 27 := by
      unfold lenE outTail
      rw [Nat.add_sub_cancel, hfl]
      by_cases h3 : l = 255
      · simp only [if_pos h3]; rw [if_pos ⟨hlen', h3⟩]
      · simp only [if_neg h3]; rw [if_neg (by simp [h3])]
    omega
  have hsl : (outTail s l c).bs.length = s.bs.length + 1 := by rw [hbs]; simp
  have hlo := h.lo
  have hhi := h.hi
  rw [hsl, hB, hlow] at hlo hhi
  refine ⟨by omega, fun j v hv => hpre j v (by rw [List.getElem?_append_left (List.getElem?_eq_some_iff.1 hv).1]; exact hv), ?_, fun k hk => ?_, fun k => ?_⟩
  · rw [hfl]
    rcases hl with ⟨rfl, rfl⟩ | ⟨rfl, h1, _⟩
    · exact .inl rfl
    · exact .inr ⟨rfl, h1⟩
  · rw [ht]
    rcases Nat.lt_or_ge (s.bs.length + 1) k with h1 | h1
    · exact hlo k h1
    · have hk : k = s.bs.length + 1 := by omega
      subst hk
      rw [← hlow, Nat.sub_zero, ← hB, Nat.pow_add, ← Nat.mul_assoc, Nat.mul_right_comm]
      refine Nat.mul_lt_mul_of_pos_right ?_ (Nat.two_pow_pos _)
      have hX := valL_XE E (s.bs ++ [l]) (outTail s l c).l (by simpa using hlen') hpre
      have hle : (outTail s l c).l ≤ fE E (s.bs.length + 1) := by
        have := h.last
        rw [hsl] at this
        omega
      rw [List.length_append, List.length_singleton] at hX
      have hcl : (outTail s l c).c < 2 ^ (27 - (outTail s l c).t) := by
        unfold outTail
        split
        · exact Nat.mod_lt _ (by decide)
        · exact Nat.mod_lt _ (by decide)
      unfold lowC
      rw [hbs]
      have h4 : valL (s.bs ++ [l] ++ [(outTail s l c).l]) ≤ XE E (s.bs.length + 1) := by omega
      have h5 := Nat.mul_le_mul_right (2 ^ (27 - (outTail s l c).t)) h4
      rw [Nat.add_mul]
      omega
  · rw [ht]; exact hhi k
theorem Fut.out {E : List Nat} {s : Cod} {A : Nat} (h : Fut E (outM s) A) (ht : s.t = 0) (hc : s.c < 2 ^ 28) : Fut E s A := by
  unfold outM at h
  split at h
  · rename_i h1
    refine h.tail (by omega) (fun _ => by omega) ht (.inr ⟨rfl, h1.1, by omega⟩)
  · rename_i h1
    exact h.tail hc (fun h2 => by
      rcases Nat.lt_or_ge s.c 134217728 with h3 | h3
      · exact h3
      · exact absurd ⟨h2, h3⟩ h1) ht (.inl ⟨rfl, rfl⟩)

end Go.Ar

/- BkB: coder and decoder in step: what is decoded are the decisions; no byte above 8f behind an ff. No Go, no memory. -/
set_option linter.unusedVariables false
set_option linter.unusedSimpArgs false
namespace Go.Ar

theorem outM_t (s : Cod) (t : Nat) : outM { s with t := t } = outM s := rfl
theorem outM_ct (s : Cod) : (outM s).c = s.c % 2 ^ (27 - (outM s).t) ∧ ((outM s).t = 7 ∨ (outM s).t = 8) := by
  unfold outM outTail
  split
  · split
    · refine ⟨?_, .inl rfl⟩; show s.c % 134217728 % 1048576 = s.c % 1048576; omega
    · refine ⟨?_, .inr rfl⟩; show s.c % 134217728 % 524288 = s.c % 524288; omega
  · split
    · exact ⟨rfl, .inl rfl⟩
    · exact ⟨rfl, .inr rfl⟩

theorem Fut.shift {E : List Nat} {s : Cod} {A : Nat} (h : Fut E (shiftM s) (2 * A)) (ht : 1 ≤ s.t) (ht2 : s.t ≤ 12) (hc : s.c < 2 ^ (28 - s.t)) : Fut E s A := by
  have key : Fut E { s with a := 2 * s.a, c := s.c * 2 ^ 1, t := s.t - 1 } (A * 2 ^ 1) := by
    rw [Nat.pow_one, Nat.mul_comm s.c 2, Nat.mul_comm A 2]
    unfold shiftM at h
    simp only [] at h
    split at h
    · rename_i h1
      have h1 : s.t - 1 = 0 := h1
      have : s.t = 1 := by omega
      rw [this] at hc
      exact h.out h1 (by show 2 * s.c < 2 ^ 28; omega)
    · exact h
  exact key.near ht (by omega)

theorem Fut.renew {E : List Nat} : ∀ (k : Nat) {s : Cod}, Mid s → s.a < 0x8000 → 0x8000 ≤ s.a * 2 ^ k → Fut E (renewM k s) (renewM k s).a → Fut E s s.a
  | 0, s, h, ha, hk, _ => by simp at hk; omega
  | k + 1, s, h, ha, hk, hF => by
    obtain ⟨h1, h2, h3, h4, h5, h6⟩ := shiftM_mid h ha
    have hc := h.ca
    unfold renewM at hF
    simp only [] at hF
    split at hF
    · rw [h2] at hF
      exact hF.shift h.t1 h.t12 (by omega)
    · rename_i hlt
      have hk' : 0x8000 ≤ (shiftM s).a * 2 ^ k := by
        rw [h2]
        rw [Nat.pow_succ] at hk
        have : s.a * (2 ^ k * 2) = 2 * s.a * 2 ^ k := by rw [Nat.mul_comm (2 ^ k) 2, ← Nat.mul_assoc, Nat.mul_comm s.a 2]
        omega
      have := Fut.renew k h1 (by omega) hk' hF
      rw [h2] at this
      exact this.shift h.t1 h.t12 (by omega)

/-- The code that Flush makes. -/
def codeE (s : Cod) : List Nat := s.bs ++ [s.l]
theorem flushC_mod (s : Cod) : 32768 ∣ flushC s + 1 := by
  unfold flushC
  simp only []
  split <;> omega
theorem fut_flush {s : Cod} (hs : Wf s) : Fut (codeE (flushM s)) s s.a := by
  have hca := hs.ca
  have ht1 := hs.t1
  have ht2 := hs.t12
  have hlo := hs.lo
  have hhi := hs.hi
  have hf1 : s.c ≤ flushC s ∧ flushC s + 1 ≤ s.c + s.a := by
    unfold flushC
    simp only []
    split <;> omega
  have hmod := flushC_mod s
  generalize hcf : flushC s = cf at hf1 hmod
  -- the states
  have hF : flushM s = flushS (flushS { s with c := cf, done := true }) := by unfold flushM; rw [hcf]
  generalize hS0 : ({ s with c := cf, done := true } : Cod) = S0 at hF
  have hS0t : S0.t = s.t := by rw [← hS0]
  have hS0c : S0.c = cf := by rw [← hS0]
  have hS1 : flushS S0 = outM { S0 with c := S0.c * 2 ^ S0.t, t := S0.t - S0.t } := (outM_t { S0 with c := S0.c * 2 ^ S0.t } _).symm
  generalize hG1 : flushS S0 = S1 at hF hS1
  have hS2 : flushM s = outM { S1 with c := S1.c * 2 ^ S1.t, t := S1.t - S1.t } := hF.trans (outM_t { S1 with c := S1.c * 2 ^ S1.t } _).symm
  generalize hG2 : flushM s = F at hS2
  obtain ⟨hc1, ht1'⟩ := outM_ct { S0 with c := S0.c * 2 ^ S0.t, t := S0.t - S0.t }
  obtain ⟨hc2, ht2'⟩ := outM_ct { S1 with c := S1.c * 2 ^ S1.t, t := S1.t - S1.t }
  rw [← hS1] at hc1 ht1'
  rw [← hS2] at hc2 ht2'
  have hc1 : S1.c = cf * 2 ^ s.t % 2 ^ (27 - S1.t) := by rw [hc1, ← hS0c, ← hS0t]
  have hc2 : F.c = S1.c * 2 ^ S1.t % 2 ^ (27 - F.t) := hc2
  -- the last interval
  have hdv : 2 ^ (27 - F.t) ≤ F.c + 2 ^ (s.t + S1.t) := by
    have e1 : F.c = cf * 2 ^ (s.t + S1.t) % 2 ^ (27 - F.t) := by
      rw [hc2, hc1, ← Nat.mul_mod_mul_right, ← Nat.pow_add, Nat.mul_assoc, ← Nat.pow_add, Nat.mod_mod_of_dvd]
      exact Nat.pow_dvd_pow 2 (by omega)
    have e2 : (F.c + 2 ^ (s.t + S1.t)) % 2 ^ (27 - F.t) = 0 := by
      rw [e1, Nat.mod_add_mod, ← Nat.succ_mul]
      refine Nat.mod_eq_zero_of_dvd (Nat.dvd_trans (Nat.pow_dvd_pow 2 (show 27 - F.t ≤ 15 + (s.t + S1.t) by omega)) ?_)
      rw [Nat.pow_add]
      exact Nat.mul_dvd_mul_right hmod _
    have e3 := Nat.two_pow_pos (s.t + S1.t)
    exact Nat.le_of_dvd (by omega) (Nat.dvd_of_mod_eq_zero e2)
  have hclt : F.c < 2 ^ (27 - F.t) := by rw [hc2]; exact Nat.mod_lt _ (Nat.two_pow_pos _)
  have hEl : F.bs.length + 1 = (codeE F).length := by simp [codeE]
  have hpre : ∀ j v, F.bs[j]? = some v → fE (codeE F) j = v := fun j v hj => by
    unfold fE codeE
    rw [List.getD_eq_getElem?_getD, List.getElem?_append_left (List.getElem?_eq_some_iff.1 hj).1, hj]; rfl
  have hlast : fE (codeE F) F.bs.length = F.l := by
    unfold fE codeE
    rw [List.getD_eq_getElem?_getD]; simp
  have hX : valL (F.bs ++ [F.l]) = XE (codeE F) F.bs.length := by
    have := valL_XE (codeE F) F.bs F.l (by omega) hpre
    rw [hlast] at this
    omega
  have hlow : lowC F = XE (codeE F) F.bs.length * 2 ^ (27 - F.t) + F.c := by unfold lowC; rw [hX]
  have fF : Fut (codeE F) F (2 ^ (s.t + S1.t)) := by
    refine ⟨by omega, hpre, .inl hlast, fun k hk => ?_, fun k => ?_⟩
    · obtain ⟨d, rfl⟩ : ∃ d, k = F.bs.length + d := ⟨k - F.bs.length, by omega⟩
      obtain ⟨h1, h2⟩ := XE_end (codeE F) hEl d
      rw [h1, h2, hlow, Nat.pow_add, Nat.pow_add]
      have h3 : XE (codeE F) F.bs.length * 2 ^ (27 - F.t) + F.c < (XE (codeE F) F.bs.length + 1) * 2 ^ (27 - F.t) := by rw [Nat.add_mul]; omega
      have h4 := Nat.mul_lt_mul_of_pos_right h3 (show 0 < 2 ^ BE (codeE F) F.bs.length * 2 ^ (8 * d) from Nat.mul_pos (Nat.two_pow_pos _) (Nat.two_pow_pos _))
      have e : (XE (codeE F) F.bs.length + 1) * 2 ^ (8 * d) * (2 ^ BE (codeE F) F.bs.length * 2 ^ (27 - F.t)) = (XE (codeE F) F.bs.length + 1) * 2 ^ (27 - F.t) * (2 ^ BE (codeE F) F.bs.length * 2 ^ (8 * d)) := by
        simp only [Nat.mul_assoc, Nat.mul_comm, Nat.mul_left_comm]
      rw [e]
      exact h4
    · rcases Nat.lt_or_ge k F.bs.length with hk | hk
      · have h1 := XE_mono (codeE F) (Nat.le_of_lt hk)
        have h2 := Nat.mul_le_mul_right (2 ^ (27 - F.t)) h1
        rw [hlow, Nat.pow_add, ← Nat.mul_assoc]
        refine Nat.lt_of_le_of_lt h2 ?_
        rw [Nat.mul_right_comm]
        refine Nat.mul_lt_mul_of_pos_right ?_ (Nat.two_pow_pos _)
        have := Nat.two_pow_pos (s.t + S1.t)
        omega
      · obtain ⟨d, rfl⟩ : ∃ d, k = F.bs.length + d := ⟨k - F.bs.length, by omega⟩
        obtain ⟨h1, h2⟩ := XE_end (codeE F) hEl d
        have h3 : XE (codeE F) (F.bs.length + d) < (XE (codeE F) F.bs.length + 1) * 2 ^ (8 * d) := by omega
        rw [h2, hlow]
        have h4 := Nat.mul_lt_mul_of_pos_right h3 (Nat.two_pow_pos (BE (codeE F) F.bs.length + (27 - F.t)))
        refine Nat.lt_of_lt_of_le h4 ?_
        have h5 : (XE (codeE F) F.bs.length + 1) * 2 ^ (27 - F.t) ≤ XE (codeE F) F.bs.length * 2 ^ (27 - F.t) + F.c + 2 ^ (s.t + S1.t) := by rw [Nat.add_mul]; omega
        have h6 := Nat.mul_le_mul_right (2 ^ (BE (codeE F) F.bs.length + 8 * d)) h5
        refine Nat.le_trans (Nat.le_of_eq ?_) h6
        rw [Nat.pow_add, Nat.pow_add]
        simp only [Nat.mul_assoc, Nat.mul_comm, Nat.mul_left_comm]
  -- backwards
  generalize codeE F = E at fF ⊢
  rw [hS2] at fF
  have hp1 : (2 : Nat) ^ (27 - S1.t) * 2 ^ S1.t = 2 ^ 27 := by rw [← Nat.pow_add]; congr 1; omega
  have hc1lt : S1.c < 2 ^ (27 - S1.t) := by rw [hc1]; exact Nat.mod_lt _ (Nat.two_pow_pos _)
  have f1 := fF.out (Nat.sub_self _) (by
    show S1.c * 2 ^ S1.t < 2 ^ 28
    have := Nat.mul_lt_mul_of_pos_right hc1lt (Nat.two_pow_pos S1.t)
    omega)
  rw [Nat.pow_add] at f1
  have f2 : Fut E S1 (2 ^ s.t) := f1.near (a' := S1.a) (Nat.le_refl _) (by omega)
  rw [hS1] at f2
  have f3 := f2.out (Nat.sub_self _) (by
    show S0.c * 2 ^ S0.t < 2 ^ 28
    rw [hS0c, hS0t]
    have h1 : cf < 2 ^ (28 - s.t) := by omega
    have h2 := Nat.mul_lt_mul_of_pos_right h1 (Nat.two_pow_pos s.t)
    have h3 : (2 : Nat) ^ (28 - s.t) * 2 ^ s.t = 2 ^ 28 := by rw [← Nat.pow_add]; congr 1; omega
    omega)
  rw [← hS0t] at f3
  have f3' : Fut E { S0 with c := S0.c * 2 ^ S0.t, t := S0.t - S0.t } (1 * 2 ^ S0.t) := by rw [Nat.one_mul]; exact f3
  have f4 : Fut E S0 1 := f3'.near (a' := S0.a) (Nat.le_refl _) (by omega)
  rw [← hS0] at f4
  exact Fut.part (s := s) (a' := s.a) (n' := s.n) (st' := s.st) f4 hf1.1 hf1.2

end Go.Ar
